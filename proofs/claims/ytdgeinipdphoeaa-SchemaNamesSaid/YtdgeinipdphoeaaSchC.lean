/- Schemas: small functions: 'within', and which values are right, the program's and the reference's. -/
import Derived.Test.YtdgeinipdphoeaaSchB
namespace Go.Proofs.Ytdgeinipdphoeaa
set_option linter.unusedVariables false
set_option linter.unusedSimpArgs false
open Go.ChangeShapes Go.WideShapes Go.ChangeAt Go.RowKit

theorem within_any (n a b : Int) (w : World) : Calls Try.prog 47 #[.int .i64 n, .int .i64 a, .int .i64 b] w fun e w' => e = .returned (.bool (decide (a ≤ n ∧ n ≤ b))) ∧ w = w' := by
  by_cases h1 : a ≤ n
  · by_cases h2 : n ≤ b
    · go_enter Try.func47, Try.ntmps47
      go_wp2
      go_ret
      exact ⟨ret_bool (by simp [h1, h2]), rfl⟩
    · go_enter Try.func47, Try.ntmps47
      go_wp2
      go_ret
      exact ⟨ret_bool (by simp [h1, h2]), rfl⟩
  · go_enter Try.func47, Try.ntmps47
    go_wp2
    go_ret
    exact ⟨ret_bool (by simp; intro h; omega), rfl⟩
/-- Is a value right? -/
def valB (s : ByteArray) (nl : Bool) : Bool := decide (s.size ≤ 100) && (!nl || decide (s.size = 0))
theorem refValue_any (s : ByteArray) (hs : s.size ≤ 9223372036854775807) (nl : Bool) (w : World) : Calls Try.prog 54 #[.agg #[.string s, .bool nl]] w fun e w' => e = .returned (.bool (valB s nl)) ∧ Below w.heap.size w w' := by
  have he : s.toList.isEmpty = decide (s.size = 0) := by
    rw [ByteArray.toList_eq]
    cases h : s.data.toList with
    | nil => have : s.size = 0 := by (show s.data.size = 0); rw [← Array.length_toList, h]; rfl
             simp [this]
    | cons a l => have : s.size = l.length + 1 := by (show s.data.size = _); rw [← Array.length_toList, h]; rfl
                  simp [this]
  by_cases h1 : s.size ≤ 100
  · cases nl with
    | false =>
      go_enter Try.func54, Try.ntmps54
      go_wp2
      go_ret
      exact ⟨ret_bool (by simp [valB, h1]), by (repeat' (first | (with_reducible exact Below.refl _ _) | (with_reducible assumption) | (with_reducible refine Below.new ?_ _) | (with_reducible refine Below.alloc ?_ ?_ _) | (with_reducible refine Below.drew ?_) | (with_reducible refine Below.setCell ?_ ?_ _) | (refine Below.step ?_ (by assumption)) | go_size))⟩
    | true =>
      by_cases h2 : s.size = 0
      · have he2 : s.toList.isEmpty = true := by simp [he, h2]
        clear he
        go_enter Try.func54, Try.ntmps54
        go_wp2
        go_ret
        exact ⟨ret_bool (by simp [valB, h2]), by (repeat' (first | (with_reducible exact Below.refl _ _) | (with_reducible assumption) | (with_reducible refine Below.new ?_ _) | (with_reducible refine Below.alloc ?_ ?_ _) | (with_reducible refine Below.drew ?_) | (with_reducible refine Below.setCell ?_ ?_ _) | (refine Below.step ?_ (by assumption)) | go_size))⟩
      · have he2 : s.toList.isEmpty = false := by simp [he, h2]
        clear he
        go_enter Try.func54, Try.ntmps54
        go_wp2
        go_ret
        exact ⟨ret_bool (by simp [valB, h2]), by (repeat' (first | (with_reducible exact Below.refl _ _) | (with_reducible assumption) | (with_reducible refine Below.new ?_ _) | (with_reducible refine Below.alloc ?_ ?_ _) | (with_reducible refine Below.drew ?_) | (with_reducible refine Below.setCell ?_ ?_ _) | (refine Below.step ?_ (by assumption)) | go_size))⟩
  · go_enter Try.func54, Try.ntmps54
    go_wp2
    go_ret
    exact ⟨ret_bool (by simp [valB, h1]), by (repeat' (first | (with_reducible exact Below.refl _ _) | (with_reducible assumption) | (with_reducible refine Below.new ?_ _) | (with_reducible refine Below.alloc ?_ ?_ _) | (with_reducible refine Below.drew ?_) | (with_reducible refine Below.setCell ?_ ?_ _) | (refine Below.step ?_ (by assumption)) | go_size))⟩
theorem isValue_any (s : ByteArray) (hs : s.size ≤ 9223372036854775807) (nl : Bool) (w : World) : Calls Try.prog 52 #[.agg #[.string s, .bool nl]] w fun e w' => e = .returned (.bool (valB s nl)) ∧ Below w.heap.size w w' := by
  have he : s.toList.isEmpty = decide (s.size = 0) := by
    rw [ByteArray.toList_eq]
    cases h : s.data.toList with
    | nil => have : s.size = 0 := by (show s.data.size = 0); rw [← Array.length_toList, h]; rfl
             simp [this]
    | cons a l => have : s.size = l.length + 1 := by (show s.data.size = _); rw [← Array.length_toList, h]; rfl
                  simp [this]
  cases nl with
  | false =>
    by_cases h1 : s.size ≤ 100
    · go_enter Try.func52, Try.ntmps52
      go_wp2
      all_goals (go_ret; exact ⟨ret_bool (by simp [valB, h1]; try omega), by (repeat' (first | (with_reducible exact Below.refl _ _) | (with_reducible assumption) | (with_reducible refine Below.new ?_ _) | (with_reducible refine Below.alloc ?_ ?_ _) | (with_reducible refine Below.drew ?_) | (with_reducible refine Below.setCell ?_ ?_ _) | (refine Below.step ?_ (by assumption)) | go_size))⟩)
    · go_enter Try.func52, Try.ntmps52
      go_wp2
      all_goals (go_ret; exact ⟨ret_bool (by simp [valB, h1]; try omega), by (repeat' (first | (with_reducible exact Below.refl _ _) | (with_reducible assumption) | (with_reducible refine Below.new ?_ _) | (with_reducible refine Below.alloc ?_ ?_ _) | (with_reducible refine Below.drew ?_) | (with_reducible refine Below.setCell ?_ ?_ _) | (refine Below.step ?_ (by assumption)) | go_size))⟩)
  | true =>
    by_cases h2 : s.size = 0
    · have he2 : s.toList.isEmpty = true := by simp [he, h2]
      clear he
      go_enter Try.func52, Try.ntmps52
      go_wp2
      all_goals (go_ret; exact ⟨ret_bool (by simp [valB, h2]), by (repeat' (first | (with_reducible exact Below.refl _ _) | (with_reducible assumption) | (with_reducible refine Below.new ?_ _) | (with_reducible refine Below.alloc ?_ ?_ _) | (with_reducible refine Below.drew ?_) | (with_reducible refine Below.setCell ?_ ?_ _) | (refine Below.step ?_ (by assumption)) | go_size))⟩)
    · have he2 : s.toList.isEmpty = false := by simp [he, h2]
      clear he
      go_enter Try.func52, Try.ntmps52
      go_wp2
      all_goals (go_ret; exact ⟨ret_bool (by simp [valB, h2]), by (repeat' (first | (with_reducible exact Below.refl _ _) | (with_reducible assumption) | (with_reducible refine Below.new ?_ _) | (with_reducible refine Below.alloc ?_ ?_ _) | (with_reducible refine Below.drew ?_) | (with_reducible refine Below.setCell ?_ ?_ _) | (refine Below.step ?_ (by assumption)) | go_size))⟩)
end Go.Proofs.Ytdgeinipdphoeaa
