/- Packed lists: how many bytes numbers have; digits that wait. -/
import Derived.Test.YtpgifmccajcgkaaDoorPkB
import Derived.Test.YtpgifmccajcgkaaDoorBlk
import Derived.Test.YtpgifmccajcgkaaDoorVarJ
import Derived.Deep.RegionHeld3
namespace Go.Proofs.YtpgifmccajcgkaaDoor
set_option linter.unusedVariables false
set_option linter.unusedSimpArgs false
open Go.ChangeShapes Go.WideShapes Go.ChangeAt Go.RowKit

def sizeV (n w : Int) : Int := if n < 0 ∨ w < 0 then 0 else (n * w + 7) / 8
theorem size_any (n k : Int) (w : World) (hb : (0 ≤ n ∧ 0 ≤ k) → n * k ≤ 1000000000) : Calls Tryd.prog 41 #[.int .i64 n, .int .i64 k] w fun e w' => e = .returned (.int .i64 (sizeV n k)) ∧ w = w' := by
  by_cases h1 : n < 0
  · have e1 : sizeV n k = 0 := by simp [sizeV, h1]
    rw [e1]; clear e1 hb
    go_enter Tryd.func41, Tryd.ntmps41
    go_wp2
    go_ret
    exact ⟨rfl, rfl⟩
  · by_cases h2 : k < 0
    · have e1 : sizeV n k = 0 := by simp [sizeV, h2]
      rw [e1]; clear e1 hb
      go_enter Tryd.func41, Tryd.ntmps41
      go_wp2
      go_ret
      exact ⟨rfl, rfl⟩
    · have e1 : sizeV n k = (n * k + 7) / 8 := by simp [sizeV, h1, h2]
      have h3 := hb ⟨by omega, by omega⟩
      have h4 : 0 ≤ n * k := Int.mul_nonneg (by omega) (by omega)
      rw [e1]; clear e1 hb
      go_enter Tryd.func41, Tryd.ntmps41
      go_wp2
      go_ret
      exact ⟨ret_int (by omega), rfl⟩
theorem refSize_any (n k : Int) (w : World) (hb : (0 ≤ n ∧ 0 ≤ k) → n * k ≤ 1000000000) : Calls Tryd.prog 42 #[.int .i64 n, .int .i64 k] w fun e w' => e = .returned (.int .i64 (sizeV n k)) ∧ w = w' := by
  by_cases h1 : n ≤ 0
  · have e1 : sizeV n k = 0 := by
      unfold sizeV
      split
      · rfl
      · obtain rfl : n = 0 := by omega
        simp
    rw [e1]; clear e1 hb
    go_enter Tryd.func42, Tryd.ntmps42
    go_wp2
    go_ret
    exact ⟨rfl, rfl⟩
  · by_cases h2 : k ≤ 0
    · have e1 : sizeV n k = 0 := by
        unfold sizeV
        split
        · rfl
        · obtain rfl : k = 0 := by omega
          simp
      rw [e1]; clear e1 hb
      go_enter Tryd.func42, Tryd.ntmps42
      go_wp2
      go_ret
      exact ⟨rfl, rfl⟩
    · have e1 : sizeV n k = (n * k + 7) / 8 := by
        unfold sizeV; rw [if_neg (by omega)]
      have h3 := hb ⟨by omega, by omega⟩
      have h4 : 0 ≤ n * k := Int.mul_nonneg (by omega) (by omega)
      rw [e1]; clear e1 hb
      go_enter Tryd.func42, Tryd.ntmps42
      go_wp2
      go_ret
      exact ⟨rfl, rfl⟩

/-- A block that begins with digits that wait: their number, how many they are. -/
abbrev DigAt (w : World) (b : Nat) (a c : Nat) (x : Value) (t : TypeId) : Prop := w.heap[b]? = some (.cells #[.int .u64 (a : Int), .int .i64 (c : Int), x] t (0, 0))

theorem or_add (a k v : Nat) (hv : v < 2 ^ k) (hlt : a * 2 ^ k + v < 18446744073709551616) : bits .or .u64 (IntKind.u64.wrap ((a : Int) * 2 ^ k)) (v : Int) = ((a * 2 ^ k + v : Nat) : Int) := by
  have h1 : IntKind.u64.wrap ((a : Int) * 2 ^ k) = ((a * 2 ^ k : Nat) : Int) := by
    have : (a : Int) * 2 ^ k = ((a * 2 ^ k : Nat) : Int) := by simp
    rw [this, IntKind.wrap_u64]; omega
  rw [h1, bits_or_u64 _ _ (by omega) (by omega), Nat.mul_comm, Nat.two_pow_add_eq_or_of_lt hv]
theorem add_lt {a c k v : Nat} (ha : a < 2 ^ c) (hv : v < 2 ^ k) : a * 2 ^ k + v < 2 ^ (c + k) := by
  rw [Nat.pow_add]
  have : (a + 1) * 2 ^ k ≤ 2 ^ c * 2 ^ k := Nat.mul_le_mul_right _ ha
  rw [Nat.add_mul] at this
  omega

set_option maxRecDepth 100000 in
set_option maxHeartbeats 1000000 in
theorem add_any (b a c v k : Nat) (x : Value) (t : TypeId) (w : World) (hd : DigAt w b a c x t) (hk : k ≤ 16) (hc : c ≤ 30) (ha : a < 2 ^ c) (hv : v < 2 ^ k) :
    Calls Tryd.prog 77 #[.pointer (some ⟨b, 0, none⟩), .int .u64 (v : Int), .int .i64 (k : Int)] w fun e w' => (∃ r, e = .returned r) ∧ DigAt w' b (a * 2 ^ k + v) (c + k) x t ∧ OnlyAt b w w' := by
  have c0 : w.cell? ⟨b, 0, none⟩ = some (.int .u64 (a : Int)) := by rw [blk_cell hd]; rfl
  have c1 : w.cell? ⟨b, 1, none⟩ = some (.int .i64 (c : Int)) := by rw [blk_cell hd]; rfl
  have f0 : w.frozen? ⟨b, 0, none⟩ = false := blk_free hd
  have f1 : w.frozen? ⟨b, 1, none⟩ = false := blk_free hd
  have HD := hid hd
  have hlt := add_lt ha hv
  have h46 : (2 : Nat) ^ (c + k) ≤ 2 ^ 46 := Nat.pow_le_pow_right (by decide) (by omega)
  have h46' : (2 : Nat) ^ 46 = 70368744177664 := by decide
  have HX := hid (or_add a k v hv (by omega))
  clear hd ha hv hlt h46 h46'
  go_enter Tryd.func77, Tryd.ntmps77
  go_wp2
  go_region
  go_wp2
  rw [HX.out]
  go_end0
  exact ⟨⟨_, rfl⟩, blk_set (o := 1) (v := .int .i64 (((c + k : Nat)) : Int)) (blk_set (o := 0) (v := .int .u64 ((a * 2 ^ k + v : Nat) : Int)) HD.out), (((OnlyAt.refl b w).setCell _).setCell _).drew⟩

theorem and_mask (a d : Nat) (ha : a < 18446744073709551616) (hd : d ≤ 30) : bits .and .u64 (a : Int) (2 ^ d - 1) = ((a % 2 ^ d : Nat) : Int) := by
  have hle : (2 : Nat) ^ d ≤ 2 ^ 30 := Nat.pow_le_pow_right (by decide) hd
  have h30 : (2 : Nat) ^ 30 = 1073741824 := by decide
  have hp : 0 < (2 : Nat) ^ d := Nat.two_pow_pos d
  have e0 : ((2 : Int) ^ d - 1) = ((2 ^ d - 1 : Nat) : Int) := by
    have : ((2 : Int) ^ d) = ((2 ^ d : Nat) : Int) := by simp
    omega
  have e : bits .and .u64 (a : Int) ((2 : Int) ^ d - 1) = IntKind.u64.wrap (((BitVec.ofInt 64 (a : Int)).toNat &&& (BitVec.ofInt 64 ((2 : Int) ^ d - 1)).toNat : Nat) : Int) := by
    show IntKind.u64.wrap ((BitVec.ofInt 64 (a : Int) &&& BitVec.ofInt 64 ((2 : Int) ^ d - 1)).toNat : Int) = _
    rw [BitVec.toNat_and]
  rw [e, ofInt_at (a : Int) a (by omega), e0, ofInt_at ((2 ^ d - 1 : Nat) : Int) (2 ^ d - 1) (by omega), Nat.and_two_pow_sub_one_eq_mod, IntKind.wrap_u64]
  have := Nat.mod_lt a hp
  omega
theorem and_mask' (a d : Nat) (ha : a < 18446744073709551616) (hd : d ≤ 30) : bits .and .u64 (a : Int) (IntKind.u64.wrap (IntKind.u64.wrap (2 ^ d) - 1)) = ((a % 2 ^ d : Nat) : Int) := by
  have hle : (2 : Nat) ^ d ≤ 2 ^ 30 := Nat.pow_le_pow_right (by decide) hd
  have h30 : (2 : Nat) ^ 30 = 1073741824 := by decide
  have hp : 0 < (2 : Nat) ^ d := Nat.two_pow_pos d
  have e1 : ((2 : Int) ^ d) = ((2 ^ d : Nat) : Int) := by simp
  have e2 : IntKind.u64.wrap (IntKind.u64.wrap (2 ^ d) - 1) = 2 ^ d - 1 := by rw [IntKind.wrap_u64, IntKind.wrap_u64]; omega
  rw [e2, and_mask a d ha hd]

set_option maxRecDepth 100000 in
set_option maxHeartbeats 1000000 in
theorem take_any (b a d k : Nat) (x : Value) (t : TypeId) (w : World) (hd : DigAt w b a (d + k) x t) (hk : d + k ≤ 30) (ha : a < 2 ^ (d + k)) :
    Calls Tryd.prog 78 #[.pointer (some ⟨b, 0, none⟩), .int .i64 (k : Int)] w fun e w' => e = .returned (.int .u64 ((a / 2 ^ d : Nat) : Int)) ∧ DigAt w' b (a % 2 ^ d) d x t ∧ OnlyAt b w w' := by
  have c0 : w.cell? ⟨b, 0, none⟩ = some (.int .u64 (a : Int)) := by rw [blk_cell hd]; rfl
  have c1 : w.cell? ⟨b, 1, none⟩ = some (.int .i64 ((d : Int) + (k : Int))) := by rw [blk_cell hd]; simp
  have f0 : w.frozen? ⟨b, 0, none⟩ = false := blk_free hd
  have f1 : w.frozen? ⟨b, 1, none⟩ = false := blk_free hd
  have HD := hid hd
  have hle : (2 : Nat) ^ (d + k) ≤ 2 ^ 30 := Nat.pow_le_pow_right (by decide) (by omega)
  have h30 : (2 : Nat) ^ 30 = 1073741824 := by decide
  have HM := hid (and_mask' a d (by omega) (by omega))
  clear hd ha hle h30
  go_enter Tryd.func78, Tryd.ntmps78
  go_wp2
  go_quiet (fail)
  go_wp2
  go_region
  go_wp2
  rw [HM.out]
  go_ret
  refine ⟨?_, ?_, ?_⟩
  · show Ending.returned (.int .u64 ((a : Int) / 2 ^ d)) = _
    simp
  · exact blk_set (o := 0) (v := .int .u64 ((a % 2 ^ d : Nat) : Int)) (blk_set (o := 1) (v := .int .i64 (d : Int)) HD.out)
  · exact (((OnlyAt.refl b w).setCell _).drewN _).setCell _
end Go.Proofs.YtpgifmccajcgkaaDoor
