/- Packed lists: numbers modulo 65536; the law's own lists. -/
import Derived.Test.YtpgifmccajcgkaaDoorPkM
import Derived.Test.YtpgifmccajcgkaaDoorPkL
import Derived.Test.YtpgifmccajcgkaaDoorOpenP
import Derived.Test.YtpgifmccajcgkaaDoorVmoreW
namespace Go.Proofs.YtpgifmccajcgkaaDoor
set_option linter.unusedVariables false
set_option linter.unusedSimpArgs false
open Go.ChangeShapes Go.WideShapes Go.ChangeAt Go.RowKit Go.Joins

theorem Sent.pos {am an : Addr} {w : World} (h : Sent am an w) : 0 < w.heap.size := by
  obtain ⟨c, t, h⟩ := h.bm
  have := heap_lt h
  omega
theorem RowAt.slice {w : World} {ao : Option Addr} {xs : List Int} (h : RowAt w ao xs) {cap : Nat} (h1 : xs.length ≤ cap) (h2 : cap ≤ maxLen) (h3 : ao = none → cap = 0) : SliceAt w (.slice ao xs.length cap) xs :=
  ⟨ao, cap, rfl, h1, h2, h3, h⟩
theorem and_16 (x : Int) : 0 ≤ bits .and .i64 x 65535 ∧ bits .and .i64 x 65535 ≤ 65535 := by
  have e : bits .and .i64 x 65535 = IntKind.i64.wrap (((BitVec.ofInt 64 x).toNat &&& (BitVec.ofInt 64 65535).toNat : Nat) : Int) := by
    show IntKind.i64.wrap ((BitVec.ofInt 64 x &&& BitVec.ofInt 64 65535).toNat : Int) = _
    rw [BitVec.toNat_and]
  rw [e, ofInt_at 65535 65535 (by omega), IntKind.wrap_i64]
  have := Nat.and_le_right (n := (BitVec.ofInt 64 x).toNat) (m := 65535)
  omega
def masks (xs : List Int) : List Int := (xs.take 1000).map fun x => bits .and .i64 x 65535
theorem masks_length (xs : List Int) : (masks xs).length = min 1000 xs.length := by simp [masks]
theorem masks_ok (xs : List Int) : okW (masks xs) = true := by
  unfold okW
  simp only [Bool.and_eq_true, decide_eq_true_eq, List.all_eq_true]
  refine ⟨by rw [masks_length]; omega, fun x hx => ?_⟩
  obtain ⟨y, _, rfl⟩ := List.mem_map.1 hx
  exact and_16 y
theorem masks_get {xs : List Int} {k : Nat} (h : k < (masks xs).length) : (masks xs)[k]?.getD 0 = bits .and .i64 (xs[k]?.getD 0) 65535 := by
  have h1 := masks_length xs
  have h2 : k < xs.length := by omega
  unfold masks
  rw [List.getElem?_map, List.getElem?_take_of_lt (by omega), List.getElem?_eq_getElem h2]; rfl
theorem masks_succ {xs : List Int} {k : Nat} (h : k < (masks xs).length) : ((masks xs).take (k + 1)).map (Value.int .i64) = ((masks xs).take k).map (Value.int .i64) ++ [.int .i64 (bits .and .i64 (xs[k]?.getD 0) 65535)] := by
  rw [List.take_succ_eq_append_getElem h, List.map_append, ← masks_get h, List.getElem?_eq_getElem h]
  simp only [List.map_cons, List.map_nil, Option.getD_some]
theorem intsOf_natsOf {xs : List Int} (h : ∀ x ∈ xs, 0 ≤ x ∧ x ≤ 65535) : intsOf (natsOf xs) = xs := by
  unfold intsOf natsOf
  rw [List.map_map]
  conv => rhs; rw [← List.map_id xs]
  refine List.map_congr_left fun x hx => ?_
  have := h x hx
  simp only [Function.comp_apply, id_eq]
  show ((x.toNat : Nat) : Int) = x
  omega
theorem packBy_le {ns : List Nat} (hl : ns.length ≤ 1000) (h : small ns) : (packBy ns).length ≤ 2011 := by
  have h1 := widN_le h
  have h2 := putB_ten (n := ns.length) (by omega)
  have h3 : ns.length * widN ns ≤ 1000 * 16 := Nat.mul_le_mul hl h1
  rw [packBy_length]; omega
/-- 'Pack', of any list. -/
def ppackV (xs : List Int) : List UInt8 × Nat := if okW xs = true then (packBy (natsOf xs), 0) else ([], 40)
theorem ppack_is (v : Value) (xs : List Int) (w : World) (hv : SliceAt w v xs) (hl : xs.length ≤ 1000000000) (hw0 : 0 < w.heap.size) :
    Calls Tryd.prog 31 #[v] w fun e w' => e = .returned (.tuple #[strV (ppackV xs).1, .int .i64 ((ppackV xs).2 : Int)]) ∧ Below w.heap.size w w' := by
  unfold ppackV
  by_cases h : okW xs = true
  · rw [if_pos h]
    exact ppack_ok v xs w hv h hw0
  · rw [if_neg h]
    exact ppack_bad v xs w hv.ints hl (by simpa using h)
theorem row_get_ints {w : World} {base e n : Nat} {v : Value} {l : List Int} (hn : l.length = n) (h : w.ownsRow base e 1 v n (l.map (Value.int .i64))) : IntsAt w v l :=
  IntsAt.own (by rw [hn]; exact h)
end Go.Proofs.YtpgifmccajcgkaaDoor
