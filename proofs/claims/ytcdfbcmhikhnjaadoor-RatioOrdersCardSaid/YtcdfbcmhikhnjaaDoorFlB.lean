/- Floating numbers, plainly: their order. -/
import Derived.Test.YtcdfbcmhikhnjaaDoorFlA
namespace Go.Fl
open Ieee

/-- A finite word's magnitude, in units of the least place. -/
def val (r : Nat) : Nat := fM r * 2 ^ fK r
theorem val_lt {r s : Nat} (h : r < s) : val r < val s := by
  have e1 := rung_parts r; have e2 := rung_parts s
  have m1 := fM_lt r; have m2 := fM_lt s
  have k2 := fK_or s; have k1 := fK_or r
  unfold val
  generalize fK r = K at *; generalize fK s = L at *; generalize fM r = M at *; generalize fM s = N at *
  by_cases hKL : K = L
  · subst hKL
    have : M < N := by omega
    exact Nat.mul_lt_mul_of_pos_right this (Nat.two_pow_pos _)
  · have hlt : K < L := by
      rcases Nat.lt_or_gt_of_ne hKL with h1 | h1
      · exact h1
      · exfalso
        have : (L + 1) * 2 ^ 52 ≤ K * 2 ^ 52 := Nat.mul_le_mul_right _ h1
        omega
    have hN : 2 ^ 52 ≤ N := by omega
    have h1 : M * 2 ^ K < 2 ^ 53 * 2 ^ K := Nat.mul_lt_mul_of_pos_right m1 (Nat.two_pow_pos _)
    have h2 : 2 ^ 52 * 2 ^ L ≤ N * 2 ^ L := Nat.mul_le_mul_right _ hN
    have h3 : 2 ^ 53 * 2 ^ K ≤ 2 ^ 52 * 2 ^ L := by
      rw [← Nat.pow_add, ← Nat.pow_add]
      exact Nat.pow_le_pow_right (by decide) (by omega)
    omega
theorem val_zero : val 0 = 0 := rfl
theorem val_inj {r s : Nat} (h : val r = val s) : r = s := by
  rcases Nat.lt_trichotomy r s with h1 | h1 | h1
  · have := val_lt h1; omega
  · exact h1
  · have := val_lt h1; omega
theorem val_pos {r : Nat} (h : 0 < r) : 0 < val r := by have := val_lt h; rw [val_zero] at this; exact this

/-- Where a word that is a number stands. -/
def skey (b : Nat) : Int := if sgn b then -((b % 2 ^ 63 : Nat) : Int) else ((b % 2 ^ 63 : Nat) : Int)
def isNan (b : Nat) : Bool := decide (2047 * 2 ^ 52 < b % 2 ^ 63)
def sval (neg : Bool) (v : Nat) : Int := if neg then -(v : Int) else (v : Int)
theorem signed_eq (neg : Bool) (m u : Nat) : signed neg m u = sval neg (m * 2 ^ u) := by
  unfold signed sval; rw [Nat.shiftLeft_eq]
theorem cmp_int (a b c d : Int) (h : (a < b ↔ c < d) ∧ (a = b ↔ c = d)) : compare a b = compare c d := by
  rcases Int.lt_trichotomy a b with h1 | h1 | h1
  · rw [Int.compare_eq_lt.2 h1, Int.compare_eq_lt.2 (h.1.1 h1)]
  · rw [Int.compare_eq_eq.2 h1, Int.compare_eq_eq.2 (h.2.1 h1)]
  · have h2 : d < c := by
      rcases Int.lt_trichotomy c d with h3 | h3 | h3
      · have := h.1.2 h3; omega
      · have := h.2.2 h3; omega
      · exact h3
    rw [Int.compare_eq_gt.2 h1, Int.compare_eq_gt.2 h2]
theorem cmp_mono (r q : Nat) : (val r < val q ↔ r < q) ∧ (val r = val q ↔ r = q) := by
  refine ⟨⟨fun h => ?_, val_lt⟩, ⟨val_inj, fun h => by rw [h]⟩⟩
  rcases Nat.lt_trichotomy r q with h1 | h1 | h1
  · exact h1
  · subst h1; omega
  · have := val_lt h1; omega
theorem order_nan {x y : Nat} (h : isNan x = true ∨ isNan y = true) : double.order x y = none := by
  unfold Format.order
  rcases h with h | h
  · rw [read_nan (by simpa [isNan] using h)]; rfl
  · rw [read_nan (b := y) (by simpa [isNan] using h)]
    cases double.read x <;> rfl
theorem skey_eq (b : Nat) : skey b = sval (sgn b) (b % 2 ^ 63) := rfl
theorem cmp_sval (s t : Bool) {a b r q : Nat} (h1 : a < b ↔ r < q) (h2 : b < a ↔ q < r) (h3 : a = b ↔ r = q) (h4 : a = 0 ↔ r = 0) (h5 : b = 0 ↔ q = 0) : compare (sval s a) (sval t b) = compare (sval s r) (sval t q) := by
  refine cmp_int _ _ _ _ ?_
  unfold sval
  cases s <;> cases t <;> simp only [if_true, if_false, Bool.false_eq_true] <;> omega
set_option linter.unusedVariables false in
theorem cmp_scale (M K N L : Nat) : (M * 2 ^ (K - min K L) < N * 2 ^ (L - min K L) ↔ M * 2 ^ K < N * 2 ^ L) := by
  have e1 : M * 2 ^ K = M * 2 ^ (K - min K L) * 2 ^ min K L := by rw [Nat.mul_assoc, ← Nat.pow_add, show K - min K L + min K L = K by omega]
  have e2 : N * 2 ^ L = N * 2 ^ (L - min K L) * 2 ^ min K L := by rw [Nat.mul_assoc, ← Nat.pow_add, show L - min K L + min K L = L by omega]
  rw [e1, e2]
  exact (Nat.mul_lt_mul_right (Nat.two_pow_pos _)).symm
theorem order_num {x y : Nat} (hx : isNan x = false) (hy : isNan y = false) : double.order x y = some (compare (skey x) (skey y)) := by
  have hx' : x % 2 ^ 63 ≤ 2047 * 2 ^ 52 := by simpa [isNan] using hx
  have hy' : y % 2 ^ 63 ≤ 2047 * 2 ^ 52 := by simpa [isNan] using hy
  unfold Format.order
  rw [skey_eq, skey_eq]
  by_cases h1 : x % 2 ^ 63 < 2047 * 2 ^ 52
  · rw [read_fin h1]
    by_cases h2 : y % 2 ^ 63 < 2047 * 2 ^ 52
    · rw [read_fin h2]
      unfold Datum.order
      dsimp only
      generalize hr : x % 2 ^ 63 = r at *
      generalize hq : y % 2 ^ 63 = q at *
      congr 1
      rw [signed_eq, signed_eq]
      have e1 : ((fK r : Int) - 1074 - min ((fK r : Int) - 1074) ((fK q : Int) - 1074)).toNat = fK r - min (fK r) (fK q) := by omega
      have e2 : ((fK q : Int) - 1074 - min ((fK r : Int) - 1074) ((fK q : Int) - 1074)).toNat = fK q - min (fK r) (fK q) := by omega
      rw [e1, e2]
      have c1 := cmp_scale (fM r) (fK r) (fM q) (fK q)
      have c2 := cmp_scale (fM q) (fK q) (fM r) (fK r)
      rw [Nat.min_comm (fK q)] at c2
      have v1 := cmp_mono r q
      have v2 := cmp_mono q r
      have z1 := cmp_mono r 0
      have z2 := cmp_mono q 0
      rw [val_zero] at z1 z2
      have p1 : 0 < 2 ^ (fK r - min (fK r) (fK q)) := Nat.two_pow_pos _
      have p2 : 0 < 2 ^ (fK q - min (fK r) (fK q)) := Nat.two_pow_pos _
      have q1 : 0 < 2 ^ fK r := Nat.two_pow_pos _
      have q2 : 0 < 2 ^ fK q := Nat.two_pow_pos _
      unfold val at v1 v2 z1 z2
      have w1 : fM r * 2 ^ (fK r - min (fK r) (fK q)) = 0 ↔ fM r * 2 ^ fK r = 0 := by simp [Nat.mul_eq_zero]
      have w2 : fM q * 2 ^ (fK q - min (fK r) (fK q)) = 0 ↔ fM q * 2 ^ fK q = 0 := by simp [Nat.mul_eq_zero]
      refine cmp_sval _ _ (c1.trans v1.1) (c2.trans v2.1) ?_ (w1.trans z1.2) (w2.trans z2.2)
      have a1 := c1.trans v1.1; have a2 := c2.trans v2.1
      omega
    · have h3 : y % 2 ^ 63 = 2047 * 2 ^ 52 := by omega
      rw [read_inf h3]
      unfold Datum.order
      dsimp only
      congr 1
      rw [h3]
      generalize x % 2 ^ 63 = r at *
      unfold sval
      cases sgn y <;> cases sgn x <;> simp <;> first | (symm; rw [Int.compare_eq_lt]; omega) | (symm; rw [Int.compare_eq_gt]; omega)
  · have h3 : x % 2 ^ 63 = 2047 * 2 ^ 52 := by omega
    rw [read_inf h3]
    by_cases h2 : y % 2 ^ 63 < 2047 * 2 ^ 52
    · rw [read_fin h2]
      unfold Datum.order
      dsimp only
      congr 1
      rw [h3]
      generalize y % 2 ^ 63 = r at *
      unfold sval
      cases sgn y <;> cases sgn x <;> simp <;> first | (symm; rw [Int.compare_eq_lt]; omega) | (symm; rw [Int.compare_eq_gt]; omega)
    · have h4 : y % 2 ^ 63 = 2047 * 2 ^ 52 := by omega
      rw [read_inf h4]
      unfold Datum.order
      dsimp only
      rw [h3, h4]
      cases sgn y <;> cases sgn x <;> rfl
end Go.Fl
