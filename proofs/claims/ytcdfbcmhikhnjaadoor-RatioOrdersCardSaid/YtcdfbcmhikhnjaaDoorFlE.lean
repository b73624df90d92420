/- Floating numbers, plainly: the fields of their words. -/
import Derived.Test.YtcdfbcmhikhnjaaDoorFlD
import Derived.Laws.Bits64b
namespace Go.Fl
open Ieee

/-- A word's sign, its exponent's field, its fraction's. -/
abbrev w3 (s E l : Nat) : Nat := 2 ^ 52 * (2 ^ 11 * s + E) + l
theorem w3_bit {s E l : Nat} (hE : E < 2 ^ 11) (hl : l < 2 ^ 52) (j : Nat) : (w3 s E l).testBit j = if j < 52 then l.testBit j else if j - 52 < 11 then E.testBit (j - 52) else s.testBit (j - 52 - 11) := by
  rw [Nat.testBit_two_pow_mul_add _ hl, Nat.testBit_two_pow_mul_add _ hE]
theorem w3_of (x : Nat) : x = w3 (x / 2 ^ 63) (x / 2 ^ 52 % 2 ^ 11) (x % 2 ^ 52) := by
  unfold w3
  have h1 := Nat.div_add_mod x (2 ^ 52)
  have h2 := Nat.div_add_mod (x / 2 ^ 52) (2 ^ 11)
  have h3 : x / 2 ^ 63 = x / 2 ^ 52 / 2 ^ 11 := by rw [Nat.div_div_eq_div_mul, ← Nat.pow_add]
  rw [h3, h2, h1]
theorem w3_lt {s E l : Nat} (hs : s < 2) (hE : E < 2 ^ 11) (hl : l < 2 ^ 52) : w3 s E l < 2 ^ 64 := by unfold w3; omega
theorem bit_hi {n k j : Nat} (h : n < 2 ^ k) (hj : k ≤ j) : n.testBit j = false := Nat.testBit_lt_two_pow (Nat.lt_of_lt_of_le h (Nat.pow_le_pow_right (by decide) hj))
theorem expMask_bit (j : Nat) : (9218868437227405312 : Nat).testBit j = (decide (52 ≤ j) && decide (j < 63)) := by
  have e : (9218868437227405312 : Nat) = w3 0 2047 0 := by decide
  rw [e, w3_bit (by decide) (by decide)]
  have h2047 : ∀ i, i < 11 → (2047 : Nat).testBit i = true := by decide
  by_cases h1 : j < 52
  · rw [if_pos h1]; simp; omega
  · rw [if_neg h1]
    by_cases h2 : j - 52 < 11
    · rw [if_pos h2, h2047 _ h2]; simp; omega
    · rw [if_neg h2]; simp; omega
/-- Without the exponent's field. -/
theorem andnot_exp {s E l : Nat} (hs : s < 2) (hE : E < 2 ^ 11) (hl : l < 2 ^ 52) : (BitVec.ofNat 64 (w3 s E l) &&& ~~~ BitVec.ofNat 64 9218868437227405312).toNat = w3 s 0 l := by
  have hlt := w3_lt hs hE hl
  have hlt2 := w3_lt hs (show 0 < 2 ^ 11 by decide) hl
  apply Nat.eq_of_testBit_eq
  intro j
  rw [BitVec.toNat_and, Nat.testBit_and, BitVec.toNat_not, BitVec.toNat_ofNat, BitVec.toNat_ofNat, Nat.mod_eq_of_lt hlt, Nat.mod_eq_of_lt (by decide), show (2 ^ 64 - 1 - 9218868437227405312 : Nat) = 2 ^ 64 - (9218868437227405312 + 1) from rfl, Nat.testBit_two_pow_sub_succ (by decide), expMask_bit, w3_bit hE hl, w3_bit (by decide) hl]
  by_cases h1 : j < 52
  · rw [if_pos h1, if_pos h1]
    have : decide (j < 64) = true := by simp; omega
    simp [this]
    omega
  · rw [if_neg h1, if_neg h1]
    by_cases h2 : j - 52 < 11
    · rw [if_pos h2, if_pos h2]
      have h3 : decide (52 ≤ j) = true := by simp; omega
      have h4 : decide (j < 63) = true := by simp; omega
      simp [h3, h4]
    · rw [if_neg h2, if_neg h2]
      have h4 : decide (j < 63) = false := by simp; omega
      by_cases h5 : j < 64
      · simp [h4, h5]
      · have : s.testBit (j - 52 - 11) = false := bit_hi (k := 1) (by omega) (by omega)
        simp [this]
/-- With an exponent's field. -/
theorem or_exp {s E l : Nat} (hE : E < 2 ^ 11) (hl : l < 2 ^ 52) : w3 s 0 l ||| E * 2 ^ 52 = w3 s E l := by
  apply Nat.eq_of_testBit_eq
  intro j
  have e : E * 2 ^ 52 = w3 0 E 0 := by unfold w3; omega
  rw [Nat.testBit_or, e, w3_bit hE (by decide), w3_bit hE hl, w3_bit (by decide) hl]
  by_cases h1 : j < 52
  · simp [h1]
  · by_cases h2 : j - 52 < 11
    · simp [h1, h2]
    · simp [h1, h2]
/-- Without the sign. -/
theorem andnot_sign {x : Nat} (hx : x < 2 ^ 64) : (BitVec.ofNat 64 x &&& ~~~ BitVec.ofNat 64 9223372036854775808).toNat = x % 2 ^ 63 := by
  apply Nat.eq_of_testBit_eq
  intro j
  have e : (9223372036854775808 : Nat) = 2 ^ 63 := by decide
  rw [BitVec.toNat_and, Nat.testBit_and, BitVec.toNat_not, BitVec.toNat_ofNat, BitVec.toNat_ofNat, Nat.mod_eq_of_lt hx, Nat.mod_eq_of_lt (by decide), show (2 ^ 64 - 1 - 9223372036854775808 : Nat) = 2 ^ 64 - (9223372036854775808 + 1) from rfl, Nat.testBit_two_pow_sub_succ (by decide), e, Nat.testBit_two_pow, Nat.testBit_mod_two_pow]
  by_cases h1 : j < 63
  · have h2 : decide (j < 64) = true := by simp; omega
    have h3 : decide (63 = j) = false := by simp; omega
    simp [h1, h2, h3]
  · have : decide (j < 63) = false := by simp; omega
    rw [this]
    by_cases h4 : j = 63
    · subst h4; simp
    · rw [bit_hi hx (by omega)]; simp
theorem and_sign {x : Nat} : x &&& 9223372036854775808 = if sgn x then 2 ^ 63 else 0 := by
  apply Nat.eq_of_testBit_eq
  intro j
  have e : (9223372036854775808 : Nat) = 2 ^ 63 := by decide
  have hs : x.testBit 63 = sgn x := by unfold sgn; rw [Nat.testBit_eq_decide_div_mod_eq]; rfl
  rw [Nat.testBit_and, e, Nat.testBit_two_pow]
  by_cases h : 63 = j
  · subst h
    rw [hs]
    cases sgn x
    · simp
    · rw [if_pos rfl, Nat.testBit_two_pow]; simp
  · cases sgn x
    · simp [h]
    · rw [if_pos rfl, Nat.testBit_two_pow]; simp [h]
theorem or_sign {x : Nat} (hx : x < 2 ^ 63) (neg : Bool) : x ||| (if neg then 2 ^ 63 else 0) = double.word neg x := by
  unfold Format.word
  rw [wt]
  cases neg with
  | false => simp
  | true =>
    simp only [if_true]
    have := Nat.two_pow_add_eq_or_of_lt (i := 63) hx 1
    rw [Nat.mul_one] at this
    rw [this, Nat.or_comm]
/-- A finite word of a normal number: its fields. -/
theorem Rep.w3 {neg : Bool} {r K M : Nat} (h : Rep r K M) (hM : 2 ^ 52 ≤ M) : double.word neg r = Fl.w3 neg.toNat (K + 1) (M - 2 ^ 52) := by
  have e := h.eq
  unfold Format.word Fl.w3
  rw [wt]
  cases neg <;> simp <;> omega
end Go.Fl
