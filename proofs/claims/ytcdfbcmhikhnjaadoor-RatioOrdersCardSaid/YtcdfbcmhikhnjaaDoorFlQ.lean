/- Floating numbers, plainly: a quotient digit by digit. -/
import Derived.Test.YtcdfbcmhikhnjaaDoorFlC
namespace Go.Fl
set_option linter.unusedVariables false
/-- What is still to come of a number of 128 digits behind k of them, its two halves; what the digits so far come to. -/
def xA (A k : Nat) : Nat := A * 2 ^ k % 2 ^ 128
def hiA (A k : Nat) : Nat := xA A k / 2 ^ 64
def loA (A k : Nat) : Nat := xA A k % 2 ^ 64
def tA (A k : Nat) : Nat := A * 2 ^ k / 2 ^ 128
theorem pow_step (A k : Nat) : A * 2 ^ (k + 1) = 2 * (A * 2 ^ k) := by rw [Nat.pow_succ 2 k, ← Nat.mul_assoc, Nat.mul_comm]
theorem hi_lt (A k : Nat) : hiA A k < 2 ^ 64 := by unfold hiA xA; omega
theorem lo_lt (A k : Nat) : loA A k < 2 ^ 64 := by unfold loA; omega
theorem hi_zero {A : Nat} (h : A < 2 ^ 128) : hiA A 0 = A / 2 ^ 64 := by unfold hiA xA; rw [Nat.pow_zero, Nat.mul_one, Nat.mod_eq_of_lt h]
theorem lo_zero {A : Nat} (h : A < 2 ^ 128) : loA A 0 = A % 2 ^ 64 := by unfold loA xA; rw [Nat.pow_zero, Nat.mul_one, Nat.mod_eq_of_lt h]
theorem tA_zero {A : Nat} (h : A < 2 ^ 128) : tA A 0 = 0 := by unfold tA; rw [Nat.pow_zero, Nat.mul_one, Nat.div_eq_of_lt h]
theorem hi_succ (A k : Nat) : hiA A (k + 1) = 2 * hiA A k % 2 ^ 64 + loA A k / 2 ^ 63 := by
  unfold hiA loA xA
  rw [pow_step]
  generalize A * 2 ^ k = y
  omega
theorem lo_succ (A k : Nat) : loA A (k + 1) = 2 * loA A k % 2 ^ 64 := by
  unfold loA xA
  rw [pow_step]
  generalize A * 2 ^ k = y
  omega
theorem tA_succ (A k : Nat) : tA A (k + 1) = 2 * tA A k + hiA A k / 2 ^ 63 := by
  unfold tA hiA xA
  rw [pow_step]
  generalize A * 2 ^ k = y
  omega
theorem top_le (A k : Nat) : hiA A k / 2 ^ 63 ≤ 1 := by have := hi_lt A k; omega
theorem quo_t (A n k : Nat) : quo A n k = tA A k / n := by unfold quo tA; rw [Nat.mul_comm n, Nat.div_div_eq_div_mul]
theorem rest_succ (A n k : Nat) : tA A (k + 1) % n = (2 * (tA A k % n) + hiA A k / 2 ^ 63) % n := by
  rw [tA_succ, Nat.add_mod, Nat.mul_mod]
  conv => rhs; rw [Nat.add_mod, Nat.mul_mod, Nat.mod_mod]
theorem digit_succ (A n k : Nat) (hn : 0 < n) : (2 * (tA A k % n) + hiA A k / 2 ^ 63) / n = quo A n (k + 1) % 2 := by
  have h1 := quo_succ A n k hn
  rw [quo_t A n (k + 1), quo_t A n k, tA_succ] at h1
  rw [quo_t A n (k + 1), tA_succ]
  have h2 := Nat.div_add_mod (tA A k) n
  generalize tA A k / n = q at *
  generalize tA A k % n = r at *
  rw [← h2] at h1 ⊢
  have h3 : 2 * (n * q + r) + hiA A k / 2 ^ 63 = (2 * r + hiA A k / 2 ^ 63) + n * (2 * q) := by rw [Nat.mul_add, Nat.mul_left_comm 2 n q]; omega
  rw [h3, Nat.add_mul_div_left _ _ hn] at h1 ⊢
  omega
theorem more_iff (A n k : Nat) : (A * 2 ^ k % (n * 2 ^ 128) = 0) ↔ (tA A k % n = 0 ∧ hiA A k = 0 ∧ loA A k = 0) := by
  rw [Nat.mul_comm n, Nat.mod_mul]
  unfold tA hiA loA xA
  generalize A * 2 ^ k = y
  generalize y / 2 ^ 128 % n = z
  omega
/-- Is something left behind k digits? -/
def moreB (A n k : Nat) : Bool := A * 2 ^ k % (n * 2 ^ 128) != 0
theorem moreB_eq (A n k : Nat) : moreB A n k = (!decide (tA A k % n = 0) || (!decide (hiA A k = 0) || !decide (loA A k = 0))) := by
  unfold moreB
  have h := more_iff A n k
  rw [Bool.eq_iff_iff]
  simp only [bne_iff_ne, ne_eq, Bool.or_eq_true, Bool.not_eq_true', decide_eq_false_iff_not]
  rw [h]
  omega
/-- A digit behind others is added by '|'. -/
theorem or_bit (a b : Nat) (hb : b ≤ 1) : 2 * a ||| b = 2 * a + b := by
  have := Nat.two_pow_add_eq_or_of_lt (i := 1) (show b < 2 ^ 1 by omega) a
  simpa using this.symm
end Go.Fl
