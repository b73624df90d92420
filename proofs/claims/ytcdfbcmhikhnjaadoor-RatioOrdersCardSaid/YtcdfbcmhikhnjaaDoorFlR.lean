/- Floating numbers, plainly: the reference's division, digit by digit, rounds as the program's does. -/
import Derived.Test.YtcdfbcmhikhnjaaDoorFlC
namespace Go.Fl

def topA (A i : Nat) : Nat := A * 2 ^ i / 2 ^ 128
def bitAt (A i : Nat) : Nat := if i < 128 then A / 2 ^ (127 - i) % 2 else 0
def sumD (A : Nat) : Nat → Nat
  | 0 => 0
  | k + 1 => A / 2 ^ k % 2 + sumD A k
def leftA (A i : Nat) : Nat := if i < 128 then sumD A (127 - i) else 0
theorem topA_eq (A i : Nat) : topA A i = A * 2 ^ i / 2 ^ 128 := rfl
theorem quo_topA (A n i : Nat) : quo A n i = topA A i / n := by
  unfold quo topA
  rw [Nat.div_div_eq_div_mul, Nat.mul_comm n]
theorem topA_low {A i : Nat} (h : i ≤ 128) : topA A i = A / 2 ^ (128 - i) := by
  unfold topA
  have e : (2 : Nat) ^ 128 = 2 ^ (128 - i) * 2 ^ i := by rw [← Nat.pow_add]; congr 1; omega
  rw [e, Nat.mul_div_mul_right _ _ (Nat.pow_pos (by decide))]
theorem topA_high {A i : Nat} (h : 128 ≤ i) : topA A i = A * 2 ^ (i - 128) := by
  unfold topA
  have e : (2 : Nat) ^ i = 2 ^ (i - 128) * 2 ^ 128 := by rw [← Nat.pow_add]; congr 1; omega
  rw [e, ← Nat.mul_assoc, Nat.mul_div_cancel _ (Nat.pow_pos (by decide))]
theorem topA_succ (A i : Nat) : topA A (i + 1) = 2 * topA A i + bitAt A i := by
  unfold bitAt
  by_cases h : i < 128
  · rw [if_pos h, topA_low (by omega), topA_low (by omega), show 128 - (i + 1) = 127 - i by omega, show 128 - i = 127 - i + 1 by omega, Nat.pow_succ, ← Nat.div_div_eq_div_mul]
    omega
  · rw [if_neg h, topA_high (by omega), topA_high (by omega), show i + 1 - 128 = i - 128 + 1 by omega, Nat.pow_succ]
    generalize 2 ^ (i - 128) = p
    rw [← Nat.mul_assoc]
    omega
theorem topA_zero {A : Nat} (h : A < 2 ^ 128) : topA A 0 = 0 := by
  unfold topA
  rw [Nat.pow_zero, Nat.mul_one, Nat.div_eq_of_lt h]
theorem bitAt_lt (A i : Nat) : bitAt A i < 2 := by unfold bitAt; split <;> omega
theorem sumD_le (A : Nat) : ∀ k, sumD A k ≤ k
  | 0 => Nat.le_refl _
  | k + 1 => by
    have := sumD_le A k
    unfold sumD
    omega
theorem sumD_zero (A : Nat) : ∀ k, sumD A k = 0 ↔ A % 2 ^ k = 0
  | 0 => by simp [sumD, Nat.mod_one]
  | k + 1 => by
    have := sumD_zero A k
    unfold sumD
    rw [Nat.pow_succ, Nat.mod_mul]
    have hp : 0 < 2 ^ k := Nat.pow_pos (by decide)
    constructor
    · intro h
      rw [this.1 (by omega), show A / 2 ^ k % 2 = 0 by omega]
      simp
    · intro h
      have h1 : A % 2 ^ k = 0 := by omega
      have h2 : 2 ^ k * (A / 2 ^ k % 2) = 0 := by omega
      rcases Nat.mul_eq_zero.1 h2 with h3 | h3
      · omega
      · have := this.2 h1; omega
theorem low_left {A i : Nat} : A * 2 ^ (i + 1) % 2 ^ 128 ≠ 0 ↔ 0 < leftA A i := by
  unfold leftA
  by_cases h : i < 128
  · rw [if_pos h, Nat.pos_iff_ne_zero, ne_eq, ne_eq]
    refine not_congr ?_
    rw [sumD_zero]
    have e : (2 : Nat) ^ 128 = 2 ^ (127 - i) * 2 ^ (i + 1) := by rw [← Nat.pow_add]; congr 1; omega
    rw [e, Nat.mul_mod_mul_right]
    have hp : 0 < 2 ^ (i + 1) := Nat.pow_pos (by decide)
    constructor
    · intro h
      rcases Nat.mul_eq_zero.1 h with h3 | h3
      · exact h3
      · omega
    · intro h; rw [h, Nat.zero_mul]
  · rw [if_neg h]
    have e : (2 : Nat) ^ (i + 1) = 2 ^ (i + 1 - 128) * 2 ^ 128 := by rw [← Nat.pow_add]; congr 1; omega
    rw [e, ← Nat.mul_assoc, Nat.mul_mod_left]
    simp
/-- What is left of a division at a place, twice, and the next digit. -/
def lastA (A n i : Nat) : Nat := 2 * (topA A i % n) + bitAt A i
theorem lastA_lt {A n i : Nat} (hn : 0 < n) : lastA A n i < 2 * n := by
  unfold lastA
  have := Nat.mod_lt (topA A i) hn
  have := bitAt_lt A i
  omega
theorem quo_last {A n : Nat} (hn : 0 < n) (i : Nat) : quo A n (i + 1) = 2 * quo A n i + lastA A n i / n ∧ topA A (i + 1) % n = lastA A n i % n := by
  have e : topA A (i + 1) = lastA A n i + n * (2 * (topA A i / n)) := by
    rw [topA_succ]
    unfold lastA
    have h1 := Nat.div_add_mod (topA A i) n
    have h2 : n * (2 * (topA A i / n)) = 2 * (n * (topA A i / n)) := by rw [Nat.mul_left_comm]
    omega
  rw [quo_topA, quo_topA, e, Nat.add_mul_div_left _ _ hn, Nat.add_mul_mod_self_left]
  exact ⟨Nat.add_comm _ _, rfl⟩
theorem upB_is {A n : Nat} (hn : 0 < n) (i : Nat) : upB A n i = (decide (n < lastA A n i) || (decide (lastA A n i = n) && (decide (0 < leftA A i) || decide (quo A n i % 2 = 1)))) := by
  unfold upB
  obtain ⟨h1, h2⟩ := quo_last (A := A) hn i
  have h3 := lastA_lt (A := A) (i := i) hn
  have h4 : A * 2 ^ (i + 1) % (n * 2 ^ 128) = A * 2 ^ (i + 1) % 2 ^ 128 + 2 ^ 128 * (lastA A n i % n) := by
    rw [Nat.mul_comm n, Nat.mod_mul, ← topA_eq, h2]
  rw [h4, h1]
  have h5 := @low_left A i
  generalize A * 2 ^ (i + 1) % 2 ^ 128 = low at *
  generalize leftA A i = L at *
  generalize quo A n i = q at *
  generalize lastA A n i = X at *
  rw [Bool.eq_iff_iff]
  rcases Nat.lt_trichotomy X n with h | h | h
  · have e1 : (2 * q + 0) % 2 = 0 := by omega
    have e2 : ¬ n < X := by omega
    have e3 : ¬ X = n := by omega
    rw [Nat.div_eq_of_lt h, e1]
    simp [e2, e3]
  · subst h
    have e1 : (2 * q + 1) % 2 = 1 := by omega
    rw [Nat.div_self hn, Nat.mod_self, e1]
    simp [h5]
  · have hX : X / n = 1 := Nat.div_eq_of_lt_le (k := 1) (by omega) (by omega)
    have hY : X % n = X - n := by rw [Nat.mod_eq_sub_mod (by omega), Nat.mod_eq_of_lt (by omega)]
    have hZ : (low + 2 ^ 128 * (X - n) != 0) = true := by simp; omega
    rw [hX, hY, hZ]
    simp [h]
end Go.Fl
