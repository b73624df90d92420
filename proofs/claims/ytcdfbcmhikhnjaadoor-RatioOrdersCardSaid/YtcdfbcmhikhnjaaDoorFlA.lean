/- Floating numbers, plainly: what their words stand for. -/
import Derived.Laws.FloatArith
import Derived.Laws.FloatBits
namespace Go.Fl
open Ieee

theorem wt : double.signWeight = 2 ^ 63 := rfl
theorem bn : double.binade = 2 ^ 52 := rfl
theorem inr : double.infRung = 2047 * 2 ^ 52 := rfl
theorem lp : double.leastPlace = -1074 := rfl
theorem fb : double.fractionBits = 52 := rfl

theorem log2_shift {M d : Nat} (hM : 0 < M) : (M * 2 ^ d).log2 = M.log2 + d := by
  have h1 : M * 2 ^ d ≠ 0 := Nat.ne_of_gt (Nat.mul_pos hM (Nat.two_pow_pos d))
  rw [Nat.log2_eq_iff h1]
  have h2 := (Nat.log2_eq_iff (Nat.ne_of_gt hM)).1 rfl
  constructor
  · rw [Nat.pow_add]; exact Nat.mul_le_mul_right _ h2.1
  · rw [show M.log2 + d + 1 = M.log2 + 1 + d by omega, Nat.pow_add]
    exact Nat.mul_lt_mul_of_pos_right h2.2 (Nat.two_pow_pos d)

theorem cut_exact {neg : Bool} {M d : Nat} (hM : 0 < M) : Toward.even.cut neg (M * 2 ^ d) d = M := by
  unfold Toward.cut
  have hl : d ≤ (M * 2 ^ d).log2 + 2 := by rw [log2_shift hM]; omega
  rw [Nat.min_eq_left hl]
  have h1 : (1 : Nat) <<< d = 2 ^ d := by rw [Nat.shiftLeft_eq, Nat.one_mul]
  have hp := Nat.two_pow_pos d
  dsimp only
  rw [h1, Nat.mul_div_cancel _ hp, Nat.mul_mod_left]
  simp

/-- The word nearest to a number that the format has is that number's. -/
theorem nearest_exact (neg : Bool) (mag : Nat) (place : Int) (K M : Nat) (hM : M < 2 ^ 53) (hK : K = 0 ∨ 2 ^ 52 ≤ M) (h0 : 0 < M) (hI : K * 2 ^ 52 + M < 2047 * 2 ^ 52)
    (hv : (∃ d : Nat, place = (K : Int) - 1074 - d ∧ mag = M * 2 ^ d) ∨ (∃ d : Nat, place = (K : Int) - 1074 + d ∧ M = mag * 2 ^ d)) :
    double.nearest neg mag place = double.word neg (K * 2 ^ 52 + M) := by
  have hlog : M.log2 ≤ 52 := by
    have := (Nat.log2_eq_iff (Nat.ne_of_gt h0) (k := M.log2)).1 rfl
    by_cases h : M.log2 ≤ 52
    · exact h
    · have : 2 ^ 53 ≤ 2 ^ M.log2 := Nat.pow_le_pow_right (by decide) (by omega)
      omega
  have hlog2 : 2 ^ 52 ≤ M → M.log2 = 52 := fun h => (Nat.log2_eq_iff (Nat.ne_of_gt h0)).2 ⟨h, hM⟩
  have key : ∀ last : Int, last = (K : Int) - 1074 → (last - -1074).toNat = K := fun last h => by omega
  unfold Format.nearest
  rw [lp, fb, bn, inr]
  rcases hv with ⟨d, rfl, rfl⟩ | ⟨d, rfl, rfl⟩
  · rw [if_neg (Nat.ne_of_gt (Nat.mul_pos h0 (Nat.two_pow_pos d))), log2_shift h0]
    have hl : max ((K : Int) - 1074 - d + ((M.log2 + d : Nat) : Int) - ((52 : Nat) : Int)) (-1074) = (K : Int) - 1074 := by
      rcases hK with h | h
      · omega
      · have := hlog2 h; omega
    dsimp only
    rw [hl, key _ rfl]
    have e1 : ((K : Int) - 1074 - d - ((K : Int) - 1074)).toNat = 0 := by omega
    have e2 : ((K : Int) - 1074 - ((K : Int) - 1074 - d)).toNat = d := by omega
    rw [e1, e2, Nat.shiftLeft_zero, cut_exact h0, Nat.min_eq_left (by omega)]
  · have hm : 0 < mag := by
      rcases Nat.eq_zero_or_pos mag with h | h
      · subst h; simp at h0
      · exact h
    have hlm : (mag * 2 ^ d).log2 = mag.log2 + d := log2_shift hm
    rw [if_neg (Nat.ne_of_gt hm)]
    have hl : max ((K : Int) - 1074 + d + (mag.log2 : Int) - ((52 : Nat) : Int)) (-1074) = (K : Int) - 1074 := by
      rcases hK with h | h
      · omega
      · have := hlog2 h; omega
    dsimp only
    rw [hl, key _ rfl]
    have e1 : ((K : Int) - 1074 + d - ((K : Int) - 1074)).toNat = d := by omega
    have e2 : ((K : Int) - 1074 - ((K : Int) - 1074 + d)).toNat = 0 := by omega
    rw [e1, e2, Nat.shiftLeft_eq]
    have := cut_exact (neg := neg) (M := mag * 2 ^ d) (d := 0) h0
    rw [Nat.pow_zero, Nat.mul_one] at this
    rw [this, Nat.min_eq_left (by omega)]

/-- A finite word's parts: its last digit's place above the least one, its digits. -/
def fK (r : Nat) : Nat := if r < 2 ^ 52 then 0 else r / 2 ^ 52 - 1
def fM (r : Nat) : Nat := if r < 2 ^ 52 then r else 2 ^ 52 + r % 2 ^ 52
theorem rung_parts (r : Nat) : r = fK r * 2 ^ 52 + fM r := by
  unfold fK fM
  split
  · omega
  · have h1 := Nat.div_add_mod r (2 ^ 52)
    have h2 : 1 ≤ r / 2 ^ 52 := by omega
    omega
theorem fM_lt (r : Nat) : fM r < 2 ^ 53 := by unfold fM; split <;> omega
theorem fK_or (r : Nat) : fK r = 0 ∨ 2 ^ 52 ≤ fM r := by unfold fK fM; split <;> omega
theorem parts_of {K M : Nat} (hM : M < 2 ^ 53) (hK : K = 0 ∨ 2 ^ 52 ≤ M) : fK (K * 2 ^ 52 + M) = K ∧ fM (K * 2 ^ 52 + M) = M := by
  unfold fK fM
  by_cases h : M < 2 ^ 52
  · have hk : K = 0 := by omega
    subst hk
    simp [h]
  · have h3 : (K * 2 ^ 52 + M) / 2 ^ 52 = K + 1 := by omega
    have h4 : (K * 2 ^ 52 + M) % 2 ^ 52 = M - 2 ^ 52 := by omega
    rw [if_neg (by omega), if_neg (by omega), h3, h4]
    omega
def sgn (b : Nat) : Bool := b / 2 ^ 63 % 2 == 1
theorem read_fin {b : Nat} (h : b % 2 ^ 63 < 2047 * 2 ^ 52) : double.read b = .number (sgn b) (fM (b % 2 ^ 63)) ((fK (b % 2 ^ 63) : Int) - 1074) := by
  unfold Format.read
  rw [wt, bn, inr, lp]
  unfold fM fK sgn
  dsimp only
  by_cases h1 : b % 2 ^ 63 < 2 ^ 52
  · rw [if_pos h1, if_pos h1, if_pos h1]; rfl
  · rw [if_neg h1, if_pos h, if_neg h1, if_neg h1]
    congr 1
theorem read_inf {b : Nat} (h : b % 2 ^ 63 = 2047 * 2 ^ 52) : double.read b = .infinity (sgn b) := by
  unfold Format.read
  rw [wt, bn, inr, lp]
  unfold sgn
  dsimp only
  rw [if_neg (by omega), if_neg (by omega), if_pos h]
theorem read_nan {b : Nat} (h : 2047 * 2 ^ 52 < b % 2 ^ 63) : double.read b = .nan (sgn b) (b % 2 ^ 63 - 2047 * 2 ^ 52) := by
  unfold Format.read
  rw [wt, bn, inr, lp]
  unfold sgn
  dsimp only
  rw [if_neg (by omega), if_neg (by omega), if_neg (by omega)]
theorem word_parts {b : Nat} (hb : b < 2 ^ 64) : double.word (sgn b) (b % 2 ^ 63) = b := by
  unfold Format.word sgn
  rw [wt]
  by_cases h : b / 2 ^ 63 % 2 = 1
  · simp [h]; omega
  · simp [h]; omega
theorem word_mod (neg : Bool) {r : Nat} (h : r < 2 ^ 63) : double.word neg r % 2 ^ 63 = r ∧ sgn (double.word neg r) = neg ∧ double.word neg r < 2 ^ 64 := by
  unfold Format.word sgn
  rw [wt]
  cases neg <;> simp <;> omega
end Go.Fl
