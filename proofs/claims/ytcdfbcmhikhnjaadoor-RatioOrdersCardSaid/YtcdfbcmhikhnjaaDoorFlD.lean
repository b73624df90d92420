/- Floating numbers, plainly: products, halves, numbers that the format has. -/
import Derived.Test.YtcdfbcmhikhnjaaDoorFlB
namespace Go.Fl
open Ieee

/-- A finite word that is not 0 has the parts K, M. -/
structure Rep (r K M : Nat) : Prop where
  eq : r = K * 2 ^ 52 + M
  m : M < 2 ^ 53
  k : K = 0 ∨ 2 ^ 52 ≤ M
  pos : 0 < M
  fin : K * 2 ^ 52 + M < 2047 * 2 ^ 52
theorem Rep.of {r : Nat} (h0 : 0 < r) (h : r < 2047 * 2 ^ 52) : Rep r (fK r) (fM r) := by
  have e := rung_parts r
  have hp : 0 < fM r := by
    have := val_pos h0
    unfold val at this
    exact Nat.pos_of_mul_pos_right this
  exact ⟨e, fM_lt r, fK_or r, hp, by rw [← e]; exact h⟩
theorem Rep.lt {r K M : Nat} (h : Rep r K M) : r < 2047 * 2 ^ 52 := by rw [h.eq]; exact h.fin
theorem Rep.parts {r K M : Nat} (h : Rep r K M) : fK r = K ∧ fM r = M := by rw [h.eq]; exact parts_of h.m h.k
theorem Rep.val {r K M : Nat} (h : Rep r K M) : val r = M * 2 ^ K := by unfold Fl.val; rw [h.parts.1, h.parts.2]
theorem Rep.pos' {r K M : Nat} (h : Rep r K M) : 0 < r := by have := h.eq; have := h.pos; omega
/-- A word of these parts, of a sign. -/
theorem Rep.word (neg : Bool) {r K M : Nat} (h : Rep r K M) : double.word neg r % 2 ^ 63 = r ∧ sgn (double.word neg r) = neg ∧ double.word neg r < 2 ^ 64 := word_mod neg (by have := h.lt; omega)
theorem Rep.read (neg : Bool) {r K M : Nat} (h : Rep r K M) : double.read (double.word neg r) = .number neg M ((K : Int) - 1074) := by
  obtain ⟨h1, h2, _⟩ := h.word neg
  rw [read_fin (by rw [h1]; exact h.lt), h1, h2, h.parts.1, h.parts.2]
/-- Two numbers of a form mag * 2 ^ place are the same (place told above -1074). -/
def Same2 (mag : Nat) (p : Int) (K M : Nat) : Prop := (∃ d : Nat, p = (K : Int) - d ∧ mag = M * 2 ^ d) ∨ (∃ d : Nat, p = (K : Int) + d ∧ M = mag * 2 ^ d)
theorem near_rep (neg : Bool) {mag : Nat} {p : Int} {r K M : Nat} (h : Rep r K M) (hv : Same2 mag p K M) : double.nearest neg mag (p - 1074) = double.word neg r := by
  rw [h.eq]
  refine nearest_exact neg mag (p - 1074) K M h.m h.k h.pos h.fin ?_
  rcases hv with ⟨d, rfl, rfl⟩ | ⟨d, rfl, rfl⟩
  · exact .inl ⟨d, by omega, rfl⟩
  · exact .inr ⟨d, by omega, rfl⟩
theorem Same2.uniq {mag : Nat} {p : Int} {r K M q L N : Nat} (h : Rep r K M) (k : Rep q L N) (hv : Same2 mag p K M) (kv : Same2 mag p L N) : r = q := by
  have e1 := near_rep false h hv
  have e2 := near_rep false k kv
  rw [e1] at e2
  have a := (h.word false).1
  have b := (k.word false).1
  rw [e2, b] at a
  exact a.symm
theorem Same2.self {r K M : Nat} (h : Rep r K M) : Same2 M K K M := .inl ⟨0, by omega, by simp⟩
/-- As values, once both are told from one place on. -/
theorem Same2.of_eq {mag K M : Nat} {p : Int} (s : Nat) (hs : 0 ≤ p + s) (h : mag * 2 ^ (p + s).toNat = M * 2 ^ (K + s)) : Same2 mag p K M := by
  by_cases hp : p ≤ K
  · refine .inl ⟨((K : Int) - p).toNat, by omega, ?_⟩
    have e : K + s = ((K : Int) - p).toNat + (p + s).toNat := by omega
    rw [e, Nat.pow_add, ← Nat.mul_assoc] at h
    exact Nat.eq_of_mul_eq_mul_right (Nat.two_pow_pos _) h
  · refine .inr ⟨(p - (K : Int)).toNat, by omega, ?_⟩
    have e : (p + s).toNat = (p - (K : Int)).toNat + (K + s) := by omega
    rw [e, Nat.pow_add, ← Nat.mul_assoc] at h
    exact (Nat.eq_of_mul_eq_mul_right (Nat.two_pow_pos _) h).symm
theorem nan_word {b : Nat} (h : b % 2 ^ 63 < 2047 * 2 ^ 52) : isNan b = false := by unfold isNan; simp; omega
theorem near_num (neg : Bool) (mag : Nat) (place : Int) : ∃ r, double.nearest neg mag place = double.word neg r ∧ r ≤ 2047 * 2 ^ 52 := by
  unfold Format.nearest
  split
  · exact ⟨0, rfl, by decide⟩
  · exact ⟨_, rfl, by rw [inr]; exact Nat.min_le_right _ _⟩
theorem word_nan (neg : Bool) {r : Nat} (h : r ≤ 2047 * 2 ^ 52) : isNan (double.word neg r) = false ∧ double.word neg r < 2 ^ 64 := by
  obtain ⟨h1, _, h3⟩ := word_mod neg (r := r) (by omega)
  refine ⟨?_, h3⟩
  unfold isNan
  rw [h1]; simp; omega
/-- A product of numbers, neither of them a NaN, one of them finite and not 0, is a number. -/
theorem mul_num {c y : Nat} {neg : Bool} {r K M : Nat} (h : Rep r K M) (hc : c = double.word neg r) (hy : isNan y = false) : ∃ z, double.mul c y = some z ∧ isNan z = false ∧ z < 2 ^ 64 := by
  subst hc
  unfold Format.mul
  rw [h.read]
  have hy' : y % 2 ^ 63 ≤ 2047 * 2 ^ 52 := by simpa [isNan] using hy
  by_cases hf : y % 2 ^ 63 < 2047 * 2 ^ 52
  · rw [read_fin hf]
    obtain ⟨z, e, hz⟩ := near_num (neg ^^ sgn y) (M * fM (y % 2 ^ 63)) ((K : Int) - 1074 + ((fK (y % 2 ^ 63) : Int) - 1074))
    exact ⟨_, by unfold Datum.product; rfl, by show isNan (double.nearest _ _ _) = false ∧ double.nearest _ _ _ < 2 ^ 64; rw [e]; exact word_nan _ hz⟩
  · rw [read_inf (by omega)]
    unfold Datum.product
    have : ¬ M = 0 := Nat.ne_of_gt h.pos
    simp only [this, if_false, Option.map_some]
    exact ⟨_, rfl, by show isNan (double.word _ _) = false ∧ double.word _ _ < 2 ^ 64; exact word_nan _ (by rw [inr]; omega)⟩
/-- A product that the format has. -/
theorem mul_rep {n1 n2 : Bool} {r K M q L N t J I : Nat} (h : Rep r K M) (k : Rep q L N) (j : Rep t J I) (hv : Same2 (M * N) ((K : Int) + L - 1074) J I) : double.mul (double.word n1 r) (double.word n2 q) = some (double.word (n1 ^^ n2) t) := by
  unfold Format.mul
  rw [h.read, k.read]
  unfold Datum.product
  simp only [Option.map_some]
  congr 1
  have := near_rep (n1 ^^ n2) j hv
  show double.nearest _ _ _ = _
  rw [← this]
  congr 1
  omega
theorem rep_one : Rep 0x3FF0000000000000 1022 (2 ^ 52) := ⟨by decide, by decide, by decide, by decide, by decide⟩
theorem rep_two : Rep 0x4000000000000000 1023 (2 ^ 52) := ⟨by decide, by decide, by decide, by decide, by decide⟩
/-- 2 to the power of -53. -/
theorem rep_m53 : Rep 0x3CA0000000000000 969 (2 ^ 52) := ⟨by decide, by decide, by decide, by decide, by decide⟩
/-- 2 to the power of 52. -/
theorem rep_p52 : Rep 0x4330000000000000 1074 (2 ^ 52) := ⟨by decide, by decide, by decide, by decide, by decide⟩
theorem word_false (r : Nat) : double.word false r = r := rfl
theorem mul_one {neg : Bool} {r K M : Nat} (h : Rep r K M) : double.mul 0x3FF0000000000000 (double.word neg r) = some (double.word neg r) := by
  have := mul_rep (n1 := false) (n2 := neg) rep_one h h (.inl ⟨52, by omega, Nat.mul_comm _ _⟩)
  rw [word_false] at this
  simpa using this
/-- Twice a number. -/
theorem mul_two {neg : Bool} {r K M t J I : Nat} (h : Rep r K M) (j : Rep t J I) (hv : Same2 M (K + 1) J I) : double.mul (double.word neg r) 0x4000000000000000 = some (double.word neg t) := by
  have := mul_rep (n1 := neg) (n2 := false) h rep_two j (by
    rcases hv with ⟨d, e1, e2⟩ | ⟨d, e1, e2⟩
    · exact .inl ⟨d + 52, by omega, by rw [e2, Nat.pow_add, Nat.mul_assoc]⟩
    · by_cases hd : 52 ≤ d
      · refine .inr ⟨d - 52, by omega, ?_⟩
        rw [e2, Nat.mul_assoc, ← Nat.pow_add, show 52 + (d - 52) = d by omega]
      · refine .inl ⟨52 - d, by omega, ?_⟩
        rw [e2, Nat.mul_assoc, ← Nat.pow_add, show d + (52 - d) = 52 by omega])
  rw [word_false] at this
  simpa using this
/-- Half a number. -/
theorem div_two {neg : Bool} {r K M t J I : Nat} (h : Rep r K M) (j : Rep t J I) (hv : Same2 M ((K : Int) - 1) J I) : double.div (double.word neg r) 0x4000000000000000 = some (double.word neg t) := by
  have hl : M.log2 ≤ 52 := by
    have h1 := (Nat.log2_eq_iff (Nat.ne_of_gt h.pos) (k := M.log2)).1 rfl
    by_cases h2 : M.log2 ≤ 52
    · exact h2
    · have : 2 ^ 53 ≤ 2 ^ M.log2 := Nat.pow_le_pow_right (by decide) (by omega)
      have := h.m
      omega
  have h2 := rep_two.read false
  rw [word_false] at h2
  unfold Format.div
  rw [h.read, h2]
  unfold Datum.quotient
  have hn : ¬ ((2 : Nat) ^ 52 = 0) := by decide
  simp only [hn, if_false, Option.map_some]
  congr 1
  have l52 : Nat.log2 (2 ^ 52) = 52 := by decide
  rw [fb, l52]
  have e1 : 52 + 2 + 52 - M.log2 = (54 - M.log2) + 52 := by omega
  have e2 : M <<< (52 + 2 + 52 - M.log2) = M * 2 ^ (54 - M.log2) * 2 ^ 52 := by rw [Nat.shiftLeft_eq, e1, Nat.pow_add, Nat.mul_assoc]
  rw [e2, Nat.mul_div_cancel _ (by decide : 0 < 2 ^ 52), Nat.mul_mod_left]
  have := near_rep (neg ^^ false) j (mag := 2 * (M * 2 ^ (54 - M.log2))) (p := (K : Int) - 1 - (55 - M.log2 : Nat)) (by
    have e3 : 2 * (M * 2 ^ (54 - M.log2)) = M * 2 ^ (55 - M.log2) := by
      rw [show 55 - M.log2 = (54 - M.log2) + 1 by omega, Nat.pow_succ]; ac_rfl
    rw [e3]
    generalize 55 - M.log2 = u
    rcases hv with ⟨d, e4, e5⟩ | ⟨d, e4, e5⟩
    · exact .inl ⟨d + u, by omega, by rw [e5, Nat.mul_assoc, ← Nat.pow_add]⟩
    · by_cases hd : u ≤ d
      · refine .inr ⟨d - u, by omega, ?_⟩
        rw [e5, Nat.mul_assoc, ← Nat.pow_add, show u + (d - u) = d by omega]
      · refine .inl ⟨u - d, by omega, ?_⟩
        rw [e5, Nat.mul_assoc, ← Nat.pow_add, show d + (u - d) = u by omega])
  show double.nearest _ _ _ = _
  rw [show (neg ^^ false) = neg by simp] at this ⊢
  rw [← this]
  simp
  congr 1
  omega
theorem div_num {y : Nat} (hy : isNan y = false) : ∃ z, double.div y 0x4000000000000000 = some z ∧ isNan z = false ∧ z < 2 ^ 64 := by
  have h2 := rep_two.read false
  rw [word_false] at h2
  unfold Format.div
  rw [h2]
  have hy' : y % 2 ^ 63 ≤ 2047 * 2 ^ 52 := by simpa [isNan] using hy
  by_cases hf : y % 2 ^ 63 < 2047 * 2 ^ 52
  · rw [read_fin hf]
    unfold Datum.quotient
    have hn : ¬ ((2 : Nat) ^ 52 = 0) := by decide
    simp only [hn, if_false, Option.map_some]
    refine ⟨_, rfl, ?_⟩
    show isNan (double.nearest _ _ _) = false ∧ double.nearest _ _ _ < 2 ^ 64
    obtain ⟨z, e, hz⟩ := near_num (sgn y ^^ false) (2 * (fM (y % 2 ^ 63) <<< (double.fractionBits + 2 + (2 ^ 52 : Nat).log2 - (fM (y % 2 ^ 63)).log2) / 2 ^ 52) + (fM (y % 2 ^ 63) <<< (double.fractionBits + 2 + (2 ^ 52 : Nat).log2 - (fM (y % 2 ^ 63)).log2) % 2 ^ 52 != 0).toNat) ((fK (y % 2 ^ 63) : Int) - 1074 - (((1023 : Nat) : Int) - 1074) - ((double.fractionBits + 2 + (2 ^ 52 : Nat).log2 - (fM (y % 2 ^ 63)).log2 : Nat) : Int) - 1)
    rw [e]
    exact word_nan _ hz
  · rw [read_inf (by omega)]
    unfold Datum.quotient
    simp only [Option.map_some]
    exact ⟨_, rfl, by show isNan (double.word _ _) = false ∧ double.word _ _ < 2 ^ 64; exact word_nan _ (by rw [inr]; omega)⟩
end Go.Fl
