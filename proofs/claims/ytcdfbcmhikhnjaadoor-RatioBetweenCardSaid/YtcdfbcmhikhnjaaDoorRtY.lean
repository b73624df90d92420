/- Ratio: whole numbers as floating ones; the order of ratios: plainly. -/
import Derived.Test.YtcdfbcmhikhnjaaDoorRtX
namespace Go.Proofs.YtcdfbcmhikhnjaaDoor
set_option linter.unusedVariables false
set_option linter.unusedSimpArgs false
set_option maxRecDepth 100000
open Go.ChangeShapes Go.WideShapes Go.ChangeAt Go.RowKit Go.Fl

theorem quo_up {A n : Nat} (hn : 0 < n) {i j : Nat} (h : i ≤ j) : quo A n i ≤ quo A n j := by
  induction j with
  | zero => obtain rfl : i = 0 := by omega
            exact Nat.le_refl _
  | succ j ih =>
    by_cases e : i = j + 1
    · subst e; exact Nat.le_refl _
    · have := ih (by omega)
      have := quo_succ A n j hn
      omega
theorem quo_one {A s : Nat} (j : Nat) (h : A * 2 ^ s < 2 ^ 128) : quo A 1 (128 + s) = A * 2 ^ s := by
  unfold quo
  rw [Nat.one_mul, Nat.add_comm 128 s, Nat.pow_add, ← Nat.mul_assoc, Nat.mul_div_cancel _ (by decide)]
theorem theI_one {A s m : Nat} (hm : m = A * 2 ^ s) (h1 : 2 ^ 52 ≤ m) (h2 : m < 2 ^ 53) (hA : 0 < A) (hA2 : A < 2 ^ 128) : theI A 1 = 128 + s := by
  obtain ⟨t1, t2, t3, t4⟩ := theI_spec hA hA2 (show 0 < 1 by decide) (by decide)
  have q := quo_one (A := A) (s := s) 0 (by omega)
  rw [← hm] at q
  have q1 := quo_succ A 1 (127 + s) (by decide)
  rw [show 127 + s + 1 = 128 + s by omega, q] at q1
  rcases Nat.lt_trichotomy (theI A 1) (128 + s) with h | h | h
  · have := quo_up (A := A) (n := 1) (by decide) (show theI A 1 ≤ 127 + s by omega)
    omega
  · exact h
  · have := t2 _ h
    omega
theorem ofR_one {A s m : Nat} (hm : m = A * 2 ^ s) (h1 : 2 ^ 52 ≤ m) (h2 : m < 2 ^ 53) (hA : 0 < A) (hA2 : A < 2 ^ 128) (hs : s ≤ 53) : ofR A 1 = (1074 - s) * 2 ^ 52 + m := by
  have ht := theI_one hm h1 h2 hA hA2
  have q := quo_one (A := A) (s := s) 0 (by omega)
  have q' := quo_one (A := A) (s := s + 1) 0 (by rw [Nat.pow_succ, ← Nat.mul_assoc, ← hm]; omega)
  rw [Nat.pow_succ, ← Nat.mul_assoc, ← hm] at q'
  rw [← hm] at q
  unfold ofR
  rw [ht, q]
  have hu : upB A 1 (128 + s) = false := by
    unfold upB
    rw [show 128 + s + 1 = 128 + (s + 1) by omega, q', show m * 2 % 2 = 0 by omega]
    rfl
  rw [hu, show 1202 - (128 + s) = 1074 - s by omega]
  simp
/-- A whole number of at most 53 digits, or the next power of two: its word. -/
theorem whole_rep {A : Nat} (h0 : 0 < A) (h : A ≤ 2 ^ 53) : ∃ K M, Rep (ofR A 1) K M ∧ Same2 A 1074 K M ∧ ((∃ d : Nat, (K : Int) - 1074 = -(d : Int) ∧ M = A * 2 ^ d) ∨ ((K : Int) - 1074 = 1 ∧ M * 2 = A)) := by
  by_cases hA : A < 2 ^ 53
  · obtain ⟨s, m, hm, h1, h2, hs⟩ : ∃ s m, m = A * 2 ^ s ∧ 2 ^ 52 ≤ m ∧ m < 2 ^ 53 ∧ s ≤ 52 := by
      by_cases hA2 : A < 2 ^ 52
      · obtain ⟨s, a, b, c, d⟩ := up_53 h0 hA2
        exact ⟨s, _, rfl, c, d, a⟩
      · exact ⟨0, A, by simp, by omega, hA, by omega⟩
    rw [ofR_one hm h1 h2 h0 (by omega) (by omega)]
    refine ⟨1074 - s, m, ⟨rfl, h2, .inr h1, by omega, by omega⟩, .inr ⟨s, by omega, hm⟩, .inl ⟨s, by omega, hm⟩⟩
  · obtain rfl : A = 2 ^ 53 := by omega
    have e : ofR (2 ^ 53) 1 = 1075 * 2 ^ 52 + 2 ^ 52 := by decide +kernel
    rw [e]
    exact ⟨1075, 2 ^ 52, ⟨rfl, by decide, by decide, by decide, by decide⟩, .inl ⟨1, by omega, by decide⟩, .inr ⟨by decide, by decide⟩⟩
theorem cut_zero {neg : Bool} {M d : Nat} (hM : 0 < M) : Ieee.Toward.zero.cut neg (M * 2 ^ d) d = M := by
  unfold Ieee.Toward.cut
  have hl : d ≤ (M * 2 ^ d).log2 + 2 := by rw [log2_shift hM]; omega
  rw [Nat.min_eq_left hl]
  have h1 : (1 : Nat) <<< d = 2 ^ d := by rw [Nat.shiftLeft_eq, Nat.one_mul]
  have hp := Nat.two_pow_pos d
  dsimp only
  rw [h1, Nat.mul_div_cancel _ hp]
  simp
theorem whole_float {n : Int} (h : -9007199254740992 ≤ n ∧ n ≤ 9007199254740992) : floatOfInt .f64 n = ofF n 1 ∧ floatToIntVal .f64 (ofF n 1) .i64 = some n ∧ isNan (ofF n 1) = false := by
  have e : floatOfInt .f64 n = Ieee.double.nearest (decide (n < 0)) n.natAbs 0 := by
    unfold floatOfInt FloatKind.nearest FloatKind.encode
    show Ieee.double.write _ = _
    rfl
  by_cases h0 : n = 0
  · subst h0
    have e0 : ofF 0 1 = 0 := by decide +kernel
    rw [e0]
    refine ⟨?_, by decide +kernel, by decide +kernel⟩
    rw [e]
    decide +kernel
  · obtain ⟨K, M, hR, hS, hI⟩ := whole_rep (A := n.natAbs) (by omega) (by omega)
    have hF : ofF n 1 = Ieee.double.word (decide (n < 0)) (ofR n.natAbs 1) := by
      have := ofF_main h0 (show (0 : Int) < 1 by decide) (by decide)
      exact this
    rw [hF]
    refine ⟨?_, ?_, (word_num hR).1⟩
    · rw [e]
      have := near_rep (decide (n < 0)) hR hS
      simpa using this
    · unfold floatToIntVal FloatKind.decode
      rw [f64_format, hR.read]
      have hA : 0 < n.natAbs := by omega
      have e1 : Ieee.Datum.toInt .zero (.number (decide (n < 0)) M ((K : Int) - 1074)) = some n := by
        unfold Ieee.Datum.toInt Ieee.Datum.integral
        dsimp only
        rw [signed_eq, Nat.pow_zero, Nat.mul_one]
        have hM : Ieee.Toward.zero.cut (decide (n < 0)) (M <<< ((K : Int) - 1074).toNat) (-((K : Int) - 1074)).toNat = n.natAbs := by
          rcases hI with ⟨d, h1, h2⟩ | ⟨h1, h2⟩
          · rw [h1, show (-(d : Int)).toNat = 0 by omega, show (- -(d : Int)).toNat = d by omega, Nat.shiftLeft_zero, h2, cut_zero hA]
          · rw [h1, show ((1 : Int)).toNat = 1 from rfl, show (-(1 : Int)).toNat = 0 from rfl, Nat.shiftLeft_eq, Nat.pow_one, h2]
            have := cut_zero (neg := decide (n < 0)) (M := n.natAbs) (d := 0) hA
            rw [Nat.pow_zero, Nat.mul_one] at this
            exact this
        rw [hM]
        unfold sval
        congr 1
        by_cases hn : n < 0
        · rw [decide_eq_true hn, if_pos rfl]; omega
        · rw [decide_eq_false hn, if_neg (by simp)]; omega
      rw [e1]
      have b1 : IntKind.i64.min = -9223372036854775808 := rfl
      have b2 : IntKind.i64.max = 9223372036854775807 := rfl
      rw [b1, b2]
      simp only []
      rw [if_pos (by omega)]
/-- That many times, divided by that. -/
theorem ofF_scale {n c : Int} (hn : -9223372036854775808 ≤ n ∧ n ≤ 9223372036854775807) (h1 : 1 ≤ c) (h2 : c ≤ 1000000) : ofF (n * c) c = ofF n 1 := by
  by_cases h0 : n = 0
  · subst h0
    rw [Int.zero_mul]
    unfold ofF
    rw [of_good (by omega) (by omega), of_good (by decide) (by decide), if_neg (by simp), if_neg (by omega), if_pos rfl, if_neg (by simp), if_neg (by decide), if_pos rfl]
  · have hc : n * c ≠ 0 := Int.mul_ne_zero h0 (by omega)
    have hb : (n * c).natAbs = n.natAbs * c.toNat := by
      rw [Int.natAbs_mul]
      congr 1
      omega
    have hs : decide (n * c < 0) = decide (n < 0) := by
      by_cases h : n < 0
      · have : n * c < 0 := Int.mul_neg_of_neg_of_pos h (by omega)
        simp [h, this]
      · have : 0 ≤ n * c := Int.mul_nonneg (by omega) (by omega)
        simp [h]; omega
    rw [ofF_main hc (by omega) (by omega), ofF_main h0 (by decide) (by decide), hs, hb]
    have hm : n.natAbs * c.toNat ≤ 9223372036854775808 * 1000000 := Nat.mul_le_mul (by omega) (by omega)
    have e : ofR (n.natAbs * c.toNat) c.toNat = ofR n.natAbs (1 : Int).toNat := ofR_eq (Nat.mul_pos (by omega) (by omega)) (by omega) (by omega) (by omega) (by omega) (by omega) (by decide) (by decide) (by show n.natAbs * c.toNat * (1 : Int).toNat = _; simp)
    rw [e]
theorem key_ofF {a n : Int} (ha : I128 a) (h1 : 0 < n) (h2 : n ≤ 20000000000) : keyI (ofF a n) = if a < 0 then -1 - (ofR a.natAbs n.toNat : Int) else if a = 0 then 0 else (ofR a.natAbs n.toNat : Int) := by
  by_cases h0 : a = 0
  · subst h0
    have e0 : ofF 0 n = 0 := by
      unfold ofF
      rw [of_good (by omega) h2, if_neg (by simp), if_neg (by omega), if_pos rfl]
    rw [e0, if_neg (by decide), if_pos rfl]
    decide +kernel
  · have hl := ofR_lt (A := a.natAbs) (n := n.toNat) (by omega) (by omega) (by omega) (by omega)
    rw [ofF_main h0 h1 h2, if_neg h0]
    obtain ⟨m1, m2, m3⟩ := word_mod (decide (a < 0)) (show ofR a.natAbs n.toNat < 2 ^ 63 by omega)
    have m4 := (word_nan (decide (a < 0)) (show ofR a.natAbs n.toNat ≤ 2047 * 2 ^ 52 by omega)).1
    unfold keyI
    rw [m4, m1, m2]
    by_cases h : a < 0 <;> simp [h]
/-- A ratio that is not greater has a floating number that is not. -/
theorem ofF_mono {a n b k : Int} (ha : I128 a) (h1 : 0 < n) (h2 : n ≤ 20000000000) (hb : I128 b) (k1 : 0 < k) (k2 : k ≤ 20000000000) (h : a * k ≤ b * n) : keyI (ofF a n) ≤ keyI (ofF b k) := by
  rw [key_ofF ha h1 h2, key_ofF hb k1 k2]
  have sa : a < 0 → a * k < 0 := fun h => Int.mul_neg_of_neg_of_pos h k1
  have sa' : 0 < a → 0 < a * k := fun h => Int.mul_pos h k1
  have sb : b < 0 → b * n < 0 := fun h => Int.mul_neg_of_neg_of_pos h h1
  have sb' : 0 < b → 0 < b * n := fun h => Int.mul_pos h h1
  have mono : ∀ {x y p q : Int}, 0 < x → x < 170141183460469231731687303715884105729 → 0 < p → p ≤ 20000000000 → 0 < y → y < 170141183460469231731687303715884105729 → 0 < q → q ≤ 20000000000 → x * q ≤ y * p → ofR x.toNat p.toNat ≤ ofR y.toNat q.toNat := fun {x y p q} x1 x2 p1 p2 y1 y2 q1 q2 hh => by
    refine ofR_mono (by omega) (by omega) (by omega) (by omega) (by omega) (by omega) (by omega) (by omega) ?_
    have e1 : ((x.toNat * q.toNat : Nat) : Int) = x * q := by rw [Int.natCast_mul, Int.toNat_of_nonneg (by omega), Int.toNat_of_nonneg (by omega)]
    have e2 : ((y.toNat * p.toNat : Nat) : Int) = y * p := by rw [Int.natCast_mul, Int.toNat_of_nonneg (by omega), Int.toNat_of_nonneg (by omega)]
    omega
  by_cases ha0 : a < 0
  · rw [if_pos ha0]
    by_cases hb0 : b < 0
    · rw [if_pos hb0]
      have := mono (x := -b) (y := -a) (p := k) (q := n) (by omega) (by omega) k1 k2 (by omega) (by omega) h1 h2 (by rw [Int.neg_mul, Int.neg_mul]; omega)
      rw [show (-a).toNat = a.natAbs by omega, show (-b).toNat = b.natAbs by omega] at this
      omega
    · rw [if_neg hb0]
      split <;> omega
  · rw [if_neg ha0]
    by_cases hb0 : b < 0
    · have := sb hb0
      by_cases ha1 : a = 0
      · subst ha1; rw [Int.zero_mul] at h; omega
      · have := sa' (by omega); omega
    · rw [if_neg hb0]
      by_cases ha1 : a = 0
      · rw [if_pos ha1]
        split <;> omega
      · rw [if_neg ha1]
        by_cases hb1 : b = 0
        · subst hb1
          have := sa' (by omega)
          rw [Int.zero_mul] at h
          omega
        · rw [if_neg hb1]
          have := mono (x := a) (y := b) (p := n) (q := k) (by omega) (by omega) h1 h2 (by omega) (by omega) k1 k2 h
          rw [show a.toNat = a.natAbs by omega, show b.toNat = b.natAbs by omega] at this
          omega
end Go.Proofs.YtcdfbcmhikhnjaaDoor
