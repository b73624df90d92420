/- Ratio: the numbers that a text is read as, and what is made of them. -/
import Derived.Test.YtcdfbcmhikhnjaaDoorRuC
namespace Go.Proofs.YtcdfbcmhikhnjaaDoor
set_option linter.unusedVariables false
set_option linter.unusedSimpArgs false
set_option maxRecDepth 100000
open Go.ChangeShapes Go.WideShapes Go.ChangeAt Go.RowKit Go.Fl
open Go.Lib (decDigits itoa)
attribute [local go_sem] ord_lt ord_eq ord_gt ord_ne

theorem cut_le (way : Ieee.Toward) (neg : Bool) (n d : Nat) : way.cut neg n d ≤ n + 1 := by
  unfold Ieee.Toward.cut
  have h2 : ∀ x : Bool, x.toNat ≤ 1 := by decide
  exact Nat.add_le_add (Nat.div_le_self _ _) (h2 _)
theorem nearest_of (m : Nat) : floatOfInt .f64 (m : Int) = Ieee.double.nearest false m 0 := by
  unfold floatOfInt FloatKind.nearest FloatKind.encode
  show Ieee.double.write _ = _
  unfold Ieee.Format.write
  have : decide ((m : Int) < 0) = false := by simp
  simp only [this, Int.natAbs_natCast]
/-- A whole number as a floating one; exactly, if it has at most 53 digits. -/
theorem float_any {m : Nat} (h0 : 0 < m) (h : m < 2 ^ 60) : ∃ r K M, floatOfInt .f64 (m : Int) = r ∧ Rep r K M ∧ 2 ^ 52 ≤ M ∧ (m < 2 ^ 53 → ∃ s, M = m * 2 ^ s ∧ K + s = 1074) := by
  rw [nearest_of]
  by_cases hm : m < 2 ^ 53
  · obtain ⟨s, M, hM, h1, h2, hs⟩ : ∃ s M, M = m * 2 ^ s ∧ 2 ^ 52 ≤ M ∧ M < 2 ^ 53 ∧ s ≤ 52 := by
      by_cases hA2 : m < 2 ^ 52
      · obtain ⟨s, a, b, c, d⟩ := up_53 h0 hA2
        exact ⟨s, _, rfl, c, d, a⟩
      · exact ⟨0, m, by simp, by omega, hm, by omega⟩
    have hR : Rep ((1074 - s) * 2 ^ 52 + M) (1074 - s) M := ⟨rfl, h2, .inr h1, by omega, by omega⟩
    refine ⟨_, _, _, ?_, hR, h1, fun _ => ⟨s, hM, by omega⟩⟩
    have := near_rep false hR (mag := m) (p := 1074) (.inr ⟨s, by omega, hM⟩)
    rw [word_false] at this
    simpa using this
  · have hl1 : 53 ≤ m.log2 := by
      have := (Nat.le_log2 (n := m) (k := 53) (by omega)).2 (by omega)
      exact this
    have hl2 : m.log2 < 60 := (Nat.log2_lt (by omega)).2 h
    obtain ⟨r, hr, b1, b2⟩ : ∃ r, Ieee.double.nearest false m 0 = r ∧ 2 ^ 52 ≤ r ∧ r < 2047 * 2 ^ 52 := by
      refine ⟨_, rfl, ?_⟩
      unfold Ieee.Format.nearest
      rw [lp, fb, bn, Fl.inr, if_neg (by omega)]
      dsimp only
      rw [word_false]
      have hlast : max ((0 : Int) + (m.log2 : Int) - ((52 : Nat) : Int)) (-1074) = (m.log2 : Int) - 52 := by omega
      rw [hlast]
      have hk := cut_le .even false (m <<< ((0 : Int) - ((m.log2 : Int) - 52)).toNat) ((m.log2 : Int) - 52 - 0).toNat
      have hs : ((0 : Int) - ((m.log2 : Int) - 52)).toNat = 0 := by omega
      rw [hs, Nat.shiftLeft_zero] at hk ⊢
      have ht : ((m.log2 : Int) - 52 - -1074).toNat = m.log2 + 1022 := by omega
      rw [ht]
      generalize Ieee.Toward.cut .even false m ((m.log2 : Int) - 52 - 0).toNat = k at *
      omega
    have hR := Rep.of (r := r) (by omega) b2
    refine ⟨r, _, _, hr, hR, ?_, fun h => absurd h hm⟩
    have := rung_parts r
    have := fK_or r
    unfold fM
    rw [if_neg (by omega)]
    omega
theorem ldexp_zero (n : Int) (w : World) : Calls Tryd.prog 53 #[.float .f64 0, .int .i64 n] w fun e w' => e = .returned (.float .f64 0) ∧ w = w' := by
  have HL : Hid (∀ W, Calls Tryd.prog 78 #[.float .f64 0, .int .i64 n] W fun e w' => e = .returned (.float .f64 0) ∧ W = w') := hid fun W => by
    have q := ord_eq 0 0
    rw [show eqB 0 0 = true by decide +kernel] at q
    go_enter Tryd.func78, Tryd.ntmps78
    go_wp2
    go_ret
    exact ⟨rfl, rfl⟩
  go_enter Tryd.func53, Tryd.ntmps53
  go_wp2_with (go_at_call 78; ((with_reducible refine (HL.out _).mono ?_); rintro e w1 ⟨rfl, rfl⟩))
  go_ret
  exact ⟨rfl, rfl⟩
theorem same_shift {m s M K J I : Nat} {n : Int} (hM : M = m * 2 ^ s) (hK : K + s = 1074) (h : Same2 m (1074 + n) J I) : Same2 M ((K : Int) + n) J I := by
  rcases h with ⟨d, e1, e2⟩ | ⟨d, e1, e2⟩
  · exact .inl ⟨d + s, by omega, by rw [hM, e2, Nat.pow_add, Nat.mul_assoc]⟩
  · by_cases hd : s ≤ d
    · refine .inr ⟨d - s, by omega, ?_⟩
      rw [e2, hM, Nat.mul_assoc, ← Nat.pow_add, show s + (d - s) = d by omega]
    · refine .inl ⟨s - d, by omega, ?_⟩
      rw [hM, e2, Nat.mul_assoc, ← Nat.pow_add, show d + (s - d) = s by omega]
/-- A whole number times a power of two. -/
theorem ldexp_int {m : Nat} (h : m < 2 ^ 60) (n : Int) (hn : -3000 ≤ n ∧ n ≤ 3000) : ∃ r, floatOfInt .f64 (m : Int) = r ∧ ∀ w, Calls Tryd.prog 53 #[.float .f64 r, .int .i64 n] w fun e w' =>
    (∃ z, e = .returned (.float .f64 z) ∧ z < 2 ^ 64 ∧ isNan z = false ∧ (m < 2 ^ 53 → ∀ t J I, Rep t J I → Same2 m (1074 + n) J I → z = t)) ∧ w = w' := by
  by_cases h0 : m = 0
  · subst h0
    refine ⟨0, by decide +kernel, fun w => (ldexp_zero n w).mono ?_⟩
    rintro e w' ⟨rfl, rfl⟩
    refine ⟨⟨0, rfl, by decide, by decide +kernel, fun _ t J I hR hS => ?_⟩, rfl⟩
    exfalso
    have := hR.pos
    rcases hS with ⟨d, e1, e2⟩ | ⟨d, e1, e2⟩
    · have : 0 < I * 2 ^ d := Nat.mul_pos this (Nat.two_pow_pos d)
      omega
    · rw [Nat.zero_mul] at e2; omega
  · obtain ⟨r, K, M, hr, hR, hM, hx⟩ := float_any (m := m) (by omega) h
    refine ⟨r, hr, fun w => ?_⟩
    have := ldexp_any false hR hM n hn w
    rw [word_false] at this
    refine this.mono ?_
    rintro e w' ⟨⟨z, rfl, z1, z2, hz⟩, rfl⟩
    refine ⟨⟨z, rfl, z2, z1, fun hm t J I hR' hS => ?_⟩, rfl⟩
    obtain ⟨s, e1, e2⟩ := hx hm
    have := hz hR' (same_shift e1 e2 hS)
    rw [word_false] at this
    exact this
theorem neg_of_word (s : Bool) {r : Nat} (h : r < 2 ^ 63) : Op.negFloat .f64 (Ieee.double.word s r) = Ieee.double.word (!s) r := by
  have h1 := neg_float h
  cases s
  · rw [word_false]; exact h1
  · rw [← h1]
    show r ^^^ 2 ^ 63 ^^^ 2 ^ 63 = r
    rw [Nat.xor_assoc, Nat.xor_self, Nat.xor_zero]
theorem neg_of_any {z : Nat} (h : z < 2 ^ 64) (hn : isNan z = false) : Op.negFloat .f64 z < 2 ^ 64 ∧ isNan (Op.negFloat .f64 z) = false := by
  rw [← word_parts h, neg_of_word _ (by omega)]
  have hr : z % 2 ^ 63 ≤ 2047 * 2 ^ 52 := by simpa [isNan] using hn
  obtain ⟨a, b⟩ := word_nan (!sgn z) hr
  exact ⟨b, a⟩
/-- A text of a number that is no word is read as just that number. -/
theorem parse_yes {b : Nat} (hb : b < 2 ^ 64) {l : List UInt8} (h : textB b = l) (hw : ∀ p ∈ wordsL, p.1 ≠ l) :
    ∃ (O : Nat) (E : Int), O < 2 ^ 53 ∧ (-2000 ≤ E ∧ E ≤ 2000) ∧ l = (if sgn b then [45] else []) ++ (decDigits O ++ 112 :: itoa E) ∧
      ∀ z, (∀ t J I, Rep t J I → Same2 O (1074 + E) J I → z = t) → (if sgn b then Op.negFloat .f64 z else z) = b := by
  obtain ⟨K, M, hR, hl⟩ := text_parts h hw
  have hK := hR.fin
  have hM := hR.m
  have hp := hR.pos
  have hz := tz_pow hp hM
  have hO := oddM_le M
  refine ⟨oddM M, (K : Int) - 1074 + tz M, by omega, by omega, hl, fun z hz => ?_⟩
  have hs : Same2 (oddM M) (1074 + ((K : Int) - 1074 + tz M)) K M := .inr ⟨tz M, by omega, (tz_spec M hp).1⟩
  have e := hz _ _ _ hR hs
  have hwp := word_parts hb
  rw [e]
  cases hsg : sgn b
  · rw [hsg, word_false] at hwp
    exact hwp
  · rw [hsg] at hwp
    rw [if_pos rfl, neg_float (by omega)]
    exact hwp
end Go.Proofs.YtcdfbcmhikhnjaaDoor
