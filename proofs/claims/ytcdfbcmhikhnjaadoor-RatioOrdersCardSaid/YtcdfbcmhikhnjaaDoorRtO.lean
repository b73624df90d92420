/- Go's package math, as far as Ratio calls it: Frexp. -/
import Derived.Test.YtcdfbcmhikhnjaaDoorRtB
namespace Go.Proofs.YtcdfbcmhikhnjaaDoor
set_option linter.unusedVariables false
set_option linter.unusedSimpArgs false
set_option maxRecDepth 100000
open Go.ChangeShapes Go.WideShapes Go.ChangeAt Go.RowKit Go.Fl
attribute [local go_sem] fbits_run frombits_lit Int.toNat_natCast ord_lt ord_eq ord_gt ord_ne

/-- A number below the format's least normal one, moved up to 53 digits. -/
theorem up_53 {M : Nat} (h0 : 0 < M) (h1 : M < 2 ^ 52) : ∃ s, s ≤ 52 ∧ 0 < s ∧ 2 ^ 52 ≤ M * 2 ^ s ∧ M * 2 ^ s < 2 ^ 53 := by
  have l1 : 2 ^ M.log2 ≤ M := Nat.log2_self_le (by omega)
  have l2 : M < 2 ^ (M.log2 + 1) := Nat.lt_log2_self
  have l3 : M.log2 < 52 := (Nat.log2_lt (by omega)).2 h1
  refine ⟨52 - M.log2, by omega, by omega, ?_, ?_⟩
  · calc 2 ^ 52 = 2 ^ M.log2 * 2 ^ (52 - M.log2) := by rw [← Nat.pow_add]; congr 1; omega
      _ ≤ M * 2 ^ (52 - M.log2) := Nat.mul_le_mul_right _ l1
  · calc M * 2 ^ (52 - M.log2) < 2 ^ (M.log2 + 1) * 2 ^ (52 - M.log2) := Nat.mul_lt_mul_of_pos_right l2 (Nat.pow_pos (by decide))
      _ = 2 ^ 53 := by rw [← Nat.pow_add]; congr 1; omega
theorem normalize_den {r M : Nat} (h : Rep r 0 M) (hM : M < 2 ^ 52) {t s : Nat} (hs : s ≤ 52) (ht : Rep t (52 - s) (M * 2 ^ s)) (w : World) :
    Calls Tryd.prog 91 #[.float .f64 r] w fun e w' => e = .returned (.tuple #[.float .f64 t, .int .i64 (-52)]) ∧ w = w' := by
  obtain ⟨h1, h2, h3, h4, h5⟩ := word_num (neg := false) h
  rw [word_false] at h4 h5
  have HA := hid (fun W => abs_any _ h4 W)
  rw [h5] at HA
  have h6 := h.lt
  have q := lt_small (show r ≤ 2047 * 2 ^ 52 by omega)
  rw [show decide (r < 2 ^ 52) = true by simp; have := h.eq; omega] at q
  have hm : Ieee.double.mul r 4841369599423283200 = some t := by
    have := mul_rep (n1 := false) (n2 := false) h rep_p52 ht (.inl ⟨52 - s, by omega, by
      rw [Nat.mul_assoc, ← Nat.pow_add]; congr 2; omega⟩)
    exact this
  have qM : ∀ W : World, (binOp .mul 24 (.float .f64 r) (.float .f64 4841369599423283200)).run Tryd.prog W = .ok (.float .f64 t) W := fun W => run_float_arith W .mul _ .f64 _ _ _ hm
  clear h h1 h2 h3 h4 h5 h6 ht hM hs hm
  go_enter Tryd.func91, Tryd.ntmps91
  go_wp2_with (go_at_call 43; ((with_reducible refine (HA.out _).mono ?_); rintro e w1 ⟨rfl, rfl⟩))
  go_ret2
  exact ⟨rfl, rfl⟩
set_option maxHeartbeats 1000000 in
theorem frexp_core {r q K m : Nat} (c : Int) (hq : Rep q K m) (hm : 2 ^ 52 ≤ m) (hr0 : eqB r 0 = false) (hri : isInfB r = false) (hrn : isNan r = false) (hrb : r < 2 ^ 64) (hc : -52 ≤ c ∧ c ≤ 0)
    (HN : ∀ W, Calls Tryd.prog 91 #[.float .f64 r] W fun e w' => e = .returned (.tuple #[.float .f64 q, .int .i64 c]) ∧ W = w') (w : World) :
    Calls Tryd.prog 80 #[.float .f64 r] w fun e w' => e = .returned (.tuple #[.float .f64 (1021 * 2 ^ 52 + m), .int .i64 (c + K - 1021)]) ∧ w = w' := by
  have HI := hid (fun W => isInf_any r hrb W)
  rw [hri] at HI
  have HNN := hid (fun W => isNaN_any r W)
  rw [hrn] at HNN
  have HNO := hid HN
  have hw := hq.w3 (neg := false) hm
  rw [word_false] at hw
  have hK : K + 1 < 2 ^ 11 := by have := hq.fin; omega
  have hl : m - 2 ^ 52 < 2 ^ 52 := by have := hq.m; omega
  have hs : false.toNat < 2 := by decide
  have hqlt : q < 2 ^ 63 := by have := hq.lt; omega
  have qE : bits .and .u64 ((q : Int) / 4503599627370496) 2047 = (K : Int) + 1 := by
    have e : (q : Int) / 4503599627370496 = ((K + 1 : Nat) : Int) := by rw [hw]; unfold w3; simp; omega
    rw [e]
    have := bits_and (K + 1) 2047 (by omega) (by decide)
    rw [show (2047 : Nat) = 2 ^ 11 - 1 by decide, Nat.and_two_pow_sub_one_eq_mod, Nat.mod_eq_of_lt hK] at this
    exact this
  have qA : bits .andNot .u64 (q : Int) 9218868437227405312 = ((w3 false.toNat 0 (m - 2 ^ 52) : Nat) : Int) := by
    rw [hw]
    exact (bits_andNot _ 9218868437227405312 (w3_lt hs hK hl) (by decide)).trans (by rw [andnot_exp hs hK hl])
  have qO : bits .or .u64 ((w3 false.toNat 0 (m - 2 ^ 52) : Nat) : Int) 4602678819172646912 = ((1021 * 2 ^ 52 + m : Nat) : Int) := by
    have := (bits_or (w3 false.toNat 0 (m - 2 ^ 52)) (1022 * 2 ^ 52) (w3_lt hs (by decide) hl) (by decide)).trans (by rw [or_exp (by decide) hl])
    refine Eq.trans this ?_
    unfold w3
    simp
    omega
  obtain ⟨E, hE⟩ : ∃ E : Int, (K : Int) + 1 = E := ⟨_, rfl⟩
  have hE1 : 0 ≤ E ∧ E ≤ 2047 := by omega
  rw [hE] at qE
  obtain ⟨Z, hZ⟩ : ∃ Z, 1021 * 2 ^ 52 + m = Z := ⟨_, rfl⟩
  rw [hZ] at qO ⊢
  generalize w3 false.toNat 0 (m - 2 ^ 52) = y at *
  have hfin : Hid (c + K - 1021 = c + (E - 1022)) := by unfold Hid; omega
  rw [hfin.out]
  have hx : (q : Int) ≤ 18446744073709551615 := by omega
  have q2 : E - 1023 + 1 = E - 1022 := by omega
  have q0 := hr0
  clear hq hm hr0 hri hrn hrb HN hw hK hl hs hE hZ hfin hqlt
  go_enter Tryd.func80, Tryd.ntmps80
  go_wp2_with (first
    | (go_at_call 16; ((with_reducible refine (HI.out _).mono ?_); rintro e w1 ⟨rfl, rfl⟩))
    | (go_at_call 90; ((with_reducible refine (HNN.out _).mono ?_); rintro e w1 ⟨rfl, rfl⟩))
    | (go_at_call 91; ((with_reducible refine (HNO.out _).mono ?_); rintro e w1 ⟨rfl, rfl⟩)))
  go_ret2
  exact ⟨rfl, rfl⟩
theorem frexp_any {r K M : Nat} (h : Rep r K M) : ∃ s m : Nat, m = M * 2 ^ s ∧ 2 ^ 52 ≤ m ∧ m < 2 ^ 53 ∧ ∀ w : World,
    Calls Tryd.prog 58 #[.float .f64 r] w fun e w' => e = .returned (.tuple #[.float .f64 (1021 * 2 ^ 52 + m), .int .i64 ((K : Int) - s - 1021)]) ∧ w = w' := by
  obtain ⟨h1, h2, h3, h4, h5⟩ := word_num (neg := false) h
  have q0 := eq_zero (neg := false) h
  rw [word_false] at h1 h2 h4 h5 q0
  have fin : ∀ (s m : Nat), (∀ W, Calls Tryd.prog 80 #[.float .f64 r] W fun e w' => e = .returned (.tuple #[.float .f64 (1021 * 2 ^ 52 + m), .int .i64 ((K : Int) - s - 1021)]) ∧ W = w') → ∀ w : World,
      Calls Tryd.prog 58 #[.float .f64 r] w fun e w' => e = .returned (.tuple #[.float .f64 (1021 * 2 ^ 52 + m), .int .i64 ((K : Int) - s - 1021)]) ∧ w = w' := by
    intro s m HF w
    replace HF := hid HF
    obtain ⟨Z, hZ⟩ : ∃ Z, 1021 * 2 ^ 52 + m = Z := ⟨_, rfl⟩
    obtain ⟨X, hX⟩ : ∃ X, (K : Int) - s - 1021 = X := ⟨_, rfl⟩
    rw [hZ, hX] at HF ⊢
    clear hZ hX q0 h1 h2 h3 h4 h5 h
    go_enter Tryd.func58, Tryd.ntmps58
    go_wp2_with (go_at_call 80; ((with_reducible refine (HF.out _).mono ?_); rintro e w1 ⟨rfl, rfl⟩))
    go_ret2
    exact ⟨rfl, rfl⟩
  by_cases hM : 2 ^ 52 ≤ M
  · refine ⟨0, M, by simp, hM, h.m, fin 0 M fun W => ?_⟩
    have := frexp_core 0 h hM q0 h2 h1 h4 (by decide) (fun W => normalize_norm (neg := false) h hM W) W
    rw [show (0 : Int) + K - 1021 = (K : Int) - (0 : Nat) - 1021 by omega] at this
    exact this
  · have hK : K = 0 := by have := h.k; omega
    subst hK
    have hp : 0 < M := by have := h.pos; omega
    obtain ⟨s, s1, s2, s3, s4⟩ := up_53 hp (by omega)
    have ht : Rep ((52 - s) * 2 ^ 52 + M * 2 ^ s) (52 - s) (M * 2 ^ s) := ⟨rfl, s4, .inr s3, by omega, by omega⟩
    refine ⟨s, M * 2 ^ s, rfl, s3, s4, fin s (M * 2 ^ s) fun W => ?_⟩
    have := frexp_core (-52) ht s3 q0 h2 h1 h4 (by decide) (fun W => normalize_den h (by omega) s1 ht W) W
    rw [show (-52 : Int) + ((52 - s : Nat) : Int) - 1021 = ((0 : Nat) : Int) - s - 1021 by omega] at this
    exact this
end Go.Proofs.YtcdfbcmhikhnjaaDoor
