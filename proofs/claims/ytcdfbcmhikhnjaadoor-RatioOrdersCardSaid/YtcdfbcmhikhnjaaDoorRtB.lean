/- Go's package math, as far as Ratio calls it: Ldexp. -/
import Derived.Test.YtcdfbcmhikhnjaaDoorRtA
namespace Go.Proofs.YtcdfbcmhikhnjaaDoor
set_option linter.unusedVariables false
set_option linter.unusedSimpArgs false
set_option maxRecDepth 100000
open Go.ChangeShapes Go.WideShapes Go.ChangeAt Go.RowKit Go.Fl
attribute [local go_sem] fbits_run frombits_lit Int.toNat_natCast ord_lt ord_eq ord_gt ord_ne

theorem word_num {neg : Bool} {r K M : Nat} (h : Rep r K M) : isNan (Ieee.double.word neg r) = false ∧ isInfB (Ieee.double.word neg r) = false ∧ skey (Ieee.double.word neg r) = sval neg r ∧ Ieee.double.word neg r < 2 ^ 64 ∧ Ieee.double.word neg r % 2 ^ 63 = r := by
  obtain ⟨h1, h2, h3⟩ := h.word neg
  have h4 := h.lt
  refine ⟨?_, ?_, ?_, h3, h1⟩
  · unfold isNan; rw [h1]; simp; omega
  · unfold isInfB; rw [h1]; simp; omega
  · rw [skey_eq, h1, h2]
theorem eq_zero {neg : Bool} {r K M : Nat} (h : Rep r K M) : eqB (Ieee.double.word neg r) 0 = false := by
  obtain ⟨h1, _, h3, _⟩ := word_num (neg := neg) h
  unfold eqB
  rw [h3, skey_pos (by decide)]
  have := h.pos'
  unfold sval
  cases neg <;> simp <;> intros <;> omega
theorem lt_small {r : Nat} (h : r ≤ 2047 * 2 ^ 52) : ltB r 4503599627370496 = decide (r < 2 ^ 52) := by
  unfold ltB
  rw [nan_pos (show r < 2 ^ 63 by omega), nan_pos (by decide), skey_pos (by omega), skey_pos (by decide), Bool.eq_iff_iff]
  simp
  omega
theorem normalize_norm {neg : Bool} {r K M : Nat} (h : Rep r K M) (hM : 2 ^ 52 ≤ M) (w : World) : Calls Tryd.prog 91 #[.float .f64 (Ieee.double.word neg r)] w fun e w' => e = .returned (.tuple #[.float .f64 (Ieee.double.word neg r), .int .i64 0]) ∧ w = w' := by
  obtain ⟨h1, h2, h3, h4, h5⟩ := word_num (neg := neg) h
  have HA := hid (fun W => abs_any _ h4 W)
  rw [h5] at HA
  have h6 := h.lt
  have q := lt_small (show r ≤ 2047 * 2 ^ 52 by omega)
  rw [show decide (r < 2 ^ 52) = false by simp; have := h.eq; omega] at q
  generalize Ieee.double.word neg r = x at *
  go_enter Tryd.func91, Tryd.ntmps91
  go_wp2_with (go_at_call 43; ((with_reducible refine (HA.out _).mono ?_); rintro e w1 ⟨rfl, rfl⟩))
  go_ret2
  exact ⟨rfl, rfl⟩

theorem and_2047 (a : Nat) (ha : a < 9223372036854775808) : bits .and .i64 (a : Int) 2047 = ((a % 2048 : Nat) : Int) := by
  show IntKind.i64.wrap ((BitVec.ofInt 64 (a : Int) &&& BitVec.ofInt 64 2047).toNat : Int) = _
  rw [BitVec.ofInt_natCast, show BitVec.ofInt 64 2047 = BitVec.ofNat 64 2047 from rfl, BitVec.toNat_and, BitVec.toNat_ofNat, BitVec.toNat_ofNat, Nat.mod_eq_of_lt (by omega : a < 2 ^ 64), show (2047 : Nat) % 2 ^ 64 = 2 ^ 11 - 1 from rfl, Nat.and_two_pow_sub_one_eq_mod]
  rw [IntKind.wrap_i64]
  omega
theorem field_of {s E l : Nat} (hs : s < 2) (hE : E < 2 ^ 11) (hl : l < 2 ^ 52) : bits .and .i64 (((w3 s E l : Nat) : Int) / 4503599627370496) 2047 = (E : Int) := by
  have e : ((w3 s E l : Nat) : Int) / 4503599627370496 = ((2 ^ 11 * s + E : Nat) : Int) := by unfold w3; omega
  rw [e, and_2047 _ (by omega)]
  congr 1
  omega
/-- What the result must be, where the format has it. -/
def LdPost (neg : Bool) (K M : Nat) (n : Int) (w : World) (e : Ending) (w' : World) : Prop :=
  (∃ z, e = .returned (.float .f64 z) ∧ isNan z = false ∧ z < 2 ^ 64 ∧ ∀ {t J I : Nat}, Rep t J I → Same2 M ((K : Int) + n) J I → z = Ieee.double.word neg t) ∧ w = w'
set_option maxHeartbeats 1000000 in
theorem ldexp_far (neg : Bool) {r K M : Nat} (h : Rep r K M) (hM : 2 ^ 52 ≤ M) (n : Int) (hn : -3000 ≤ n ∧ n ≤ 3000) (hf : n + K < -53 ∨ 2045 < n + K) (w : World) :
    Calls Tryd.prog 78 #[.float .f64 (Ieee.double.word neg r), .int .i64 n] w (LdPost neg K M n w) := by
  obtain ⟨h1, h2, h3, h4, h5⟩ := word_num (neg := neg) h
  have q0 := eq_zero (neg := neg) h
  have HI := hid (fun W => isInf_any _ h4 W)
  rw [h2] at HI
  have HNN := hid (fun W => isNaN_any (Ieee.double.word neg r) W)
  rw [h1] at HNN
  have HNO := hid (fun W => normalize_norm (neg := neg) h hM W)
  have HCS := hid (fun W => copysign_any 0 _ (by decide) h4 W)
  have hw := h.w3 (neg := neg) hM
  have hK : K + 1 < 2 ^ 11 := by have := h.fin; omega
  have hl : M - 2 ^ 52 < 2 ^ 52 := by have := h.m; omega
  have hs : neg.toNat < 2 := by cases neg <;> decide
  obtain ⟨E, hE⟩ : ∃ E : Int, E = ((K + 1 : Nat) : Int) := ⟨_, rfl⟩
  have qE : bits .and .i64 ((Ieee.double.word neg r : Int) / 4503599627370496) 2047 = E := by rw [hw, hE]; exact field_of hs hK hl
  have hx : Ieee.double.word neg r ≤ 18446744073709551615 := by omega
  have hE2 : 1 ≤ E ∧ E ≤ 2047 := by omega
  have hnone : ∀ (t J I : Nat), Rep t J I → Same2 M ((K : Int) + n) J I → False := fun t J I ht hv => by
    have m1 := h.m; have m2 := ht.m; have p1 := ht.pos; have f1 := ht.fin; have k1 := ht.k
    rcases hv with ⟨d, e1, e2⟩ | ⟨d, e1, e2⟩
    · rcases hf with hf | hf
      · have hd : 54 ≤ d := by omega
        have : 2 ^ 54 ≤ 2 ^ d := Nat.pow_le_pow_right (by decide) hd
        have : 1 * 2 ^ d ≤ I * 2 ^ d := Nat.mul_le_mul_right _ p1
        omega
      · omega
    · rcases hf with hf | hf
      · omega
      · have hd : 1 ≤ d := by omega
        have : 2 ^ 1 ≤ 2 ^ d := Nat.pow_le_pow_right (by decide) hd
        have : M * 2 ^ 1 ≤ M * 2 ^ d := Nat.mul_le_mul_left _ this
        omega
  have HNONE := hid hnone
  have q1 : ltB (Ieee.double.word neg r) 0 = neg := by
    unfold ltB
    rw [h1, h3, skey_pos (by decide)]
    have := h.pos'
    unfold sval isNan
    cases neg <;> simp <;> omega
  have hf1 : n + (E - 1023) < -1075 ∨ 1023 < n + (E - 1023) := by omega
  have H2 := hid (h.word neg).2.1
  have s1 := hid (word_nan neg (r := 2047 * 2 ^ 52) (by decide))
  have s2 := hid (word_nan neg (r := 0) (by decide))
  clear hw h hM h5 h3 hK hl hs h4 hE hf hnone
  have HNI := hid (fun W => inf_any (-1) W)
  have HPI := hid (fun W => inf_any 1 W)
  rw [H2.out] at HCS
  generalize Ieee.double.word neg r = x at *
  rcases hf1 with hf | hf
  · go_enter Tryd.func78, Tryd.ntmps78
    go_wp2_with (first
      | (go_at_call 16; ((with_reducible refine (HI.out _).mono ?_); rintro e w1 ⟨rfl, rfl⟩))
      | (go_at_call 90; ((with_reducible refine (HNN.out _).mono ?_); rintro e w1 ⟨rfl, rfl⟩))
      | (go_at_call 56; ((with_reducible refine (HCS.out _).mono ?_); rintro e w1 ⟨rfl, rfl⟩))
      | (go_at_call 91; ((with_reducible refine (HNO.out _).mono ?_); rintro e w1 ⟨rfl, rfl⟩)))
    go_ret
    exact ⟨⟨_, rfl, s2.out.1, s2.out.2, fun a b => (HNONE.out _ _ _ a b).elim⟩, rfl⟩
  · have hf2 : ¬ n + (E - 1023) < -1075 := by omega
    cases neg
    all_goals
      go_enter Tryd.func78, Tryd.ntmps78
      go_wp2_with (first
        | (go_at_call 16; ((with_reducible refine (HI.out _).mono ?_); rintro e w1 ⟨rfl, rfl⟩))
        | (go_at_call 90; ((with_reducible refine (HNN.out _).mono ?_); rintro e w1 ⟨rfl, rfl⟩))
        | (go_at_call 38; first | ((with_reducible refine (HNI.out _).mono ?_); rintro e w1 ⟨rfl, rfl⟩) | ((with_reducible refine (HPI.out _).mono ?_); rintro e w1 ⟨rfl, rfl⟩))
        | (go_at_call 91; ((with_reducible refine (HNO.out _).mono ?_); rintro e w1 ⟨rfl, rfl⟩)))
      go_ret
      exact ⟨⟨_, rfl, s1.out.1, s1.out.2, fun a b => (HNONE.out _ _ _ a b).elim⟩, rfl⟩
set_option maxHeartbeats 1000000 in
theorem ldexp_norm (neg : Bool) {r K M : Nat} (h : Rep r K M) (hM : 2 ^ 52 ≤ M) (n : Int) (hn : -3000 ≤ n ∧ n ≤ 3000) (J : Nat) (hJ : (J : Int) = n + K) (hJ2 : J ≤ 2045) (w : World) :
    Calls Tryd.prog 78 #[.float .f64 (Ieee.double.word neg r), .int .i64 n] w fun e w' => e = .returned (.float .f64 (Ieee.double.word neg (J * 2 ^ 52 + M))) ∧ w = w' := by
  obtain ⟨h1, h2, h3, h4, h5⟩ := word_num (neg := neg) h
  have q0 := eq_zero (neg := neg) h
  have HI := hid (fun W => isInf_any _ h4 W)
  rw [h2] at HI
  have HNN := hid (fun W => isNaN_any (Ieee.double.word neg r) W)
  rw [h1] at HNN
  have HNO := hid (fun W => normalize_norm (neg := neg) h hM W)
  have hw := h.w3 (neg := neg) hM
  have hm := h.m
  have hK : K + 1 < 2 ^ 11 := by have := h.fin; omega
  have hl : M - 2 ^ 52 < 2 ^ 52 := by omega
  have hs : neg.toNat < 2 := by cases neg <;> decide
  obtain ⟨E, hE⟩ : ∃ E : Int, E = ((K + 1 : Nat) : Int) := ⟨_, rfl⟩
  have qE : bits .and .i64 ((Ieee.double.word neg r : Int) / 4503599627370496) 2047 = E := by rw [hw, hE]; exact field_of hs hK hl
  have hx : Ieee.double.word neg r ≤ 18446744073709551615 := by omega
  have hE2 : 1 ≤ E ∧ E ≤ 2047 := by omega
  have hj : Rep (J * 2 ^ 52 + M) J M := ⟨rfl, hm, .inr hM, by omega, by omega⟩
  have hz := hj.w3 (neg := neg) hM
  have qA : bits .andNot .u64 ((Ieee.double.word neg r : Nat) : Int) 9218868437227405312 = ((w3 neg.toNat 0 (M - 2 ^ 52) : Nat) : Int) := by
    rw [hw]
    exact (bits_andNot _ 9218868437227405312 (w3_lt hs hK hl) (by decide)).trans (by rw [andnot_exp hs hK hl])
  have qO : bits .or .u64 ((w3 neg.toNat 0 (M - 2 ^ 52) : Nat) : Int) ((((J + 1) * 2 ^ 52 : Nat) : Int)) = ((Ieee.double.word neg (J * 2 ^ 52 + M) : Nat) : Int) := by
    rw [hz]
    exact (bits_or _ _ (w3_lt hs (by decide) hl) (by omega)).trans (by rw [or_exp (by omega) hl])
  have q1 := mul_one (neg := neg) hj
  have hf1 : ¬ n + (E - 1023) < -1075 := by omega
  have hf2 : ¬ 1023 < n + (E - 1023) := by omega
  have hf3 : ¬ n + (E - 1023) < -1022 := by omega
  have hJ3 : n + (E - 1023) + 1023 = (J : Int) + 1 := by omega
  have qP : bits .or .u64 ((w3 neg.toNat 0 (M - 2 ^ 52) : Nat) : Int) ((n + (E - 1023) + 1023) * 4503599627370496) = ((Ieee.double.word neg (J * 2 ^ 52 + M) : Nat) : Int) := by
    rw [← qO, hJ3]
    congr 1
  have qM : ∀ W : World, (binOp .mul 24 (.float .f64 4607182418800017408) (.float .f64 (Ieee.double.word neg (J * 2 ^ 52 + M)))).run Tryd.prog W = .ok (.float .f64 (Ieee.double.word neg (J * 2 ^ 52 + M))) W := fun W => run_float_arith W .mul _ .f64 _ _ _ q1
  clear hw h hM h5 h3 hK hl hs h4 hE hm hj hz qO hJ hJ3 q1
  generalize Ieee.double.word neg r = x at *
  generalize Ieee.double.word neg (J * 2 ^ 52 + M) = z at *
  generalize w3 neg.toNat 0 (M - 2 ^ 52) = y at *
  go_enter Tryd.func78, Tryd.ntmps78
  go_wp2_with (first
    | (go_at_call 16; ((with_reducible refine (HI.out _).mono ?_); rintro e w1 ⟨rfl, rfl⟩))
    | (go_at_call 90; ((with_reducible refine (HNN.out _).mono ?_); rintro e w1 ⟨rfl, rfl⟩))
    | (go_at_call 91; ((with_reducible refine (HNO.out _).mono ?_); rintro e w1 ⟨rfl, rfl⟩)))
  go_ret
  exact ⟨rfl, rfl⟩
set_option maxHeartbeats 1000000 in
theorem ldexp_den (neg : Bool) {r K M : Nat} (h : Rep r K M) (hM : 2 ^ 52 ≤ M) (n : Int) (hn : -3000 ≤ n ∧ n ≤ 3000) (J : Nat) (hJ : (J : Int) = n + K + 53) (hJ2 : J < 53) (w : World) :
    Calls Tryd.prog 78 #[.float .f64 (Ieee.double.word neg r), .int .i64 n] w (LdPost neg K M n w) := by
  obtain ⟨h1, h2, h3, h4, h5⟩ := word_num (neg := neg) h
  have q0 := eq_zero (neg := neg) h
  have HI := hid (fun W => isInf_any _ h4 W)
  rw [h2] at HI
  have HNN := hid (fun W => isNaN_any (Ieee.double.word neg r) W)
  rw [h1] at HNN
  have HNO := hid (fun W => normalize_norm (neg := neg) h hM W)
  have hw := h.w3 (neg := neg) hM
  have hm := h.m
  have hK : K + 1 < 2 ^ 11 := by have := h.fin; omega
  have hl : M - 2 ^ 52 < 2 ^ 52 := by omega
  have hs : neg.toNat < 2 := by cases neg <;> decide
  obtain ⟨E, hE⟩ : ∃ E : Int, E = ((K + 1 : Nat) : Int) := ⟨_, rfl⟩
  have qE : bits .and .i64 ((Ieee.double.word neg r : Int) / 4503599627370496) 2047 = E := by rw [hw, hE]; exact field_of hs hK hl
  have hx : Ieee.double.word neg r ≤ 18446744073709551615 := by omega
  have hE2 : 1 ≤ E ∧ E ≤ 2047 := by omega
  have hj : Rep (J * 2 ^ 52 + M) J M := ⟨rfl, hm, .inr hM, by omega, by omega⟩
  have hz := hj.w3 (neg := neg) hM
  have qA : bits .andNot .u64 ((Ieee.double.word neg r : Nat) : Int) 9218868437227405312 = ((w3 neg.toNat 0 (M - 2 ^ 52) : Nat) : Int) := by
    rw [hw]
    exact (bits_andNot _ 9218868437227405312 (w3_lt hs hK hl) (by decide)).trans (by rw [andnot_exp hs hK hl])
  have qO : bits .or .u64 ((w3 neg.toNat 0 (M - 2 ^ 52) : Nat) : Int) ((((J + 1) * 2 ^ 52 : Nat) : Int)) = ((Ieee.double.word neg (J * 2 ^ 52 + M) : Nat) : Int) := by
    rw [hz]
    exact (bits_or _ _ (w3_lt hs (by decide) hl) (by omega)).trans (by rw [or_exp (by omega) hl])
  obtain ⟨Z, q1, qz, qz2⟩ := mul_num (c := 4368491638549381120) (neg := false) rep_m53 (by decide) (word_num (neg := neg) hj).1
  have hrep : ∀ (t L I : Nat), Rep t L I → Same2 M ((K : Int) + n) L I → Z = Ieee.double.word neg t := fun t L I ht hv => by
    have := mul_rep (n1 := false) (n2 := neg) rep_m53 hj ht (by
      rcases hv with ⟨d, e1, e2⟩ | ⟨d, e1, e2⟩
      · exact .inl ⟨d + 52, by omega, by rw [e2, Nat.pow_add, Nat.mul_comm, Nat.mul_assoc]⟩
      · exfalso; omega)
    rw [word_false, show Ieee.double.word neg (J * 2 ^ 52 + M) = _ from rfl] at this
    have e3 := q1.symm.trans this
    rw [show (false ^^ neg) = neg by simp] at e3
    exact Option.some.inj e3
  have hf1 : ¬ n + (E - 1023) < -1075 := by omega
  have hf2 : ¬ 1023 < n + (E - 1023) := by omega
  have hf3 : n + (E - 1023) < -1022 := by omega
  have hJ3 : n + (E - 1023) + 53 + 1023 = (J : Int) + 1 := by omega
  have qP : bits .or .u64 ((w3 neg.toNat 0 (M - 2 ^ 52) : Nat) : Int) ((n + (E - 1023) + 53 + 1023) * 4503599627370496) = ((Ieee.double.word neg (J * 2 ^ 52 + M) : Nat) : Int) := by
    rw [← qO, hJ3]
    congr 1
  have qM : ∀ W : World, (binOp .mul 24 (.float .f64 4368491638549381120) (.float .f64 (Ieee.double.word neg (J * 2 ^ 52 + M)))).run Tryd.prog W = .ok (.float .f64 Z) W := fun W => run_float_arith W .mul _ .f64 _ _ _ q1
  clear hw h hM h5 h3 hK hl hs h4 hE hm hj hz qO hJ hJ3 q1
  generalize Ieee.double.word neg r = x at *
  generalize Ieee.double.word neg (J * 2 ^ 52 + M) = z at *
  generalize w3 neg.toNat 0 (M - 2 ^ 52) = y at *
  go_enter Tryd.func78, Tryd.ntmps78
  go_wp2_with (first
    | (go_at_call 16; ((with_reducible refine (HI.out _).mono ?_); rintro e w1 ⟨rfl, rfl⟩))
    | (go_at_call 90; ((with_reducible refine (HNN.out _).mono ?_); rintro e w1 ⟨rfl, rfl⟩))
    | (go_at_call 91; ((with_reducible refine (HNO.out _).mono ?_); rintro e w1 ⟨rfl, rfl⟩)))
  go_ret
  exact ⟨⟨_, rfl, qz, qz2, fun a b => hrep _ _ _ a b⟩, rfl⟩
set_option maxHeartbeats 1000000 in
/-- Ldexp of a number whose digits are all there. -/
theorem ldexp_any (neg : Bool) {r K M : Nat} (h : Rep r K M) (hM : 2 ^ 52 ≤ M) (n : Int) (hn : -3000 ≤ n ∧ n ≤ 3000) (w : World) : Calls Tryd.prog 53 #[.float .f64 (Ieee.double.word neg r), .int .i64 n] w (LdPost neg K M n w) := by
  have HL : Hid (∀ W, Calls Tryd.prog 78 #[.float .f64 (Ieee.double.word neg r), .int .i64 n] W (LdPost neg K M n W)) := hid fun W => by
    by_cases h1 : n + K < -53 ∨ 2045 < n + K
    · exact ldexp_far neg h hM n hn h1 W
    · by_cases h2 : 0 ≤ n + K
      · obtain ⟨J, hJ⟩ := Int.eq_ofNat_of_zero_le h2
        refine (ldexp_norm neg h hM n hn J hJ.symm (by omega) W).mono ?_
        rintro e w' ⟨rfl, rfl⟩
        have hj : Rep (J * 2 ^ 52 + M) J M := ⟨rfl, h.m, .inr hM, by have := h.pos; omega, by have := h.m; omega⟩
        refine ⟨⟨_, rfl, (word_num hj).1, (word_num hj).2.2.2.1, fun {t L I} a b => ?_⟩, rfl⟩
        rw [Same2.uniq hj a (.inl ⟨0, by omega, by simp⟩) b]
      · obtain ⟨J, hJ⟩ := Int.eq_ofNat_of_zero_le (show 0 ≤ n + K + 53 by omega)
        exact ldexp_den neg h hM n hn J hJ.symm (by omega) W
  generalize Ieee.double.word neg r = x at *
  go_enter Tryd.func53, Tryd.ntmps53
  go_wp2_with (go_at_call 78; ((with_reducible refine (HL.out _).mono ?_); rintro e w1 ⟨⟨z, rfl, hz⟩, rfl⟩))
  go_ret
  exact ⟨⟨z, rfl, hz⟩, rfl⟩
end Go.Proofs.YtcdfbcmhikhnjaaDoor
