/- Ratio: the reference's 'Text'. -/
import Derived.Test.YtcdfbcmhikhnjaaDoorRtM
namespace Go.Proofs.YtcdfbcmhikhnjaaDoor
set_option linter.unusedVariables false
set_option linter.unusedSimpArgs false
set_option maxRecDepth 100000
open Go.ChangeShapes Go.WideShapes Go.ChangeAt Go.RowKit Go.Fl
open Go.Lib (decDigits itoa)
attribute [local go_sem] fbits_run frombits_lit Int.toNat_natCast ord_lt ord_eq ord_gt ord_ne

def sgL (b : Nat) : List UInt8 := if sgn b then [45] else []
theorem textB_sg (b : Nat) (h : isNan b = false) : textB b = sgL b ++ bodyT (b % 2 ^ 63) := by
  unfold textB sgL
  rw [h]
  cases sgn b <;> rfl
theorem bits_2047 (E : Nat) (h : E < 2 ^ 64) : bits .and .u64 (E : Int) 2047 = ((E % 2 ^ 11 : Nat) : Int) := by
  have := bits_and E 2047 h (by decide)
  rw [show (2047 : Nat) = 2 ^ 11 - 1 by decide, Nat.and_two_pow_sub_one_eq_mod] at this
  exact this
/-- The tail: a number that is not 0, as text. -/
theorem odd_step {M : Nat} (h0 : 0 < M) (h : M % 2 = 0) : tz M = tz (M / 2) + 1 ∧ oddM M = oddM (M / 2) := by
  have h1 := tz_even h0 h
  refine ⟨h1, ?_⟩
  unfold oddM
  rw [h1, Nat.pow_succ', ← Nat.div_div_eq_div_mul]
theorem odd_end {M : Nat} (h : M % 2 = 1) : tz M = 0 ∧ oddM M = M := by
  have h1 := tz_odd h
  refine ⟨h1, ?_⟩
  unfold oddM
  rw [h1, Nat.pow_zero, Nat.div_one]
theorem parts_low {r : Nat} (h : r / 2 ^ 52 = 0) : fK r = 0 ∧ fM r = r % 2 ^ 52 := by
  unfold fK fM
  constructor <;> split <;> omega
theorem parts_high {r : Nat} (h : r / 2 ^ 52 ≠ 0) : fK r = r / 2 ^ 52 - 1 ∧ fM r = r % 2 ^ 52 + 2 ^ 52 := by
  unfold fK fM
  constructor <;> split <;> omega
theorem itoa_21 {n : Int} (h : -9223372036854775808 ≤ n ∧ n ≤ 9223372036854775807) : (itoa n).length ≤ 21 := by
  unfold itoa
  split
  · have := dec_20 (n := n.natAbs) (by omega)
    simp
    omega
  · have := dec_20 (n := n.toNat) (by omega)
    omega
theorem join4 (a x y : List UInt8) : Value.string ((({ data := a.toArray } : ByteArray) ++ { data := x.toArray }) ++ { data := #[112] } ++ { data := y.toArray }) = strL (a ++ (x ++ 112 :: y)) := by
  congr 1
  show ByteArray.mk _ = ByteArray.mk _
  congr 1
  simp
set_option maxHeartbeats 2000000 in
theorem rtext_any (b : Nat) (hb : b < 2 ^ 64) (w : World) : Calls Tryd.prog 29 #[.float .f64 b] w fun e w' => e = .returned (strL (textB b)) ∧ Below w.heap.size w w' := by
  obtain ⟨r, hr⟩ : ∃ r, b % 2 ^ 63 = r := ⟨_, rfl⟩
  obtain ⟨E, hE⟩ : ∃ E, b / 2 ^ 52 = E := ⟨_, rfl⟩
  obtain ⟨e0, he0⟩ : ∃ e0, E % 2 ^ 11 = e0 := ⟨_, rfl⟩
  obtain ⟨m0, hm0⟩ : ∃ m0, b % 2 ^ 52 = m0 := ⟨_, rfl⟩
  have p1 : (b : Int) / 4503599627370496 = (E : Int) := by omega
  have p2 := bits_2047 E (by omega)
  rw [he0] at p2
  have p3 := bits_mask b hb
  rw [hm0] at p3
  have hs : (b : Int) / 9223372036854775808 = if sgn b then 1 else 0 := by
    unfold sgn
    split <;> simp_all <;> omega
  have r1 : r / 2 ^ 52 = e0 := by omega
  have r2 : r % 2 ^ 52 = m0 := by omega
  have he1 : (e0 : Int) ≤ 2047 := by omega
  have hm1 : (m0 : Int) ≤ 4503599627370495 := by omega
  have hnan : isNan b = decide (2047 * 2 ^ 52 < r) := by unfold isNan; rw [hr]
  have HT := hid (textB_sg b)
  rw [hr] at HT
  have hsl : (sgL b).length ≤ 1 := by unfold sgL; split <;> simp
  have HS : Hid (sgL b = if sgn b then [45] else []) := rfl
  obtain ⟨sg, hsg⟩ : ∃ sg, sgL b = sg := ⟨_, rfl⟩
  rw [hsg] at HT hsl HS
  obtain ⟨T, hT⟩ : ∃ T, textB b = T := ⟨_, rfl⟩
  have HTN : Hid (isNan b = true → T = [110, 97, 110]) := fun h => by rw [← hT]; unfold textB; rw [h]; rfl
  rw [hT] at HT ⊢
  replace HT : Hid (¬ 2047 * 2 ^ 52 < r → T = sg ++ bodyT r) := fun h => HT.out (by rw [hnan]; simp; omega)
  replace HTN : Hid (2047 * 2 ^ 52 < r → T = [110, 97, 110]) := fun h => HTN.out (by rw [hnan]; simp; omega)
  have HR1 := hid r1; have HR2 := hid r2
  clear hr hE he0 hm0 hb hsg hT hnan r1 r2
  go_enter Tryd.func29, Tryd.ntmps29
  go_upto_if 17 with fail
  go_cut [6] (fun s6 wx => s6 = strL sg ∧ wx = w)
  case first =>
    cases h : sgn b <;> rw [h] at hs HS
    all_goals
      have hsg := HS.out
      simp only [if_true, Bool.false_eq_true, if_false] at hs hsg
      subst hsg
      clear h HS HT HTN
      go_wp2
      go_meet
      case rel => exact ⟨rfl, rfl⟩
  case rest =>
    obtain ⟨rfl, rfl⟩ := hcut
    clear HS hs p1 p2 p3
    by_cases h47 : e0 = 2047
    · subst h47
      by_cases h0 : m0 = 0
      · subst h0
        have hrr : r = 2047 * 2 ^ 52 := by have := HR1.out; have := HR2.out; omega
        have hT := HT.out (by omega)
        have hb : bodyT r = [105, 110, 102] := by unfold bodyT; rw [if_pos hrr]
        rw [hb] at hT
        replace hT := hid hT
        clear hrr hb HT HTN HR1 HR2
        go_wp2
        go_ret
        exact ⟨by rw [hT.out, ← strL_app]; rfl, by (repeat' (first | (with_reducible exact Below.refl _ _) | (with_reducible assumption) | (with_reducible refine Below.new ?_ _) | (with_reducible refine Below.alloc ?_ ?_ _) | (with_reducible refine Below.drew ?_) | (with_reducible refine Below.drewN ?_ _) | (with_reducible refine Below.setCell ?_ ?_ _) | (refine Below.step ?_ (by assumption)) | go_size))⟩
      · have hT := HTN.out (by have := HR1.out; have := HR2.out; omega)
        replace hT := hid hT
        have h0' : ¬ (m0 : Int) = 0 := by omega
        clear HT HTN HR1 HR2
        go_wp2
        go_ret
        exact ⟨by rw [hT.out]; rfl, by (repeat' (first | (with_reducible exact Below.refl _ _) | (with_reducible assumption) | (with_reducible refine Below.new ?_ _) | (with_reducible refine Below.alloc ?_ ?_ _) | (with_reducible refine Below.drew ?_) | (with_reducible refine Below.drewN ?_ _) | (with_reducible refine Below.setCell ?_ ?_ _) | (refine Below.step ?_ (by assumption)) | go_size))⟩
    · have hT := HT.out (by have := HR1.out; omega)
      obtain ⟨K, hK⟩ : ∃ K, fK r = K := ⟨_, rfl⟩
      obtain ⟨M, hM⟩ : ∃ M, fM r = M := ⟨_, rfl⟩
      have HL := hid (parts_low (r := r)); have HH := hid (parts_high (r := r))
      have hbody : bodyT r = if M = 0 then [48] else decDigits (oddM M) ++ 112 :: itoa ((K : Int) - 1074 + tz M) := by
        have hv := rung_parts r
        have hr1 := HR1.out
        unfold bodyT
        rw [if_neg (by omega)]
        unfold finT
        rw [hK, hM]
        by_cases hr0 : r = 0
        · rw [if_pos hr0, if_pos (by rw [← hM, hr0]; rfl)]
        · rw [if_neg hr0, if_neg (fun h => hr0 (by unfold fM at hM; split at hM <;> omega))]
      rw [hbody] at hT
      replace hT := hid hT
      rw [hK, hM, HR1.out, HR2.out] at HL HH
      have hK1 : K ≤ 2046 := by rw [← hK]; unfold fK; have := HR1.out; split <;> omega
      have hM1 : Hid (∀ x : Int, x ≤ (M : Int) → x < 9007199254740992) := fun x hx => by
        have : (M : Int) < 9007199254740992 := by rw [← hM]; unfold fM; split <;> omega
        omega
      have h47' : ¬ (e0 : Int) = 2047 := by omega
      clear HT HTN hbody hK hM HR1 HR2 h47
      replace hm1 := hid hm1
      obtain ⟨V, rfl⟩ : ∃ V, V = wc := ⟨_, rfl⟩
      go_upto_if 25 with fail
      go_cut [4, 5] (fun s4 s5 wx => s4 = .int .i64 ((K : Int) + 1) ∧ s5 = .int .u64 (M : Int) ∧ wx = V)
      case first =>
        by_cases h0 : e0 = 0
        · obtain ⟨rfl, rfl⟩ := HL.out h0
          subst h0
          clear HL HH
          go_wp2
          go_meet
          case rel => exact ⟨rfl, rfl, rfl⟩
        · obtain ⟨h1, h2⟩ := HH.out h0
          have g1 : (e0 : Int) = (K : Int) + 1 := by omega
          obtain ⟨mi, hmi⟩ : ∃ mi : Int, (m0 : Int) = mi := ⟨_, rfl⟩
          have g2 : Hid (mi + 4503599627370496 = (M : Int)) := by unfold Hid; omega
          have g4 : mi ≤ 4503599627370495 := by rw [← hmi]; exact hm1.out
          have g5 : 0 ≤ mi := by omega
          have g3 : ¬ (e0 : Int) = 0 := by omega
          rw [hmi]
          clear HL HH h0 h1 h2 hmi hm1
          go_wp2
          go_meet
          case rel => exact ⟨by rw [g1], by rw [g2.out], rfl⟩
      case rest =>
        obtain ⟨rfl, rfl, rfl⟩ := hcut
        clear HL HH he1 hm1
        obtain ⟨V, rfl⟩ : ∃ V, V = wc := ⟨_, rfl⟩
        rcases Nat.eq_zero_or_pos M with h0 | h0
        · subst h0
          have hT2 := hid ((hT.out).trans (by rw [if_pos rfl]))
          clear hT
          go_wp2
          go_ret
          exact ⟨by rw [hT2.out, ← strL_app]; rfl, by (repeat' (first | (with_reducible exact Below.refl _ _) | (with_reducible assumption) | (with_reducible refine Below.new ?_ _) | (with_reducible refine Below.alloc ?_ ?_ _) | (with_reducible refine Below.drew ?_) | (with_reducible refine Below.drewN ?_ _) | (with_reducible refine Below.setCell ?_ ?_ _) | (refine Below.step ?_ (by assumption)) | go_size))⟩
        · have hT2 := hid ((hT.out).trans (by rw [if_neg (show ¬ M = 0 by omega)]))
          have h0' : ¬ (M : Int) = 0 := by omega
          clear hT
          obtain ⟨O, hO⟩ : ∃ O, oddM M = O := ⟨_, rfl⟩
          obtain ⟨Z, hZ⟩ : ∃ Z, tz M = Z := ⟨_, rfl⟩
          rw [hO, hZ] at hT2
          have HO := hid hO; have HZ := hid hZ
          clear hO hZ
          have q1 : IntKind.i64.wrap ((K : Int) + 1 - 1023 - 52) = (K : Int) - 1074 := by simp only [IntKind.wrap_i64]; omega
          go_wp2
          go_loopw [4, 5] (fun e m wr => ∃ j M' : Nat, 0 < M' ∧ M' ≤ M ∧ e = .int .i64 ((K : Int) - 1074 + (j : Int)) ∧ m = .int .u64 (M' : Int) ∧ tz M' + j = Z ∧ oddM M' = O ∧ j ≤ 60 ∧ M' * 2 ^ j ≤ M ∧ wr = V) (fun _ m _ => (intOf m).toNat)
          case atStart => exact ⟨0, M, h0, Nat.le_refl _, by go_num, rfl, by rw [HZ.out]; rfl, HO.out, by omega, by simp, rfl⟩
          case round =>
            obtain ⟨j, M', m1, m2, rfl, rfl, m3, m4, m5, m6, rfl⟩ := hrel
            have hM1' := hM1.out (M' : Int) (by omega)
            obtain ⟨mi, hmi⟩ : ∃ mi : Int, (M' : Int) = mi := ⟨_, rfl⟩
            have g1 : 0 < mi := by omega
            have g2 : mi < 9007199254740992 := by omega
            have htt : mi.tmod 2 = mi % 2 := Int.tmod_eq_emod_of_nonneg (by omega)
            rcases (show mi % 2 = 0 ∨ mi % 2 = 1 by omega) with hmm | hmm
            · obtain ⟨o1, o2⟩ := odd_step m1 (by omega)
              have hj : j < 60 := by
                refine Nat.lt_of_not_le fun hj => ?_
                have : (2 : Nat) ^ 60 ≤ 2 ^ j := Nat.pow_le_pow_right (by decide) hj
                have h3 := hM1.out (M : Int) (Int.le_refl _)
                have h2 : 1 * 2 ^ 60 ≤ M' * 2 ^ j := Nat.mul_le_mul m1 this
                omega
              have hpow : M' / 2 * 2 ^ (j + 1) = M' * 2 ^ j := by
                rw [Nat.pow_succ, Nat.mul_comm (2 ^ j), ← Nat.mul_assoc, Nat.div_mul_cancel (by omega)]
              have hdv : mi.tdiv 2 = ((M' / 2 : Nat) : Int) := by rw [← hmi]; rfl
              have hdv2 : mi / 2 = ((M' / 2 : Nat) : Int) := by omega
              have HX : Hid (0 < M' / 2 ∧ M' / 2 ≤ M ∧ tz (M' / 2) + (j + 1) = Z ∧ oddM (M' / 2) = O ∧ M' / 2 * 2 ^ (j + 1) ≤ M ∧ M' / 2 < M') := ⟨by omega, by omega, by omega, o2 ▸ m4, by omega, by omega⟩
              obtain ⟨H, hH⟩ : ∃ H, M' / 2 = H := ⟨_, rfl⟩
              rw [hH] at HX hdv hdv2
              have HMI := hid hmi
              rw [hmi]
              rw [hmm] at htt
              clear m1 m2 m3 m4 m6 o1 o2 hpow hM1' hH hmi m5 h0
              go_wp2
              go_roundw
              case rel => exact ⟨j + 1, H, HX.out.1, HX.out.2.1, by go_num, by go_num, HX.out.2.2.1, HX.out.2.2.2.1, by omega, HX.out.2.2.2.2.1, trivial⟩
              case measure => have := HX.out.2.2.2.2.2; have := HMI.out; simp [intOf]; omega
            · obtain ⟨o1, o2⟩ := odd_end (M := M') (by omega)
              have hjZ : j = Z := by omega
              have hMO : M' = O := by rw [← m4, o2]
              have hOm : (O : Int) = mi := by omega
              have N1 := hid (fun W => rnum_pos O (by omega) W)
              have hl1 := dec_20 (n := O) (by omega)
              have N2 := hid (fun W => rnum_any ((K : Int) - 1074 + (j : Int)) (by omega) W)
              have hl2 := itoa_21 (n := (K : Int) - 1074 + (j : Int)) (by omega)
              have hfin := hT2.out
              rw [← hjZ] at hfin
              obtain ⟨R1, hR1⟩ : ∃ R1, decDigits O = R1 := ⟨_, rfl⟩
              obtain ⟨R2, hR2⟩ : ∃ R2, itoa ((K : Int) - 1074 + (j : Int)) = R2 := ⟨_, rfl⟩
              rw [hR1] at N1 hl1 hfin; rw [hR2] at N2 hl2 hfin
              rw [hOm] at N1
              have HF := hid hfin
              rw [hmi]
              rw [hmm] at htt
              clear hR1 hR2 hfin hOm hMO hjZ o1 o2 m1 m2 m3 m4 m5 m6 hmi hM1' h0 hM1 HO HZ hT2
              go_wp2_with (go_at_call 62; first | ((with_reducible refine (N1.out _).mono ?_); rintro e w1 ⟨rfl, hw1⟩) | ((with_reducible refine (N2.out _).mono ?_); rintro e w2 ⟨rfl, hw2⟩))
              go_ret
              exact ⟨by rw [HF.out]; exact congrArg Ending.returned (join4 sg R1 R2), by (repeat' (first | (with_reducible exact Below.refl _ _) | (with_reducible assumption) | (with_reducible refine Below.new ?_ _) | (with_reducible refine Below.alloc ?_ ?_ _) | (with_reducible refine Below.drew ?_) | (with_reducible refine Below.drewN ?_ _) | (with_reducible refine Below.setCell ?_ ?_ _) | (refine Below.step ?_ (by assumption)) | go_size))⟩
end Go.Proofs.YtcdfbcmhikhnjaaDoor
