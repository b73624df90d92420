/- Ratio: the reference's 'Of' and 'Float', whole. -/
import Derived.Test.YtcdfbcmhikhnjaaDoorRtH
namespace Go.Proofs.YtcdfbcmhikhnjaaDoor
set_option linter.unusedVariables false
set_option linter.unusedSimpArgs false
set_option maxRecDepth 100000
open Go.ChangeShapes Go.WideShapes Go.ChangeAt Go.RowKit Go.Fl
attribute [local go_sem] Oper.semAt_some

theorem rof_any (a n : Int) (ha : I128 a) (hn : -9223372036854775808 ≤ n ∧ n ≤ 9223372036854775807) (w : World) :
    Calls Tryd.prog 17 #[(Value.agg #[.int .i64 (hiW (a)), .int .u64 (loW (a))]), .int .i64 n] w fun e w' => e = .returned (.tuple #[.float .f64 (ofF a n), .int .i64 (ofE n)]) ∧ Below w.heap.size w w' := by
  by_cases hbad : n < 0 ∨ 20000000000 < n
  · have e1 : ofF a n = 0 := by unfold ofF; rw [of_bad hbad]; rfl
    have e2 : ofE n = 90 := by unfold ofE; rw [of_bad hbad]; rfl
    rw [e1, e2]
    generalize hiW a = H at *; generalize loW a = L at *
    clear e1 e2 ha
    rcases Int.lt_or_le n 0 with h1 | h1
    · clear hbad
      go_enter Tryd.func17, Tryd.ntmps17
      go_wp2
      ((show bodyPost _ _ _ _ _ _); refine bodyPost_ret (by simp only [results, Tryd.results17]; go_simp; try rfl) rfl ?_)
      exact ⟨rfl, by (repeat' (first | (with_reducible exact Below.refl _ _) | (with_reducible assumption) | (with_reducible refine Below.new ?_ _) | (with_reducible refine Below.alloc ?_ ?_ _) | (with_reducible refine Below.drew ?_) | (with_reducible refine Below.drewN ?_ _) | (with_reducible refine Below.setCell ?_ ?_ _) | (refine Below.step ?_ (by assumption)) | go_size))⟩
    · have h2 : 20000000000 < n := by omega
      clear hbad
      go_enter Tryd.func17, Tryd.ntmps17
      go_wp2
      ((show bodyPost _ _ _ _ _ _); refine bodyPost_ret (by simp only [results, Tryd.results17]; go_simp; try rfl) rfl ?_)
      exact ⟨rfl, by (repeat' (first | (with_reducible exact Below.refl _ _) | (with_reducible assumption) | (with_reducible refine Below.new ?_ _) | (with_reducible refine Below.alloc ?_ ?_ _) | (with_reducible refine Below.drew ?_) | (with_reducible refine Below.drewN ?_ _) | (with_reducible refine Below.setCell ?_ ?_ _) | (refine Below.step ?_ (by assumption)) | go_size))⟩
  · have hg : ofBad n = false := of_good (by omega) (by omega)
    have h1 : 0 ≤ n := by omega
    have h2 : n ≤ 20000000000 := by omega
    have e2 : ofE n = 0 := by unfold ofE; rw [hg]; rfl
    rw [e2]
    by_cases hn0 : n = 0
    · subst hn0
      by_cases ha0 : a = 0
      · have e1 : ofF a 0 = 9221120237041090561 := by unfold ofF; rw [hg, ha0]; rfl
        rw [e1, ha0, show hiW 0 = 0 by decide, show loW 0 = 0 by decide]
        clear e1 e2 ha hg hbad ha0 h1 h2 hn
        go_enter Tryd.func17, Tryd.ntmps17
        go_wp2_with (go_at_call 37; ((with_reducible refine (nan_any _).mono ?_); rintro e w2 ⟨rfl, rfl⟩))
        all_goals
          ((show bodyPost _ _ _ _ _ _); refine bodyPost_ret (by simp only [results, Tryd.results17]; go_simp; try rfl) rfl ?_)
          exact ⟨rfl, by (repeat' (first | (with_reducible exact Below.refl _ _) | (with_reducible assumption) | (with_reducible refine Below.new ?_ _) | (with_reducible refine Below.alloc ?_ ?_ _) | (with_reducible refine Below.drew ?_) | (with_reducible refine Below.drewN ?_ _) | (with_reducible refine Below.setCell ?_ ?_ _) | (refine Below.step ?_ (by assumption)) | go_size))⟩
      · have e1 : ofF a 0 = Ieee.double.word (decide (a < 0)) (2047 * 2 ^ 52) := by unfold ofF; rw [hg, if_neg (by simp), if_pos rfl, if_neg ha0]
        rw [e1]
        have hw : a = hiW a * 18446744073709551616 + loW a := by unfold hiW loW; omega
        have hne : ¬ (hiW a = 0 ∧ loW a = 0) := fun h => ha0 (by rw [hw, h.1, h.2]; rfl)
        have hd := hi_neg ha
        rw [← hd]
        have hR := hiW_is a
        generalize hiW a = H at *; generalize loW a = L at *
        have hsh : IntKind.u64.wrap H / 9223372036854775808 = if H < 0 then 1 else 0 := by
          rw [IntKind.wrap_u64]; split <;> omega
        have hEq : (H == 0 && L == 0) = false := by simpa using hne
        clear e1 e2 ha hg hbad ha0 h1 h2 hn hw hd
        rcases Int.lt_or_le H 0 with h | h
        · rw [if_pos h] at hsh
          rw [show decide (H < 0) = true by simp [h]]
          have IN := hid (fun W => inf_any (-1) W)
          rw [show decide ((-1 : Int) < 0) = true from rfl] at IN
          generalize Ieee.double.word true (2047 * 2 ^ 52) = Z at *
          go_enter Tryd.func17, Tryd.ntmps17
          go_wp2_with (go_at_call 38; go_loud ((with_reducible refine (IN.out _).mono ?_); rintro e w2 ⟨rfl, rfl⟩))
          all_goals
            ((show bodyPost _ _ _ _ _ _); refine bodyPost_ret (by simp only [results, Tryd.results17]; go_simp; try rfl) rfl ?_)
            exact ⟨rfl, by (repeat' (first | (with_reducible exact Below.refl _ _) | (with_reducible assumption) | (with_reducible refine Below.new ?_ _) | (with_reducible refine Below.alloc ?_ ?_ _) | (with_reducible refine Below.drew ?_) | (with_reducible refine Below.drewN ?_ _) | (with_reducible refine Below.setCell ?_ ?_ _) | (refine Below.step ?_ (by assumption)) | go_size))⟩
        · rw [if_neg (by omega)] at hsh
          have hsh2 : H / 9223372036854775808 = 0 := by omega
          rw [show decide (H < 0) = false by simp; omega]
          have IN := hid (fun W => inf_any 1 W)
          rw [show decide ((1 : Int) < 0) = false from rfl] at IN
          generalize Ieee.double.word false (2047 * 2 ^ 52) = Z at *
          go_enter Tryd.func17, Tryd.ntmps17
          go_wp2_with (go_at_call 38; go_loud ((with_reducible refine (IN.out _).mono ?_); rintro e w2 ⟨rfl, rfl⟩))
          all_goals
            ((show bodyPost _ _ _ _ _ _); refine bodyPost_ret (by simp only [results, Tryd.results17]; go_simp; try rfl) rfl ?_)
            exact ⟨rfl, by (repeat' (first | (with_reducible exact Below.refl _ _) | (with_reducible assumption) | (with_reducible refine Below.new ?_ _) | (with_reducible refine Below.alloc ?_ ?_ _) | (with_reducible refine Below.drew ?_) | (with_reducible refine Below.drewN ?_ _) | (with_reducible refine Below.setCell ?_ ?_ _) | (refine Below.step ?_ (by assumption)) | go_size))⟩
    · obtain ⟨N, rfl⟩ := Int.eq_ofNat_of_zero_le h1
      by_cases ha0 : a = 0
      · subst ha0
        have e1 : ofF 0 N = 0 := by unfold ofF; rw [hg, if_neg (by simp), if_neg hn0, if_pos rfl]
        rw [e1]
        exact rof_zero N (by omega) (by omega) w
      · have e1 : ofF a N = Ieee.double.word (decide (a < 0)) (ofR a.natAbs N) := by unfold ofF; rw [hg, if_neg (by simp), if_neg hn0, if_neg ha0]; rfl
        rw [e1]
        exact rof_main a ha ha0 N (by omega) (by omega) w
theorem rfloat_any (a : Int) (ha : I128 a) (w : World) :
    Calls Tryd.prog 20 #[(Value.agg #[.int .i64 (hiW (a)), .int .u64 (loW (a))])] w fun e w' => e = .returned (.float .f64 (ofF a 1)) ∧ Below w.heap.size w w' := by
  have O := hid (fun W => rof_any a 1 ha (by decide) W)
  generalize ofF a 1 = Z at *
  generalize hiW a = H at *; generalize loW a = L at *
  clear ha
  go_enter Tryd.func20, Tryd.ntmps20
  go_wp2_with (go_at_call 17; ((with_reducible refine (O.out _).mono ?_); rintro e w1 ⟨rfl, hw1⟩))
  go_ret
  exact ⟨rfl, by (repeat' (first | (with_reducible exact Below.refl _ _) | (with_reducible assumption) | (with_reducible refine Below.new ?_ _) | (with_reducible refine Below.alloc ?_ ?_ _) | (with_reducible refine Below.drew ?_) | (with_reducible refine Below.drewN ?_ _) | (with_reducible refine Below.setCell ?_ ?_ _) | (refine Below.step ?_ (by assumption)) | go_size))⟩
end Go.Proofs.YtcdfbcmhikhnjaaDoor
