/- Ratio: the program's order of floating numbers. -/
import Derived.Test.YtcdfbcmhikhnjaaDoorRtJ
namespace Go.Proofs.YtcdfbcmhikhnjaaDoor
set_option linter.unusedVariables false
set_option linter.unusedSimpArgs false
set_option maxRecDepth 100000
open Go.ChangeShapes Go.WideShapes Go.ChangeAt Go.RowKit Go.Fl
attribute [local go_sem] fbits_run frombits_lit Int.toNat_natCast ord_lt ord_eq ord_gt ord_ne

def cF (a b : Nat) : Int := if isNan a then (if isNan b then 0 else -1) else if isNan b then 1 else sgnI (skey a) (skey b)
def zF (a b : Nat) : Int := if eqB a 0 && eqB b 0 then 1 else 0
def gF (a : Nat) : Int := if sgn a then 0 else 1
theorem eq_zero_is {a : Nat} (h : isNan a = false) : eqB a 0 = decide (a % 2 ^ 63 = 0) := by
  unfold eqB
  rw [h, Bool.eq_iff_iff]
  unfold skey isNan sgn
  simp
  split <;> omega
theorem keys_is (a b : Nat) : (if cF a b = 0 then zF a b * sgnI (gF a) (gF b) else cF a b) = sgnI (keyI a) (keyI b) := by
  cases ha : isNan a
  · cases hb : isNan b
    · have h1 := eq_zero_is ha; have h2 := eq_zero_is hb
      unfold cF zF gF keyI
      rw [ha, hb, h1, h2]
      unfold isNan at ha hb
      simp at ha hb
      unfold skey
      obtain ⟨x, hx⟩ : ∃ x, a % 2 ^ 63 = x := ⟨_, rfl⟩
      obtain ⟨y, hy⟩ : ∃ y, b % 2 ^ 63 = y := ⟨_, rfl⟩
      rw [hx, hy]
      by_cases hx0 : x = 0 <;> by_cases hy0 : y = 0 <;> cases sgn a <;> cases sgn b <;> simp [sgnI, hx0, hy0] <;> (repeat' split) <;> omega
    · have := keyI_range a
      have hk : keyI b = -9223372036854775808 := by unfold keyI; rw [hb]; rfl
      have hka : -9223372036854775808 < keyI a := by
        unfold keyI
        rw [ha]
        unfold isNan at ha
        simp at ha ⊢
        split <;> omega
      unfold cF
      rw [ha, hb, hk, sgn_gt hka]
      simp
  · have hk : keyI a = -9223372036854775808 := by unfold keyI; rw [ha]; rfl
    cases hb : isNan b
    · have hkb : -9223372036854775808 < keyI b := by
        unfold keyI
        rw [hb]
        unfold isNan at hb
        simp at hb ⊢
        split <;> omega
      unfold cF
      rw [ha, hb, hk, sgn_lt hkb]
      simp
    · have hkb : keyI b = -9223372036854775808 := by unfold keyI; rw [hb]; rfl
      have hz : eqB a 0 = false := by unfold eqB; rw [ha]; rfl
      unfold cF zF
      rw [ha, hb, hk, hkb, hz, sgn_eq rfl]
      simp
theorem nan_f (a : Nat) (w : World) : Calls Tryd.prog 63 #[.float .f64 a] w fun e w' => e = .returned (.bool (isNan a)) ∧ w = w' := by
  have H := ord_ne a a
  rw [eqB_self, Bool.not_not] at H
  go_enter Tryd.func63, Tryd.ntmps63
  go_wp2
  go_ret
  exact ⟨rfl, rfl⟩
theorem nan_n (a : Int) (w : World) : Calls Tryd.prog 64 #[.int .i64 a] w fun e w' => e = .returned (.bool false) ∧ w = w' := by
  go_enter Tryd.func64, Tryd.ntmps64
  go_wp2
  go_ret
  exact ⟨ret_bool (by simp), rfl⟩
theorem cmp_n (a b : Int) (w : World) : Calls Tryd.prog 34 #[.int .i64 a, .int .i64 b] w fun e w' => e = .returned (.int .i64 (sgnI a b)) ∧ w = w' := by
  rcases Int.lt_trichotomy a b with h | h | h
  · rw [sgn_lt h]
    go_enter Tryd.func34, Tryd.ntmps34
    go_wp2_with (go_at_call 64; (with_reducible refine (nan_n _ _).mono ?_); rintro e w1 ⟨rfl, rfl⟩)
    go_ret
    exact ⟨rfl, rfl⟩
  · rw [sgn_eq h]
    subst h
    go_enter Tryd.func34, Tryd.ntmps34
    go_wp2_with (go_at_call 64; (with_reducible refine (nan_n _ _).mono ?_); rintro e w1 ⟨rfl, rfl⟩)
    go_ret
    exact ⟨rfl, rfl⟩
  · rw [sgn_gt h]
    go_enter Tryd.func34, Tryd.ntmps34
    go_wp2_with (go_at_call 64; (with_reducible refine (nan_n _ _).mono ?_); rintro e w1 ⟨rfl, rfl⟩)
    go_ret
    exact ⟨rfl, rfl⟩
theorem cmp_f (a b : Nat) (w : World) : Calls Tryd.prog 32 #[.float .f64 a, .float .f64 b] w fun e w' => e = .returned (.int .i64 (cF a b)) ∧ w = w' := by
  have A := hid (fun W => nan_f a W); have B := hid (fun W => nan_f b W)
  have L1 := ord_lt a b; have L2 := ord_gt a b
  unfold cF
  cases ha : isNan a <;> rw [ha] at A <;> cases hb : isNan b <;> rw [hb] at B
  · rw [if_neg (by simp), if_neg (by simp)]
    have h1 : ltB a b = decide (skey a < skey b) := by unfold ltB; rw [ha, hb]; simp
    have h2 : ltB b a = decide (skey b < skey a) := by unfold ltB; rw [ha, hb]; simp
    rw [h1] at L1; rw [h2] at L2
    generalize skey a = x at *; generalize skey b = y at *
    clear ha hb
    rcases Int.lt_trichotomy x y with h | h | h
    · rw [sgn_lt h]
      rw [show decide (x < y) = true by simp [h]] at L1 h1
      rw [show decide (y < x) = false by simp; omega] at L2 h2
      go_enter Tryd.func32, Tryd.ntmps32
      go_wp2_with (go_at_call 63; first | ((with_reducible refine (A.out _).mono ?_); rintro e w1 ⟨rfl, rfl⟩) | ((with_reducible refine (B.out _).mono ?_); rintro e w1 ⟨rfl, rfl⟩))
      go_ret
      exact ⟨rfl, rfl⟩
    · subst h
      rw [sgn_eq rfl]
      rw [show decide (x < x) = false by simp] at L1 L2 h1 h2
      go_enter Tryd.func32, Tryd.ntmps32
      go_wp2_with (go_at_call 63; first | ((with_reducible refine (A.out _).mono ?_); rintro e w1 ⟨rfl, rfl⟩) | ((with_reducible refine (B.out _).mono ?_); rintro e w1 ⟨rfl, rfl⟩))
      go_ret
      exact ⟨rfl, rfl⟩
    · rw [sgn_gt h]
      rw [show decide (x < y) = false by simp; omega] at L1 h1
      rw [show decide (y < x) = true by simp [h]] at L2 h2
      go_enter Tryd.func32, Tryd.ntmps32
      go_wp2_with (go_at_call 63; first | ((with_reducible refine (A.out _).mono ?_); rintro e w1 ⟨rfl, rfl⟩) | ((with_reducible refine (B.out _).mono ?_); rintro e w1 ⟨rfl, rfl⟩))
      go_ret
      exact ⟨rfl, rfl⟩
  all_goals
    clear L1 L2 ha hb
    go_enter Tryd.func32, Tryd.ntmps32
    go_wp2_with (go_at_call 63; first | ((with_reducible refine (A.out _).mono ?_); rintro e w1 ⟨rfl, rfl⟩) | ((with_reducible refine (B.out _).mono ?_); rintro e w1 ⟨rfl, rfl⟩))
    go_ret
    exact ⟨rfl, rfl⟩
theorem sign_any (a : Nat) (ha : a < 2 ^ 64) (w : World) : Calls Tryd.prog 35 #[.float .f64 a] w fun e w' => e = .returned (.int .i64 (gF a)) ∧ w = w' := by
  have A := hid (fun W => signbit_any a ha W)
  unfold gF
  clear ha
  cases h : sgn a <;> rw [h] at A
  all_goals
    clear h
    go_enter Tryd.func35, Tryd.ntmps35
    go_wp2_with (go_at_call 65; ((with_reducible refine (A.out _).mono ?_); rintro e w1 ⟨rfl, rfl⟩))
    go_ret
    exact ⟨rfl, rfl⟩
end Go.Proofs.YtcdfbcmhikhnjaaDoor
