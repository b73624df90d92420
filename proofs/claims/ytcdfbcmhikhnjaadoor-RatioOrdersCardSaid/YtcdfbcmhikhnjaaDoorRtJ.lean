/- Ratio: the order of floating numbers; the reference's. -/
import Derived.Test.YtcdfbcmhikhnjaaDoorRtI
namespace Go.Proofs.YtcdfbcmhikhnjaaDoor
set_option linter.unusedVariables false
set_option linter.unusedSimpArgs false
set_option maxRecDepth 100000
open Go.ChangeShapes Go.WideShapes Go.ChangeAt Go.RowKit Go.Fl
attribute [local go_sem] fbits_run frombits_lit Int.toNat_natCast ord_lt ord_eq ord_gt ord_ne

/-- A number by which floating ones are in order. -/
def keyI (b : Nat) : Int := if isNan b then -9223372036854775808 else if sgn b then -1 - ((b % 2 ^ 63 : Nat) : Int) else ((b % 2 ^ 63 : Nat) : Int)
theorem keyI_range (b : Nat) : -9223372036854775808 ≤ keyI b ∧ keyI b ≤ 9223372036854775807 := by
  unfold keyI
  (repeat' split) <;> omega
theorem rkey_any (b : Nat) (hb : b < 2 ^ 64) (w : World) : Calls Tryd.prog 57 #[.float .f64 b] w fun e w' => e = .returned (.int .i64 (keyI b)) ∧ w' = w := by
  have H := ord_ne b b
  rw [eqB_self, Bool.not_not] at H
  cases hn : isNan b
  · rw [hn] at H
    cases hs : sgn b
    · have hk : keyI b = (b : Int) := by unfold keyI; rw [hn, hs]; unfold sgn at hs; simp at hs ⊢; omega
      have h1 : (b : Int) / 9223372036854775808 = 0 := by unfold sgn at hs; simp at hs; omega
      have h2 : IntKind.i64.wrap (b : Int) = (b : Int) := by simp only [IntKind.wrap_i64]; omega
      rw [hk]
      clear hk hb hn hs
      go_enter Tryd.func57, Tryd.ntmps57
      go_wp2
      go_ret
      exact ⟨rfl, rfl⟩
    · have hk : keyI b = -1 - ((b % 2 ^ 63 : Nat) : Int) := by unfold keyI; rw [hn, hs]; rfl
      have h1 : (b : Int) / 9223372036854775808 = 1 := by unfold sgn at hs; simp at hs; omega
      have h3 : bits .and .u64 (b : Int) 9223372036854775807 = ((b % 2 ^ 63 : Nat) : Int) := by
        have := bits_and b 9223372036854775807 hb (by decide)
        rw [show (9223372036854775807 : Nat) = 2 ^ 63 - 1 by decide, Nat.and_two_pow_sub_one_eq_mod] at this
        exact this
      rw [hk]
      obtain ⟨m, hm⟩ : ∃ m, b % 2 ^ 63 = m := ⟨_, rfl⟩
      have hm2 : (m : Int) ≤ 9223372036854775807 := by omega
      rw [hm] at h3 ⊢
      clear hk hb hn hs hm
      go_enter Tryd.func57, Tryd.ntmps57
      go_wp2
      go_ret
      exact ⟨rfl, rfl⟩
  · rw [hn] at H
    have hk : keyI b = -9223372036854775808 := by unfold keyI; rw [hn]; rfl
    rw [hk]
    clear hk hb hn
    go_enter Tryd.func57, Tryd.ntmps57
    go_wp2
    go_ret
    exact ⟨rfl, rfl⟩
theorem rcompare_any (a b : Nat) (ha : a < 2 ^ 64) (hb : b < 2 ^ 64) (w : World) : Calls Tryd.prog 27 #[.float .f64 a, .float .f64 b] w fun e w' => e = .returned (.int .i64 (sgnI (keyI a) (keyI b))) ∧ w' = w := by
  have A := hid (fun W => rkey_any a ha W); have B := hid (fun W => rkey_any b hb W)
  generalize keyI a = x at *; generalize keyI b = y at *
  clear ha hb
  rcases Int.lt_trichotomy x y with h | h | h
  · rw [sgn_lt h]
    go_enter Tryd.func27, Tryd.ntmps27
    go_wp2_with (go_at_call 57; first | (((with_reducible refine (A.out _).mono ?_); rintro e w1 ⟨rfl, rfl⟩)) | (((with_reducible refine (B.out _).mono ?_); rintro e w1 ⟨rfl, rfl⟩)))
    go_ret
    exact ⟨rfl, rfl⟩
  · subst h
    rw [sgn_eq rfl]
    go_enter Tryd.func27, Tryd.ntmps27
    go_wp2_with (go_at_call 57; first | (((with_reducible refine (A.out _).mono ?_); rintro e w1 ⟨rfl, rfl⟩)) | (((with_reducible refine (B.out _).mono ?_); rintro e w1 ⟨rfl, rfl⟩)))
    go_ret
    exact ⟨rfl, rfl⟩
  · rw [sgn_gt h]
    have h2 : ¬ x < y := by omega
    go_enter Tryd.func27, Tryd.ntmps27
    go_wp2_with (go_at_call 57; first | (((with_reducible refine (A.out _).mono ?_); rintro e w1 ⟨rfl, rfl⟩)) | (((with_reducible refine (B.out _).mono ?_); rintro e w1 ⟨rfl, rfl⟩)))
    go_ret
    exact ⟨rfl, rfl⟩
theorem rsame_any (a b : Nat) (ha : a < 2 ^ 64) (hb : b < 2 ^ 64) (w : World) : Calls Tryd.prog 18 #[.float .f64 a, .float .f64 b] w fun e w' => e = .returned (.bool (decide (keyI a = keyI b))) ∧ w' = w := by
  have C := hid (fun W => rcompare_any a b ha hb W)
  have hs : decide (keyI a = keyI b) = (sgnI (keyI a) (keyI b) == 0) := by rw [Bool.eq_iff_iff]; simp [sgn_zero]
  rw [hs]
  generalize sgnI (keyI a) (keyI b) = s at *
  clear hs ha hb
  go_enter Tryd.func18, Tryd.ntmps18
  go_wp2_with (go_at_call 27; ((with_reducible refine (C.out _).mono ?_); rintro e w1 ⟨rfl, rfl⟩))
  go_ret
  exact ⟨by first | rfl | simp, rfl⟩
end Go.Proofs.YtcdfbcmhikhnjaaDoor
