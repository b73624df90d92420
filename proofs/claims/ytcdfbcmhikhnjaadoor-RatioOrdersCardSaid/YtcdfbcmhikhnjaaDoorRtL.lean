/- Ratio: the program's 'Compare' and 'Same'. -/
import Derived.Test.YtcdfbcmhikhnjaaDoorRtK
namespace Go.Proofs.YtcdfbcmhikhnjaaDoor
set_option linter.unusedVariables false
set_option linter.unusedSimpArgs false
set_option maxRecDepth 100000
open Go.ChangeShapes Go.WideShapes Go.ChangeAt Go.RowKit Go.Fl
attribute [local go_sem] fbits_run frombits_lit Int.toNat_natCast ord_lt ord_eq ord_gt ord_ne

theorem zero_two (x y : Nat) (b cap : Nat) (w : World) (h0 : w.cell? ⟨b, 0, none⟩ = some (.float .f64 x)) (h1 : w.cell? ⟨b, 1, none⟩ = some (.float .f64 y)) :
    Calls Tryd.prog 33 #[.slice (some ⟨b, 0, none⟩) 2 cap] w fun e w' => e = .returned (.int .i64 (zF x y)) ∧ w = w' := by
  have X := ord_ne x 0; have Y := ord_ne y 0
  unfold zF
  cases hx : eqB x 0 <;> rw [hx] at X
  · clear hx Y
    go_enter Tryd.func33, Tryd.ntmps33
    go_wp2
    refine wp_loop_rounds 3 ?_
    rw [rounds_succ]
    go_wp2
    go_ret
    exact ⟨rfl, rfl⟩
  · cases hy : eqB y 0 <;> rw [hy] at Y
    · clear hx hy
      go_enter Tryd.func33, Tryd.ntmps33
      go_wp2
      refine wp_loop_rounds 3 ?_
      rw [rounds_succ]
      go_wp2
      rw [rounds_succ]
      go_wp2
      go_ret
      exact ⟨rfl, rfl⟩
    · clear hx hy
      go_enter Tryd.func33, Tryd.ntmps33
      go_wp2
      refine wp_loop_rounds 3 ?_
      rw [rounds_succ]
      go_wp2
      rw [rounds_succ]
      go_wp2
      rw [rounds_succ]
      go_wp2
      go_ret
      exact ⟨rfl, rfl⟩
theorem gF_sgn (a b : Nat) : -1 ≤ sgnI (gF a) (gF b) ∧ sgnI (gF a) (gF b) ≤ 1 := by unfold sgnI; (repeat' split) <;> omega
theorem compare_any (a b : Nat) (ha : a < 2 ^ 64) (hb : b < 2 ^ 64) (w : World) : Calls Tryd.prog 12 #[.float .f64 a, .float .f64 b] w fun e w' => e = .returned (.int .i64 (sgnI (keyI a) (keyI b))) ∧ Below w.heap.size w w' := by
  rw [← keys_is]
  have C := hid (fun W => cmp_f a b W); have Z := hid (fun c cap W h0 h1 => zero_two a b c cap W h0 h1)
  have SA := hid (fun W => sign_any a ha W); have SB := hid (fun W => sign_any b hb W)
  have G := hid (fun W => cmp_n (gF a) (gF b) W)
  have hz : zF a b = 0 ∨ zF a b = 1 := by unfold zF; split <;> simp
  have hg := gF_sgn a b
  have hm : IntKind.i64.wrap (zF a b * sgnI (gF a) (gF b)) = zF a b * sgnI (gF a) (gF b) := by
    simp only [IntKind.wrap_i64]
    rcases hz with h | h <;> rw [h] <;> omega
  obtain ⟨s, hs⟩ : ∃ s, sgnI (gF a) (gF b) = s := ⟨_, rfl⟩
  rw [hs] at G hm ⊢
  generalize zF a b = z at *
  generalize gF a = x at *; generalize gF b = y at *
  generalize cF a b = c at *
  obtain ⟨p, hp⟩ : ∃ p, z * s = p := ⟨_, rfl⟩
  rw [hp] at hm ⊢
  have HW : Hid (wrap64 (z * s) = p) := by unfold Hid; rw [hp]; simp only [IntKind.wrap_i64] at hm; unfold wrap64; omega
  clear ha hb hz hg hs hp
  go_enter Tryd.func12, Tryd.ntmps12
  go_wp2_with (first
    | (go_at_call 32; go_loud ((with_reducible refine (C.out _).mono ?_); rintro e w1 ⟨rfl, rfl⟩))
    | (go_at_call 33; go_loud ((with_reducible refine (Z.out _ _ _ (by go_simp) (by go_simp)).mono ?_); rintro e w2 ⟨rfl, rfl⟩))
    | (go_at_call 35; first | ((with_reducible refine (SA.out _).mono ?_); rintro e w3 ⟨rfl, rfl⟩) | ((with_reducible refine (SB.out _).mono ?_); rintro e w3 ⟨rfl, rfl⟩))
    | (go_at_call 34; go_loud ((with_reducible refine (G.out _).mono ?_); rintro e w4 ⟨rfl, rfl⟩))
    | (go_at_call 31; go_loud (refine (or_two c p _ _ _ (by go_simp) (by go_simp; exact HW.out)).mono ?_; rintro e w5 ⟨rfl, rfl⟩)))
  all_goals
    go_ret
    exact ⟨rfl, by (repeat' (first | (with_reducible exact Below.refl _ _) | (with_reducible assumption) | (with_reducible refine Below.new ?_ _) | (with_reducible refine Below.alloc ?_ ?_ _) | (with_reducible refine Below.drew ?_) | (with_reducible refine Below.drewN ?_ _) | (with_reducible refine Below.setCell ?_ ?_ _) | (refine Below.step ?_ (by assumption)) | go_size))⟩
theorem same_any (a b : Nat) (ha : a < 2 ^ 64) (hb : b < 2 ^ 64) (w : World) : Calls Tryd.prog 13 #[.float .f64 a, .float .f64 b] w fun e w' => e = .returned (.bool (decide (keyI a = keyI b))) ∧ Below w.heap.size w w' := by
  have C := hid (fun W => compare_any a b ha hb W)
  have hs : decide (keyI a = keyI b) = (sgnI (keyI a) (keyI b) == 0) := by rw [Bool.eq_iff_iff]; simp [sgn_zero]
  rw [hs]
  generalize sgnI (keyI a) (keyI b) = s at *
  clear hs ha hb
  go_enter Tryd.func13, Tryd.ntmps13
  go_wp2_with (go_at_call 12; ((with_reducible refine (C.out _).mono ?_); rintro e w1 ⟨rfl, hw1⟩))
  go_ret
  exact ⟨by first | rfl | simp, by (repeat' (first | (with_reducible exact Below.refl _ _) | (with_reducible assumption) | (with_reducible refine Below.new ?_ _) | (with_reducible refine Below.alloc ?_ ?_ _) | (with_reducible refine Below.drew ?_) | (with_reducible refine Below.drewN ?_ _) | (with_reducible refine Below.setCell ?_ ?_ _) | (refine Below.step ?_ (by assumption)) | go_size))⟩
end Go.Proofs.YtcdfbcmhikhnjaaDoor
