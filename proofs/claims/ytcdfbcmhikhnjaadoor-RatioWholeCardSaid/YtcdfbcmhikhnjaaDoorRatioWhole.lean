/- RatioWhole holds: whole numbers of at most 53 binary digits are floating ones, exactly; so are their averages of that many times themselves. The three listed tables hold what the program's text lays in them (the card ties them). -/
import Derived.Test.YtcdfbcmhikhnjaaDoorRtY
import Derived.Test.YtcdfbcmhikhnjaaDoorWideF
import Derived.Test.YtcdfbcmhikhnjaaDoorLawF
import Derived.Test.YtcdfbcmhikhnjaaDoorCards
import Derived.Test.YtcdfbcmhikhnjaaDoorTie
import Derived.SevenTiedAt
namespace Go.Proofs.YtcdfbcmhikhnjaaDoor
set_option linter.unusedVariables false
set_option linter.unusedSimpArgs false
open Go.ChangeShapes Go.WideShapes Go.ChangeAt Go.RowKit Go.Joins Go.Fl
attribute [local go_sem] ord_lt ord_eq ord_gt ord_ne

set_option maxRecDepth 100000 in
set_option maxHeartbeats 4000000 in
theorem RatioWhole_walk (n : Int) (hn : I64 n) (c : Int) (hc : I64 c) (w : World) (hT : Tabs w) :
    Calls Tryd.prog 6 #[.int .i64 n, .int .i64 c] w fun e w' => e = .returned (.bool true) ∧ Below w.heap.size w w' := by
  have HSH := hid (fun W (h : Tabs W) => shown_any W h)
  have hTT : ∀ W, Below w.heap.size w W → Tabs W := fun W h => hT.below h (Nat.le_refl _)
  replace hTT := hid hTT
  by_cases hskip : n < -9007199254740992 ∨ 9007199254740992 < n ∨ c < 1 ∨ 1000000 < c
  · have hs : n < -9007199254740992 ∨ (¬ n < -9007199254740992 ∧ 9007199254740992 < n) ∨ (¬ n < -9007199254740992 ∧ ¬ 9007199254740992 < n ∧ c < 1) ∨ (¬ n < -9007199254740992 ∧ ¬ 9007199254740992 < n ∧ ¬ c < 1 ∧ 1000000 < c) := by omega
    clear hskip hT hn hc
    rcases hs with h1 | ⟨h1, h2⟩ | ⟨h1, h2, h3⟩ | ⟨h1, h2, h3, h4⟩
    all_goals
      go_enter Tryd.func6, Tryd.ntmps6
      go_wp2_with (go_at_call 10; go_loud ((with_reducible refine (HSH.out _ (hTT.out _ (by (repeat' (first | (with_reducible exact Below.refl _ _) | (with_reducible assumption) | (with_reducible refine Below.new ?_ _) | (with_reducible refine Below.alloc ?_ ?_ _) | (with_reducible refine Below.drew ?_) | (with_reducible refine Below.drewN ?_ _) | (with_reducible refine Below.setCell ?_ ?_ _) | (refine Below.step ?_ (by assumption)) | go_size))))).mono ?_); rintro e w1 ⟨rfl, hb1⟩))
      go_ret
      exact ⟨rfl, by (repeat' (first | (with_reducible exact Below.refl _ _) | (with_reducible assumption) | (with_reducible refine Below.new ?_ _) | (with_reducible refine Below.alloc ?_ ?_ _) | (with_reducible refine Below.drew ?_) | (with_reducible refine Below.drewN ?_ _) | (with_reducible refine Below.setCell ?_ ?_ _) | (refine Below.step ?_ (by assumption)) | go_size))⟩
  · have b1 : ¬ n < -9007199254740992 := by omega
    have b2 : ¬ 9007199254740992 < n := by omega
    have b3 : ¬ c < 1 := by omega
    have b4 : ¬ 1000000 < c := by omega
    obtain ⟨f1, f2, f3⟩ := whole_float (n := n) (by omega)
    have hI : I128 n := ⟨by unfold I64 at hn; omega, by unfold I64 at hn; omega⟩
    have hb : n * c < 170141183460469231731687303715884105728 ∧ -170141183460469231731687303715884105728 ≤ n * c := by
      have h1 : n.natAbs * c.natAbs ≤ 9223372036854775808 * 1000000 := Nat.mul_le_mul (by omega) (by omega)
      have h2 := Int.natAbs_mul n c
      omega
    have e3 : ofE c = 0 := by unfold ofE; rw [of_good (by omega) (by omega)]; rfl
    have O1 := hid (fun W => of_any n hn W); have F1 := hid (fun W => ratio_float n hI W)
    have M1 := hid (fun W => mul_any n c hn hc W); have P1 := hid (fun W => ratio_of (n * c) c ⟨hb.2, hb.1⟩ hc W)
    rw [e3, ofF_scale hn (by omega) (by omega)] at P1
    have hlt := ofF_lt hI (n := 1)
    have S1 := hid (fun W => same_any (ofF n 1) (ofF n 1) hlt hlt W)
    rw [show decide (keyI (ofF n 1) = keyI (ofF n 1)) = true by simp] at S1
    have hE := ord_eq (ofF n 1) (ofF n 1)
    rw [eqB_self, f3] at hE
    have hC : ∀ W : World, (convert 24 2 (.float .f64 (ofF n 1))).run Tryd.prog W = .ok (.int .i64 n) W := fun W => run_convert_float_int W 24 2 .f64 .i64 _ _ (by rw [Tryd.underlying24]; rfl) Tryd.underlying2 f2
    obtain ⟨v, hv⟩ : ∃ v, (Value.agg #[.int .i64 (hiW (n)), .int .u64 (loW (n))]) = v := ⟨_, rfl⟩
    obtain ⟨u, hu⟩ : ∃ u, (Value.agg #[.int .i64 (hiW ((n * c))), .int .u64 (loW ((n * c)))]) = u := ⟨_, rfl⟩
    rw [hv] at O1 F1; rw [hu] at M1 P1
    generalize ofF n 1 = F at *
    clear hskip hT hn hc f2 f3 hI hb e3 hlt hv hu
    go_enter Tryd.func6, Tryd.ntmps6
    go_wp2_with (first
      | (go_at_call 10; go_loud ((with_reducible refine (HSH.out _ (hTT.out _ (by (repeat' (first | (with_reducible exact Below.refl _ _) | (with_reducible assumption) | (with_reducible refine Below.new ?_ _) | (with_reducible refine Below.alloc ?_ ?_ _) | (with_reducible refine Below.drew ?_) | (with_reducible refine Below.drewN ?_ _) | (with_reducible refine Below.setCell ?_ ?_ _) | (refine Below.step ?_ (by assumption)) | go_size))))).mono ?_); rintro e w1 ⟨rfl, hb1⟩))
      | (go_at_call 21; go_loud ((with_reducible refine (O1.out _).mono ?_); rintro e w2 ⟨rfl, hb2⟩))
      | (go_at_call 19; go_loud ((with_reducible refine (F1.out _).mono ?_); rintro e w3 ⟨rfl, hb3⟩))
      | (go_at_call 22; go_loud ((with_reducible refine (M1.out _).mono ?_); rintro e w4 ⟨rfl, hb4⟩))
      | (go_at_call 14; go_loud ((with_reducible refine (P1.out _).mono ?_); rintro e w5 ⟨rfl, hb5⟩))
      | (go_at_call 13; go_loud ((with_reducible refine (S1.out _).mono ?_); rintro e w6 ⟨rfl, hb6⟩)))
    go_ret
    exact ⟨rfl, by (repeat' (first | (with_reducible exact Below.refl _ _) | (with_reducible assumption) | (with_reducible refine Below.new ?_ _) | (with_reducible refine Below.alloc ?_ ?_ _) | (with_reducible refine Below.drew ?_) | (with_reducible refine Below.drewN ?_ _) | (with_reducible refine Below.setCell ?_ ?_ _) | (refine Below.step ?_ (by assumption)) | go_size))⟩
set_option maxRecDepth 100000 in
theorem RatioWhole_lifted (os : Os) (started : os.Started) (H : Type) (enc : TypeId × Value → H) :
    ReturnsInHanded {} Tryd.checked os 6 .any (fun w args => (Rows.ratioWholeSpec.pre enc Tryd.prog Tryd.f6 Rows.ratioWholeRow.domain false w args ∧ laidMetH Tryd.prog laidL w) ∧ sizedMet enc Tryd.prog Tryd.f6 (OpenSpec.ofChange Rows.ratioWholeSpec) false w args) (Rows.ratioWholeSpec.post enc Tryd.prog Tryd.f6 false true false false) := by
  refine law_lift started (by kernel_rfl) Tryd.func6
    (ChangeSpec.witness_shaped (enc := enc) (C := Tryd.checked) (os := os) (X := fun w _ => laidMetH Tryd.prog laidL w) false (World.doorLaid Tryd.prog 400 os) #[.int .i64 0, .int .i64 0] 8 rfl (World.shaped_of_RefB (by kernel_rfl) (by kernel_rfl)) (by kernel_rfl) (by kernel_rfl) (by kernel_rfl) (door_met os _)) rfl rfl (by kernel_rfl) ?_ ?_
  · intro ds hl
    match ds, hl with
    | [_, _], _ => exact ⟨rfl, rfl, rfl⟩
  · intro W base args ds p hS hval hA hsz
    rw [Tryd.params6] at hA hval hsz
    obtain ⟨v0, vs0, d0, ds0, p0, q0, hargs, rfl, rfl, h0, r0⟩ := trodAll_cons hA
    obtain ⟨v1, vs1, d1, ds1, p1, q1, rfl, rfl, rfl, h1, r1⟩ := trodAll_cons r0
    obtain ⟨rfl, rfl, rfl⟩ := trodAll_nil r1
    obtain rfl : args = #[v0, v1] := by cases args; simp_all
    obtain ⟨a0, rfl, b0⟩ := open_i64 Tryd.underlying2 (hval 0 2 v0 rfl rfl) h0
    obtain ⟨a1, rfl, b1⟩ := open_i64 Tryd.underlying3 (hval 1 3 v1 rfl rfl) h1
    exact RatioWhole_walk a0 b0 a1 b1 W hS

theorem RatioWhole_over : Rows.ratioWholeRow.holds Tryd.pinned (OpenSpec.ofChange Rows.ratioWholeSpec) :=
  OpenClaim.holds_of_wide 6 Tryd.f6 rfl rfl rfl rfl rfl rfl rfl ⟨rfl, rfl, rfl, rfl, rfl⟩ rfl rfl rfl rfl rfl (by kernel_rfl) Tryd.func6 (by kernel_rfl)
    (of_decide_eq_true (by kernel_rfl)) (by unfold Func.isWrapper; first | (rw [if_pos (by decide +kernel)]; kernel_rfl) | (rw [if_neg (by decide +kernel)]; exact ⟨rfl, rfl⟩))
    (fun os started H enc _ => RatioWhole_lifted os started H enc)

/-- The statement: the tied card. -/
theorem RatioWhole_proved : Rows.RatioWholeCardSaid :=
  Claim7.holds_tied_plain_at .later [] [.data, .data, .data] true (true, "3fd1db1805379c94ca0f033bef2549d43d0cb053ccef5510583f520674463b5b") false
    RatioWhole_over (fun _ h => by cases h) (by kernel_rfl) (fun _ h => by cases h) ratioWhole_row_tie rfl ⟨rfl, rfl⟩ (by kernel_rfl) rfl
    (fun f fn hf hfn => by
      obtain rfl : f = 6 := Option.some.inj ((show Tryd.prog.funcNamed "tesserae/tesseraelaw09.RatioWhole" = some 6 by kernel_rfl).symm.trans hf) |>.symm
      obtain rfl : fn = Tryd.f6 := (Option.some.inj (Tryd.func6.symm.trans hfn)).symm
      exact ⟨by kernel_rfl, fun j t ht => by
        rw [Tryd.params6] at ht
        have hm : t ∈ [2, 3] := by simpa using Array.mem_of_getElem? ht
        have hall : ([2, 3].all fun u => !Tryd.prog.wantsStandIn u) = true := by kernel_rfl
        exact (show Tryd.prog.wantsStandIn t = false by simpa using List.all_eq_true.1 hall t hm)⟩)
    (by kernel_rfl)
end Go.Proofs.YtcdfbcmhikhnjaaDoor
