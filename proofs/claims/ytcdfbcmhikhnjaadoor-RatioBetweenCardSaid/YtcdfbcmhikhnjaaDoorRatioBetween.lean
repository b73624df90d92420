/- RatioBetween holds: of numbers a and b the average is between them as floating ones, for any two numbers. The three listed tables hold what the program's text lays in them (the card ties them). -/
import Derived.Test.YtcdfbcmhikhnjaaDoorRtY
import Derived.Test.YtcdfbcmhikhnjaaDoorWideJ
import Derived.Test.YtcdfbcmhikhnjaaDoorLawF
import Derived.Test.YtcdfbcmhikhnjaaDoorCards
import Derived.Test.YtcdfbcmhikhnjaaDoorTie
import Derived.SevenTiedAt
namespace Go.Proofs.YtcdfbcmhikhnjaaDoor
set_option linter.unusedVariables false
set_option linter.unusedSimpArgs false
open Go.ChangeShapes Go.WideShapes Go.ChangeAt Go.RowKit Go.Joins Go.Fl

theorem sum_two (a b : Int) (ha : I64 a) (hb : I64 b) (B cap : Nat) (w : World) (h0 : w.cell? ⟨B, 0, none⟩ = some (.int .i64 a)) (h1 : w.cell? ⟨B, 1, none⟩ = some (.int .i64 b)) :
    Calls Tryd.prog 23 #[.slice (some ⟨B, 0, none⟩) 2 cap] w fun e w' => e = .returned ((Value.agg #[.int .i64 (hiW ((a + b))), .int .u64 (loW ((a + b)))])) ∧ Below w.heap.size w w' := by
  have := sum_any (.slice (some ⟨B, 0, none⟩) 2 cap) [a, b] w ⟨some ⟨B, 0, none⟩, cap, rfl, fun _ => ⟨B, 0, rfl, fun j hj => by
    have : j = 0 ∨ j = 1 := by simp at hj; omega
    rcases this with rfl | rfl
    · exact h0
    · exact h1⟩⟩ (by simp) (by
      intro k hk
      have : k = 0 ∨ k = 1 := by simp at hk; omega
      rcases this with rfl | rfl
      · exact ha
      · exact hb)
  have e : sumI [a, b] = a + b := by simp [sumI]
  rw [e] at this
  exact this
theorem sgn_not {a b : Int} (h : a ≤ b) : sgnI a b ≤ 0 := by
  unfold sgnI
  split
  · decide
  · split
    · omega
    · decide
set_option maxRecDepth 100000 in
set_option maxHeartbeats 4000000 in
theorem RatioBetween_walk (a : Int) (ha : I64 a) (b : Int) (hb : I64 b) (w : World) (hT : Tabs w) :
    Calls Tryd.prog 7 #[.int .i64 a, .int .i64 b] w fun e w' => e = .returned (.bool true) ∧ Below w.heap.size w w' := by
  have HSH := hid (fun W (h : Tabs W) => shown_any W h)
  have hTT : ∀ W, Below w.heap.size w W → Tabs W := fun W h => hT.below h (Nat.le_refl _)
  replace hTT := hid hTT
  have hl : I64 (min a b) := by unfold I64 at *; omega
  have hm : I64 (max a b) := by unfold I64 at *; omega
  have i1 : I128 (min a b) := by unfold I64 at *; exact ⟨by omega, by omega⟩
  have i2 : I128 (max a b) := by unfold I64 at *; exact ⟨by omega, by omega⟩
  have i3 : I128 (a + b) := by unfold I64 at *; exact ⟨by omega, by omega⟩
  have c1 := ofF_mono (a := min a b) (n := 1) (b := a + b) (k := 2) i1 (by decide) (by decide) i3 (by decide) (by decide) (by omega)
  have c2 := ofF_mono (a := a + b) (n := 2) (b := max a b) (k := 1) i3 (by decide) (by decide) i2 (by decide) (by decide) (by omega)
  have SU := hid (fun W B cap h0 h1 => sum_two a b ha hb B cap W h0 h1)
  have P1 := hid (fun W => ratio_of (a + b) 2 i3 (by decide) W)
  rw [show ofE 2 = 0 by decide] at P1
  have O1 := hid (fun W => of_any (min a b) hl W); have O2 := hid (fun W => of_any (max a b) hm W)
  have F1 := hid (fun W => ratio_float (min a b) i1 W); have F2 := hid (fun W => ratio_float (max a b) i2 W)
  have C1 := hid (fun W => compare_any (ofF (min a b) 1) (ofF (a + b) 2) (ofF_lt i1) (ofF_lt i3) W)
  have C2 := hid (fun W => compare_any (ofF (a + b) 2) (ofF (max a b) 1) (ofF_lt i3) (ofF_lt i2) W)
  replace c1 := sgn_not c1; replace c2 := sgn_not c2
  obtain ⟨s1, hs1⟩ : ∃ s, sgnI (keyI (ofF (min a b) 1)) (keyI (ofF (a + b) 2)) = s := ⟨_, rfl⟩
  obtain ⟨s2, hs2⟩ : ∃ s, sgnI (keyI (ofF (a + b) 2)) (keyI (ofF (max a b) 1)) = s := ⟨_, rfl⟩
  rw [hs1] at C1 c1; rw [hs2] at C2 c2
  clear hs1 hs2
  generalize ofF (min a b) 1 = f1 at *; generalize ofF (max a b) 1 = f2 at *; generalize ofF (a + b) 2 = f3 at *
  obtain ⟨v1, hv1⟩ : ∃ v, (Value.agg #[.int .i64 (hiW ((min a b))), .int .u64 (loW ((min a b)))]) = v := ⟨_, rfl⟩
  obtain ⟨v2, hv2⟩ : ∃ v, (Value.agg #[.int .i64 (hiW ((max a b))), .int .u64 (loW ((max a b)))]) = v := ⟨_, rfl⟩
  obtain ⟨v3, hv3⟩ : ∃ v, (Value.agg #[.int .i64 (hiW ((a + b))), .int .u64 (loW ((a + b)))]) = v := ⟨_, rfl⟩
  rw [hv1] at O1 F1; rw [hv2] at O2 F2; rw [hv3] at SU P1
  have im := ite_min; have ix := ite_max
  clear hv1 hv2 hv3 i1 i2 i3 hT hl hm ha hb
  go_enter Tryd.func7, Tryd.ntmps7
  go_wp2_with (first
    | (go_at_call 10; go_loud ((with_reducible refine (HSH.out _ (hTT.out _ (by (repeat' (first | (with_reducible exact Below.refl _ _) | (with_reducible assumption) | (with_reducible refine Below.new ?_ _) | (with_reducible refine Below.alloc ?_ ?_ _) | (with_reducible refine Below.drew ?_) | (with_reducible refine Below.drewN ?_ _) | (with_reducible refine Below.setCell ?_ ?_ _) | (refine Below.step ?_ (by assumption)) | go_size))))).mono ?_); rintro e w1 ⟨rfl, hb1⟩))
    | (go_at_call 23; go_loud ((with_reducible refine (SU.out _ _ _ (by go_simp) (by go_simp)).mono ?_); rintro e w2 ⟨rfl, hb2⟩))
    | (go_at_call 21; first
      | ((with_reducible refine (O1.out _).mono ?_); rintro e w3 ⟨rfl, hb3⟩)
      | ((with_reducible refine (O2.out _).mono ?_); rintro e w4 ⟨rfl, hb4⟩))
    | (go_at_call 19; first
      | ((with_reducible refine (F1.out _).mono ?_); rintro e w5 ⟨rfl, hb5⟩)
      | ((with_reducible refine (F2.out _).mono ?_); rintro e w6 ⟨rfl, hb6⟩))
    | (go_at_call 14; go_loud ((with_reducible refine (P1.out _).mono ?_); rintro e w7 ⟨rfl, hb7⟩))
    | (go_at_call 12; first
      | ((with_reducible refine (C1.out _).mono ?_); rintro e w8 ⟨rfl, hb8⟩)
      | ((with_reducible refine (C2.out _).mono ?_); rintro e w9 ⟨rfl, hb9⟩)))
  go_ret
  exact ⟨rfl, by (repeat' (first | (with_reducible exact Below.refl _ _) | (with_reducible assumption) | (with_reducible refine Below.new ?_ _) | (with_reducible refine Below.alloc ?_ ?_ _) | (with_reducible refine Below.drew ?_) | (with_reducible refine Below.drewN ?_ _) | (with_reducible refine Below.setCell ?_ ?_ _) | (refine Below.step ?_ (by assumption)) | go_size))⟩
set_option maxRecDepth 100000 in
theorem RatioBetween_lifted (os : Os) (started : os.Started) (H : Type) (enc : TypeId × Value → H) :
    ReturnsInHanded {} Tryd.checked os 7 .any (fun w args => (Rows.ratioBetweenSpec.pre enc Tryd.prog Tryd.f7 Rows.ratioBetweenRow.domain false w args ∧ laidMetH Tryd.prog laidL w) ∧ sizedMet enc Tryd.prog Tryd.f7 (OpenSpec.ofChange Rows.ratioBetweenSpec) false w args) (Rows.ratioBetweenSpec.post enc Tryd.prog Tryd.f7 false true false false) := by
  refine law_lift started (by kernel_rfl) Tryd.func7
    (ChangeSpec.witness_shaped (enc := enc) (C := Tryd.checked) (os := os) (X := fun w _ => laidMetH Tryd.prog laidL w) false (World.doorLaid Tryd.prog 400 os) #[.int .i64 0, .int .i64 0] 8 rfl (World.shaped_of_RefB (by kernel_rfl) (by kernel_rfl)) (by kernel_rfl) (by kernel_rfl) (by kernel_rfl) (door_met os _)) rfl rfl (by kernel_rfl) ?_ ?_
  · intro ds hl
    match ds, hl with
    | [_, _], _ => exact ⟨rfl, rfl, rfl⟩
  · intro W base args ds p hS hval hA hsz
    rw [Tryd.params7] at hA hval hsz
    obtain ⟨v0, vs0, d0, ds0, p0, q0, hargs, rfl, rfl, h0, r0⟩ := trodAll_cons hA
    obtain ⟨v1, vs1, d1, ds1, p1, q1, rfl, rfl, rfl, h1, r1⟩ := trodAll_cons r0
    obtain ⟨rfl, rfl, rfl⟩ := trodAll_nil r1
    obtain rfl : args = #[v0, v1] := by cases args; simp_all
    obtain ⟨a0, rfl, b0⟩ := open_i64 Tryd.underlying2 (hval 0 2 v0 rfl rfl) h0
    obtain ⟨a1, rfl, b1⟩ := open_i64 Tryd.underlying2 (hval 1 2 v1 rfl rfl) h1
    exact RatioBetween_walk a0 b0 a1 b1 W hS

theorem RatioBetween_over : Rows.ratioBetweenRow.holds Tryd.pinned (OpenSpec.ofChange Rows.ratioBetweenSpec) :=
  OpenClaim.holds_of_wide 7 Tryd.f7 rfl rfl rfl rfl rfl rfl rfl ⟨rfl, rfl, rfl, rfl, rfl⟩ rfl rfl rfl rfl rfl (by kernel_rfl) Tryd.func7 (by kernel_rfl)
    (of_decide_eq_true (by kernel_rfl)) (by unfold Func.isWrapper; first | (rw [if_pos (by decide +kernel)]; kernel_rfl) | (rw [if_neg (by decide +kernel)]; exact ⟨rfl, rfl⟩))
    (fun os started H enc _ => RatioBetween_lifted os started H enc)

/-- The statement: the tied card. -/
theorem RatioBetween_proved : Rows.RatioBetweenCardSaid :=
  Claim7.holds_tied_plain_at .later [] [.data, .data, .data] true (true, "3fd1db1805379c94ca0f033bef2549d43d0cb053ccef5510583f520674463b5b") false
    RatioBetween_over (fun _ h => by cases h) (by kernel_rfl) (fun _ h => by cases h) ratioBetween_row_tie rfl ⟨rfl, rfl⟩ (by kernel_rfl) rfl
    (fun f fn hf hfn => by
      obtain rfl : f = 7 := Option.some.inj ((show Tryd.prog.funcNamed "tesserae/tesseraelaw09.RatioBetween" = some 7 by kernel_rfl).symm.trans hf) |>.symm
      obtain rfl : fn = Tryd.f7 := (Option.some.inj (Tryd.func7.symm.trans hfn)).symm
      exact ⟨by kernel_rfl, fun j t ht => by
        rw [Tryd.params7] at ht
        have hm : t ∈ [2, 2] := by simpa using Array.mem_of_getElem? ht
        have hall : ([2, 2].all fun u => !Tryd.prog.wantsStandIn u) = true := by kernel_rfl
        exact (show Tryd.prog.wantsStandIn t = false by simpa using List.all_eq_true.1 hall t hm)⟩)
    (by kernel_rfl)
end Go.Proofs.YtcdfbcmhikhnjaaDoor
