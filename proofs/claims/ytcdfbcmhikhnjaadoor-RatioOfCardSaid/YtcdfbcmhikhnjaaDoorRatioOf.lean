/- RatioOf holds: ratios, and floating numbers of wide ones, are as the document says, for every wide number and count. The three listed tables hold what the program's text lays in them (the card ties them). -/
import Derived.Test.YtcdfbcmhikhnjaaDoorRtX
import Derived.Test.YtcdfbcmhikhnjaaDoorLawF
import Derived.Test.YtcdfbcmhikhnjaaDoorCards
import Derived.Test.YtcdfbcmhikhnjaaDoorTie
import Derived.SevenTiedAt
namespace Go.Proofs.YtcdfbcmhikhnjaaDoor
set_option linter.unusedVariables false
set_option linter.unusedSimpArgs false
open Go.ChangeShapes Go.WideShapes Go.ChangeAt Go.RowKit Go.Joins Go.Fl

set_option maxRecDepth 100000 in
set_option maxHeartbeats 2000000 in
theorem RatioOf_core (a n : Int) (ha : I128 a) (hn : I64 n) (w : World) (hT : Tabs w) :
    Calls Tryd.prog 5 #[(Value.agg #[.int .i64 (hiW (a)), .int .u64 (loW (a))]), .int .i64 n] w fun e w' => e = .returned (.bool true) ∧ Below w.heap.size w w' := by
  have HSH := hid (fun W (h : Tabs W) => shown_any W h)
  have P1 := hid (fun W => ratio_of a n ha hn W); have P2 := hid (fun W => rof_any a n ha hn W)
  have P3 := hid (fun W => ratio_float a ha W); have P4 := hid (fun W => rfloat_any a ha W)
  have S1 := hid (fun W => self_same (ofF a n) (ofF_lt ha) W); have S2 := hid (fun W => self_same (ofF a 1) (ofF_lt ha) W)
  generalize ofF a n = F at *; generalize ofF a 1 = G at *; generalize ofE n = E at *
  generalize hiW a = H at *; generalize loW a = L at *
  have hTT : ∀ W, Below w.heap.size w W → Tabs W := fun W h => hT.below h (Nat.le_refl _)
  replace hTT := hid hTT
  clear ha hn hT
  go_enter Tryd.func5, Tryd.ntmps5
  go_wp2_with (first
    | (go_at_call 10; go_loud ((with_reducible refine (HSH.out _ (hTT.out _ (by (repeat' (first | (with_reducible exact Below.refl _ _) | (with_reducible assumption) | (with_reducible refine Below.new ?_ _) | (with_reducible refine Below.alloc ?_ ?_ _) | (with_reducible refine Below.drew ?_) | (with_reducible refine Below.drewN ?_ _) | (with_reducible refine Below.setCell ?_ ?_ _) | (refine Below.step ?_ (by assumption)) | go_size))))).mono ?_); rintro e w1 ⟨rfl, hb1⟩; obtain ⟨hc1, hf1, hk1, hz1⟩ := bcell3 hb1; (try simp only [World.size_alloc, World.size_drew] at hz1); have : w.heap.size < w1.heap.size := (by omega)))
    | (go_at_call 14; go_loud ((with_reducible refine (P1.out _).mono ?_); rintro e w2 ⟨rfl, hb2⟩; obtain ⟨hc2, hf2, hk2, hz2⟩ := bcell3 hb2; (try simp only [World.size_alloc, World.size_drew] at hz2); have : w.heap.size < w2.heap.size := (by omega)))
    | (go_at_call 17; go_loud ((with_reducible refine (P2.out _).mono ?_); rintro e w3 ⟨rfl, hb3⟩; obtain ⟨hc3, hf3, hk3, hz3⟩ := bcell3 hb3; (try simp only [World.size_alloc, World.size_drew] at hz3); have : w.heap.size < w3.heap.size := (by omega))))
  have hB3 : Below w.heap.size w w3 := by (repeat' (first | (with_reducible exact Below.refl _ _) | (with_reducible assumption) | (with_reducible refine Below.new ?_ _) | (with_reducible refine Below.alloc ?_ ?_ _) | (with_reducible refine Below.drew ?_) | (with_reducible refine Below.drewN ?_ _) | (with_reducible refine Below.setCell ?_ ?_ _) | (refine Below.step ?_ (by assumption)) | go_size))
  have s0 : w3.cell? ⟨w.heap.size, 0, none⟩ = some (.int .i64 H) := by go_simp
  have s1 : w3.cell? ⟨w.heap.size, 1, none⟩ = some (.int .u64 L) := by go_simp
  have p0 := World.plus_cell s0; have p1 := World.plus_cell s1
  clear hc1 hc2 hc3 hf1 hf2 hf3 hk1 hk2 hk3 s0 s1
  refine wp_region_plus (by kernel_rfl) (by kernel_rfl) ?_
  repeat (first | go_big_quiet_skip | (go_big_quiet_want; go_big_quiet_op; first | go_big_quiet_on | go_big_quiet_call ((first | (go_at_call 19; exact Calls.plus_of (P3.out _)) | (go_at_call 20; exact Calls.plus_of (P4.out _)) | (go_at_call 18; first | (with_reducible exact Calls.plus_of_same (S1.out _)) | (with_reducible exact Calls.plus_of_same (S2.out _)))))))
  refine wpQuiet_nil ?_
  rintro _ ⟨xq, rfl⟩
  have kB := World.plus_below w3 xq
  go_wp2
  go_ret
  exact ⟨rfl, by (repeat' (first | (with_reducible exact Below.refl _ _) | (with_reducible assumption) | (with_reducible refine Below.new ?_ _) | (with_reducible refine Below.alloc ?_ ?_ _) | (with_reducible refine Below.drew ?_) | (with_reducible refine Below.drewN ?_ _) | (with_reducible refine Below.setCell ?_ ?_ _) | (refine Below.step ?_ (by assumption)) | go_size))⟩
theorem RatioOf_walk (a b : Int) (ha : I64 a) (hb : U64 b) (n : Int) (hn : I64 n) (w : World) (hT : Tabs w) :
    Calls Tryd.prog 5 #[.agg #[.int .i64 a, .int .u64 b], .int .i64 n] w fun e w' => e = .returned (.bool true) ∧ Below w.heap.size w w' := by
  rw [wv_words ha hb]
  exact RatioOf_core _ n (i128_of ha hb) hn w hT
set_option maxRecDepth 100000 in
theorem RatioOf_lifted (os : Os) (started : os.Started) (H : Type) (enc : TypeId × Value → H) :
    ReturnsInHanded {} Tryd.checked os 5 .any (fun w args => (Rows.ratioOfSpec.pre enc Tryd.prog Tryd.f5 Rows.ratioOfRow.domain false w args ∧ laidMetH Tryd.prog laidL w) ∧ sizedMet enc Tryd.prog Tryd.f5 (OpenSpec.ofChange Rows.ratioOfSpec) false w args) (Rows.ratioOfSpec.post enc Tryd.prog Tryd.f5 false true false false) := by
  refine law_lift started (by kernel_rfl) Tryd.func5
    (ChangeSpec.witness_shaped (enc := enc) (C := Tryd.checked) (os := os) (X := fun w _ => laidMetH Tryd.prog laidL w) false (World.doorLaid Tryd.prog 400 os) #[.agg #[.int .i64 0, .int .u64 0], .int .i64 0] 8 rfl (World.shaped_of_RefB (by kernel_rfl) (by kernel_rfl)) (by kernel_rfl) (by kernel_rfl) (by kernel_rfl) (door_met os _)) rfl rfl (by kernel_rfl) ?_ ?_
  · intro ds hl
    match ds, hl with
    | [_, _], _ => exact ⟨rfl, rfl, rfl⟩
  · intro W base args ds p hS hval hA hsz
    rw [Tryd.params5] at hA hval hsz
    obtain ⟨v0, vs0, d0, ds0, p0, q0, hargs, rfl, rfl, h0, r0⟩ := trodAll_cons hA
    obtain ⟨v1, vs1, d1, ds1, p1, q1, rfl, rfl, rfl, h1, r1⟩ := trodAll_cons r0
    obtain ⟨rfl, rfl, rfl⟩ := trodAll_nil r1
    obtain rfl : args = #[v0, v1] := by cases args; simp_all
    obtain ⟨a0, c0, rfl, b0, e0⟩ := open_wide (hval 0 30 v0 rfl rfl) h0
    obtain ⟨a1, rfl, b1⟩ := open_i64 Tryd.underlying3 (hval 1 3 v1 rfl rfl) h1
    exact RatioOf_walk a0 c0 b0 e0 a1 b1 W hS

theorem RatioOf_over : Rows.ratioOfRow.holds Tryd.pinned (OpenSpec.ofChange Rows.ratioOfSpec) :=
  OpenClaim.holds_of_wide 5 Tryd.f5 rfl rfl rfl rfl rfl rfl rfl ⟨rfl, rfl, rfl, rfl, rfl⟩ rfl rfl rfl rfl rfl (by kernel_rfl) Tryd.func5 (by kernel_rfl)
    (of_decide_eq_true (by kernel_rfl)) (by unfold Func.isWrapper; first | (rw [if_pos (by decide +kernel)]; kernel_rfl) | (rw [if_neg (by decide +kernel)]; exact ⟨rfl, rfl⟩))
    (fun os started H enc _ => RatioOf_lifted os started H enc)

/-- The statement: the tied card. -/
theorem RatioOf_proved : Rows.RatioOfCardSaid :=
  Claim7.holds_tied_plain_at .later [] [.data, .data, .data] true (true, "3fd1db1805379c94ca0f033bef2549d43d0cb053ccef5510583f520674463b5b") false
    RatioOf_over (fun _ h => by cases h) (by kernel_rfl) (fun _ h => by cases h) ratioOf_row_tie rfl ⟨rfl, rfl⟩ (by kernel_rfl) rfl
    (fun f fn hf hfn => by
      obtain rfl : f = 5 := Option.some.inj ((show Tryd.prog.funcNamed "tesserae/tesseraelaw09.RatioOf" = some 5 by kernel_rfl).symm.trans hf) |>.symm
      obtain rfl : fn = Tryd.f5 := (Option.some.inj (Tryd.func5.symm.trans hfn)).symm
      exact ⟨by kernel_rfl, fun j t ht => by
        rw [Tryd.params5] at ht
        have hm : t ∈ [30, 3] := by simpa using Array.mem_of_getElem? ht
        have hall : ([30, 3].all fun u => !Tryd.prog.wantsStandIn u) = true := by kernel_rfl
        exact (show Tryd.prog.wantsStandIn t = false by simpa using List.all_eq_true.1 hall t hm)⟩)
    (by kernel_rfl)
end Go.Proofs.YtcdfbcmhikhnjaaDoor
