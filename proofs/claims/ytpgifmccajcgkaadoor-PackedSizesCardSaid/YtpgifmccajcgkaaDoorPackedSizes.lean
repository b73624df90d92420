/- PackedSizes holds: how many bytes numbers have. The two listed variables start as the program's text lays them (the card ties them). -/
import Derived.Test.YtpgifmccajcgkaaDoorPsizesW
import Derived.Test.YtpgifmccajcgkaaDoorLawD
import Derived.Test.YtpgifmccajcgkaaDoorCards
import Derived.Test.YtpgifmccajcgkaaDoorTie
import Derived.SevenTiedAt
namespace Go.Proofs.YtpgifmccajcgkaaDoor
set_option linter.unusedVariables false
set_option linter.unusedSimpArgs false
open Go.ChangeShapes Go.WideShapes Go.ChangeAt Go.RowKit Go.Joins

set_option maxRecDepth 100000 in
theorem PackedSizes_lifted (os : Os) (started : os.Started) (H : Type) (enc : TypeId × Value → H) :
    ReturnsInHanded {} Tryd.checked os 9 .any (fun w args => (Rows.packedSizesSpec.pre enc Tryd.prog Tryd.f9 Rows.packedSizesRow.domain false w args ∧ laidMetH Tryd.prog laidL w) ∧ sizedMet enc Tryd.prog Tryd.f9 (OpenSpec.ofChange Rows.packedSizesSpec) false w args) (Rows.packedSizesSpec.post enc Tryd.prog Tryd.f9 false true false false) := by
  refine law_lift started (by kernel_rfl) Tryd.func9
    (ChangeSpec.witness_shaped (enc := enc) (C := Tryd.checked) (os := os) (X := fun w _ => laidMetH Tryd.prog laidL w) false (World.doorLaid Tryd.prog 400 os) #[.int .i64 0, .int .i64 0] 8 rfl (World.shaped_of_RefB (by kernel_rfl) (by kernel_rfl)) (by kernel_rfl) (by kernel_rfl) (by kernel_rfl) (door_met os _)) rfl rfl (by kernel_rfl) ?_ ?_
  · intro ds hl
    match ds, hl with
    | [_, _], _ => exact ⟨rfl, rfl, rfl⟩
  · intro W base args ds p am an hS hval hA hsz
    rw [Tryd.params9] at hA hval hsz
    obtain ⟨v0, vs0, d0, ds0, p0, q0, hargs, rfl, rfl, h0, r0⟩ := trodAll_cons hA
    obtain ⟨v1, vs1, d1, ds1, p1, q1, rfl, rfl, rfl, h1, r1⟩ := trodAll_cons r0
    obtain ⟨rfl, rfl, rfl⟩ := trodAll_nil r1
    obtain rfl : args = #[v0, v1] := by cases args; simp_all
    obtain ⟨a0, rfl, b0⟩ := open_i64 Tryd.underlying3 (hval 0 3 v0 rfl rfl) h0
    obtain ⟨a1, rfl, b1⟩ := open_i64 Tryd.underlying3 (hval 1 3 v1 rfl rfl) h1
    exact PackedSizes_walk a0 b0 a1 b1 W am an hS

theorem PackedSizes_over : Rows.packedSizesRow.holds Tryd.pinned (OpenSpec.ofChange Rows.packedSizesSpec) :=
  OpenClaim.holds_of_wide 9 Tryd.f9 rfl rfl rfl rfl rfl rfl rfl ⟨rfl, rfl, rfl, rfl, rfl⟩ rfl rfl rfl rfl rfl (by kernel_rfl) Tryd.func9 (by kernel_rfl)
    (of_decide_eq_true (by kernel_rfl)) (by unfold Func.isWrapper; first | (rw [if_pos (by decide +kernel)]; kernel_rfl) | (rw [if_neg (by decide +kernel)]; exact ⟨rfl, rfl⟩))
    (fun os started H enc _ => PackedSizes_lifted os started H enc)

/-- The statement: the tied card. -/
theorem PackedSizes_proved : Rows.PackedSizesCardSaid :=
  Claim7.holds_tied_plain_at .later [] [.sentinel, .sentinel] true (true, "fcc4ac6752b55b73a5565fdeb4390bcbe24d5ebd36b5fdb9e391db964f13c558") true
    PackedSizes_over (fun _ h => by cases h) (by kernel_rfl) (fun _ h => by cases h) packedSizes_row_tie rfl ⟨rfl, rfl⟩ (by kernel_rfl) rfl
    (fun f fn hf hfn => by
      obtain rfl : f = 9 := Option.some.inj ((show Tryd.prog.funcNamed "tesserae/tesseraelaw04.PackedSizes" = some 9 by kernel_rfl).symm.trans hf) |>.symm
      obtain rfl : fn = Tryd.f9 := (Option.some.inj (Tryd.func9.symm.trans hfn)).symm
      exact ⟨by kernel_rfl, fun j t ht => by
        rw [Tryd.params9] at ht
        have hm : t ∈ [3, 3] := by simpa using Array.mem_of_getElem? ht
        have hall : ([3, 3].all fun u => !Tryd.prog.wantsStandIn u) = true := by kernel_rfl
        exact (show Tryd.prog.wantsStandIn t = false by simpa using List.all_eq_true.1 hall t hm)⟩)
    (by kernel_rfl)
end Go.Proofs.YtpgifmccajcgkaaDoor
