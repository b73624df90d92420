/- PackedPlaces holds: each number stands at its place; none stands behind the last one. The two listed variables start as the program's text lays them (the card ties them). -/
import Derived.Test.YtpgifmccajcgkaaDoorPplacesW
import Derived.Test.YtpgifmccajcgkaaDoorLawD
import Derived.Test.YtpgifmccajcgkaaDoorCards
import Derived.Test.YtpgifmccajcgkaaDoorTie
import Derived.SevenTiedAt
namespace Go.Proofs.YtpgifmccajcgkaaDoor
set_option linter.unusedVariables false
set_option linter.unusedSimpArgs false
open Go.ChangeShapes Go.WideShapes Go.ChangeAt Go.RowKit Go.Joins

set_option maxRecDepth 100000 in
theorem PackedPlaces_lifted (os : Os) (started : os.Started) (H : Type) (enc : TypeId × Value → H) :
    ReturnsInHanded {} Tryd.checked os 13 .any (fun w args => (Rows.packedPlacesSpec.pre enc Tryd.prog Tryd.f13 Rows.packedPlacesRow.domain false w args ∧ laidMetH Tryd.prog laidL w) ∧ sizedMet enc Tryd.prog Tryd.f13 (OpenSpec.ofChange Rows.packedPlacesSpec) false w args) (Rows.packedPlacesSpec.post enc Tryd.prog Tryd.f13 false true false false) := by
  refine law_lift started (by kernel_rfl) Tryd.func13
    (ChangeSpec.witness_shaped (enc := enc) (C := Tryd.checked) (os := os) (X := fun w _ => laidMetH Tryd.prog laidL w) false (World.doorLaid Tryd.prog 400 os) #[.slice none 0 0, .int .i64 0] 8 rfl (World.shaped_of_RefB (by kernel_rfl) (by kernel_rfl)) (by kernel_rfl) (by kernel_rfl) (by kernel_rfl) (door_met os _)) rfl rfl (by kernel_rfl) ?_ ?_
  · intro ds hl
    match ds, hl with
    | [_, _], _ => exact ⟨rfl, rfl, rfl⟩
  · intro W base args ds p am an hS hval hA hsz
    rw [Tryd.params13] at hA hval hsz
    obtain ⟨v0, vs0, d0, ds0, p0, q0, hargs, rfl, rfl, h0, r0⟩ := trodAll_cons hA
    obtain ⟨v1, vs1, d1, ds1, p1, q1, rfl, rfl, rfl, h1, r1⟩ := trodAll_cons r0
    obtain ⟨rfl, rfl, rfl⟩ := trodAll_nil r1
    obtain rfl : args = #[v0, v1] := by cases args; simp_all
    obtain ⟨ao0, cap0, xs0, rfl, g0, b0, e0, f0, k0⟩ := open_pints Tryd.underlying42 (hval 0 42 v0 rfl rfl) h0
    obtain ⟨a1, rfl, b1⟩ := open_i64 Tryd.underlying3 (hval 1 3 v1 rfl rfl) h1
    exact PackedPlaces_walk _ ao0 cap0 xs0 rfl a1 b1 W g0 b0 e0 f0 k0 am an hS

theorem PackedPlaces_over : Rows.packedPlacesRow.holds Tryd.pinned (OpenSpec.ofChange Rows.packedPlacesSpec) :=
  OpenClaim.holds_of_wide 13 Tryd.f13 rfl rfl rfl rfl rfl rfl rfl ⟨rfl, rfl, rfl, rfl, rfl⟩ rfl rfl rfl rfl rfl (by kernel_rfl) Tryd.func13 (by kernel_rfl)
    (of_decide_eq_true (by kernel_rfl)) (by unfold Func.isWrapper; first | (rw [if_pos (by decide +kernel)]; kernel_rfl) | (rw [if_neg (by decide +kernel)]; exact ⟨rfl, rfl⟩))
    (fun os started H enc _ => PackedPlaces_lifted os started H enc)

/-- The statement: the tied card. -/
theorem PackedPlaces_proved : Rows.PackedPlacesCardSaid :=
  Claim7.holds_tied_plain_at .later [] [.sentinel, .sentinel] true (true, "fcc4ac6752b55b73a5565fdeb4390bcbe24d5ebd36b5fdb9e391db964f13c558") true
    PackedPlaces_over (fun _ h => by cases h) (by kernel_rfl) (fun _ h => by cases h) packedPlaces_row_tie rfl ⟨rfl, rfl⟩ (by kernel_rfl) rfl
    (fun f fn hf hfn => by
      obtain rfl : f = 13 := Option.some.inj ((show Tryd.prog.funcNamed "tesserae/tesseraelaw04.PackedPlaces" = some 13 by kernel_rfl).symm.trans hf) |>.symm
      obtain rfl : fn = Tryd.f13 := (Option.some.inj (Tryd.func13.symm.trans hfn)).symm
      exact ⟨by kernel_rfl, fun j t ht => by
        rw [Tryd.params13] at ht
        have hm : t ∈ [42, 3] := by simpa using Array.mem_of_getElem? ht
        have hall : ([42, 3].all fun u => !Tryd.prog.wantsStandIn u) = true := by kernel_rfl
        exact (show Tryd.prog.wantsStandIn t = false by simpa using List.all_eq_true.1 hall t hm)⟩)
    (by kernel_rfl)
end Go.Proofs.YtpgifmccajcgkaaDoor
