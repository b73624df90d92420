/- PackedBack holds: lists and their bytes are one to one, whatever stands behind. The two listed variables start as the program's text lays them (the card ties them). -/
import Derived.Test.YtpgifmccajcgkaaDoorPbackW
import Derived.Test.YtpgifmccajcgkaaDoorLawD
import Derived.Test.YtpgifmccajcgkaaDoorCards
import Derived.Test.YtpgifmccajcgkaaDoorTie
import Derived.SevenTiedAt
namespace Go.Proofs.YtpgifmccajcgkaaDoor
set_option linter.unusedVariables false
set_option linter.unusedSimpArgs false
open Go.ChangeShapes Go.WideShapes Go.ChangeAt Go.RowKit Go.Joins

set_option maxRecDepth 100000 in
theorem PackedBack_lifted (os : Os) (started : os.Started) (H : Type) (enc : TypeId × Value → H) :
    ReturnsInHanded {} Tryd.checked os 10 .any (fun w args => (Rows.packedBackSpec.pre enc Tryd.prog Tryd.f10 Rows.packedBackRow.domain false w args ∧ laidMetH Tryd.prog laidL w) ∧ sizedMet enc Tryd.prog Tryd.f10 (OpenSpec.ofChange Rows.packedBackSpec) false w args) (Rows.packedBackSpec.post enc Tryd.prog Tryd.f10 false true false false) := by
  refine law_lift started (by kernel_rfl) Tryd.func10
    (ChangeSpec.witness_shaped (enc := enc) (C := Tryd.checked) (os := os) (X := fun w _ => laidMetH Tryd.prog laidL w) false (World.doorLaid Tryd.prog 400 os) #[.slice none 0 0, .string { data := #[] }] 8 rfl (World.shaped_of_RefB (by kernel_rfl) (by kernel_rfl)) (by kernel_rfl) (by kernel_rfl) (by kernel_rfl) (door_met os _)) rfl rfl (by kernel_rfl) ?_ ?_
  · intro ds hl
    match ds, hl with
    | [_, _], _ => exact ⟨rfl, rfl, rfl⟩
  · intro W base args ds p am an hS hval hA hsz
    rw [Tryd.params10] at hA hval hsz
    obtain ⟨v0, vs0, d0, ds0, p0, q0, hargs, rfl, rfl, h0, r0⟩ := trodAll_cons hA
    obtain ⟨v1, vs1, d1, ds1, p1, q1, rfl, rfl, rfl, h1, r1⟩ := trodAll_cons r0
    obtain ⟨rfl, rfl, rfl⟩ := trodAll_nil r1
    obtain rfl : args = #[v0, v1] := by cases args; simp_all
    obtain ⟨ao0, cap0, xs0, rfl, g0, b0, e0, f0, k0⟩ := open_pints Tryd.underlying42 (hval 0 42 v0 rfl rfl) h0
    obtain ⟨a1, rfl, b1⟩ := open_str Tryd.underlying9 (hval 1 9 v1 rfl rfl) h1
    exact PackedBack_walk _ ao0 cap0 xs0 rfl a1 b1 W g0 b0 e0 f0 k0 am an hS

theorem PackedBack_over : Rows.packedBackRow.holds Tryd.pinned (OpenSpec.ofChange Rows.packedBackSpec) :=
  OpenClaim.holds_of_wide 10 Tryd.f10 rfl rfl rfl rfl rfl rfl rfl ⟨rfl, rfl, rfl, rfl, rfl⟩ rfl rfl rfl rfl rfl (by kernel_rfl) Tryd.func10 (by kernel_rfl)
    (of_decide_eq_true (by kernel_rfl)) (by unfold Func.isWrapper; first | (rw [if_pos (by decide +kernel)]; kernel_rfl) | (rw [if_neg (by decide +kernel)]; exact ⟨rfl, rfl⟩))
    (fun os started H enc _ => PackedBack_lifted os started H enc)

/-- The statement: the tied card. -/
theorem PackedBack_proved : Rows.PackedBackCardSaid :=
  Claim7.holds_tied_plain_at .later [] [.sentinel, .sentinel] true (true, "fcc4ac6752b55b73a5565fdeb4390bcbe24d5ebd36b5fdb9e391db964f13c558") true
    PackedBack_over (fun _ h => by cases h) (by kernel_rfl) (fun _ h => by cases h) packedBack_row_tie rfl ⟨rfl, rfl⟩ (by kernel_rfl) rfl
    (fun f fn hf hfn => by
      obtain rfl : f = 10 := Option.some.inj ((show Tryd.prog.funcNamed "tesserae/tesseraelaw04.PackedBack" = some 10 by kernel_rfl).symm.trans hf) |>.symm
      obtain rfl : fn = Tryd.f10 := (Option.some.inj (Tryd.func10.symm.trans hfn)).symm
      exact ⟨by kernel_rfl, fun j t ht => by
        rw [Tryd.params10] at ht
        have hm : t ∈ [42, 9] := by simpa using Array.mem_of_getElem? ht
        have hall : ([42, 9].all fun u => !Tryd.prog.wantsStandIn u) = true := by kernel_rfl
        exact (show Tryd.prog.wantsStandIn t = false by simpa using List.all_eq_true.1 hall t hm)⟩)
    (by kernel_rfl)
end Go.Proofs.YtpgifmccajcgkaaDoor
