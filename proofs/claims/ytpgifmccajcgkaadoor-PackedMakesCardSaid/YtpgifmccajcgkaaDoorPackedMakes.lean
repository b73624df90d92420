/- PackedMakes holds: widths, bytes, and lists of bytes, their numbers. The two listed variables start as the program's text lays them (the card ties them). -/
import Derived.Test.YtpgifmccajcgkaaDoorPmakesW
import Derived.Test.YtpgifmccajcgkaaDoorLawD
import Derived.Test.YtpgifmccajcgkaaDoorCards
import Derived.Test.YtpgifmccajcgkaaDoorTie
import Derived.SevenTiedAt
namespace Go.Proofs.YtpgifmccajcgkaaDoor
set_option linter.unusedVariables false
set_option linter.unusedSimpArgs false
open Go.ChangeShapes Go.WideShapes Go.ChangeAt Go.RowKit Go.Joins

set_option maxRecDepth 100000 in
theorem PackedMakes_lifted (os : Os) (started : os.Started) (H : Type) (enc : TypeId × Value → H) :
    ReturnsInHanded {} Tryd.checked os 8 .any (fun w args => (Rows.packedMakesSpec.pre enc Tryd.prog Tryd.f8 Rows.packedMakesRow.domain false w args ∧ laidMetH Tryd.prog laidL w) ∧ sizedMet enc Tryd.prog Tryd.f8 (OpenSpec.ofChange Rows.packedMakesSpec) false w args) (Rows.packedMakesSpec.post enc Tryd.prog Tryd.f8 false true false false) := by
  refine law_lift started (by kernel_rfl) Tryd.func8
    (ChangeSpec.witness_shaped (enc := enc) (C := Tryd.checked) (os := os) (X := fun w _ => laidMetH Tryd.prog laidL w) false (World.doorLaid Tryd.prog 400 os) #[.slice none 0 0, .string { data := #[] }, .int .i64 0] 8 rfl (World.shaped_of_RefB (by kernel_rfl) (by kernel_rfl)) (by kernel_rfl) (by kernel_rfl) (by kernel_rfl) (door_met os _)) rfl rfl (by kernel_rfl) ?_ ?_
  · intro ds hl
    match ds, hl with
    | [_, _, _], _ => exact ⟨rfl, rfl, rfl⟩
  · intro W base args ds p am an hS hval hA hsz
    rw [Tryd.params8] at hA hval hsz
    obtain ⟨v0, vs0, d0, ds0, p0, q0, hargs, rfl, rfl, h0, r0⟩ := trodAll_cons hA
    obtain ⟨v1, vs1, d1, ds1, p1, q1, rfl, rfl, rfl, h1, r1⟩ := trodAll_cons r0
    obtain ⟨v2, vs2, d2, ds2, p2, q2, rfl, rfl, rfl, h2, r2⟩ := trodAll_cons r1
    obtain ⟨rfl, rfl, rfl⟩ := trodAll_nil r2
    obtain rfl : args = #[v0, v1, v2] := by cases args; simp_all
    obtain ⟨ao0, cap0, xs0, rfl, g0, b0, e0, f0, k0⟩ := open_pints Tryd.underlying42 (hval 0 42 v0 rfl rfl) h0
    obtain ⟨a1, rfl, b1⟩ := open_str Tryd.underlying9 (hval 1 9 v1 rfl rfl) h1
    obtain ⟨a2, rfl, b2⟩ := open_i64 Tryd.underlying3 (hval 2 3 v2 rfl rfl) h2
    exact PackedMakes_walk _ ao0 cap0 xs0 rfl a1 b1 a2 b2 W g0 b0 e0 f0 k0 am an hS

theorem PackedMakes_over : Rows.packedMakesRow.holds Tryd.pinned (OpenSpec.ofChange Rows.packedMakesSpec) :=
  OpenClaim.holds_of_wide 8 Tryd.f8 rfl rfl rfl rfl rfl rfl rfl ⟨rfl, rfl, rfl, rfl, rfl⟩ rfl rfl rfl rfl rfl (by kernel_rfl) Tryd.func8 (by kernel_rfl)
    (of_decide_eq_true (by kernel_rfl)) (by unfold Func.isWrapper; first | (rw [if_pos (by decide +kernel)]; kernel_rfl) | (rw [if_neg (by decide +kernel)]; exact ⟨rfl, rfl⟩))
    (fun os started H enc _ => PackedMakes_lifted os started H enc)

/-- The statement: the tied card. -/
theorem PackedMakes_proved : Rows.PackedMakesCardSaid :=
  Claim7.holds_tied_plain_at .later [] [.sentinel, .sentinel] true (true, "fcc4ac6752b55b73a5565fdeb4390bcbe24d5ebd36b5fdb9e391db964f13c558") true
    PackedMakes_over (fun _ h => by cases h) (by kernel_rfl) (fun _ h => by cases h) packedMakes_row_tie rfl ⟨rfl, rfl⟩ (by kernel_rfl) rfl
    (fun f fn hf hfn => by
      obtain rfl : f = 8 := Option.some.inj ((show Tryd.prog.funcNamed "tesserae/tesseraelaw04.PackedMakes" = some 8 by kernel_rfl).symm.trans hf) |>.symm
      obtain rfl : fn = Tryd.f8 := (Option.some.inj (Tryd.func8.symm.trans hfn)).symm
      exact ⟨by kernel_rfl, fun j t ht => by
        rw [Tryd.params8] at ht
        have hm : t ∈ [42, 9, 3] := by simpa using Array.mem_of_getElem? ht
        have hall : ([42, 9, 3].all fun u => !Tryd.prog.wantsStandIn u) = true := by kernel_rfl
        exact (show Tryd.prog.wantsStandIn t = false by simpa using List.all_eq_true.1 hall t hm)⟩)
    (by kernel_rfl)
end Go.Proofs.YtpgifmccajcgkaaDoor
