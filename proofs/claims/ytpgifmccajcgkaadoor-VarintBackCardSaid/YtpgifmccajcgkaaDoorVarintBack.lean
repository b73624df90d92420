/- VarintBack holds: numbers and varints are one to one, whatever stands behind, and so are turned numbers. The two listed variables start as the program's text lays them (the card ties them). -/
import Derived.Test.YtpgifmccajcgkaaDoorVputsW
import Derived.Test.YtpgifmccajcgkaaDoorLawD
import Derived.Test.YtpgifmccajcgkaaDoorCards
import Derived.Test.YtpgifmccajcgkaaDoorTie
import Derived.SevenTiedAt
namespace Go.Proofs.YtpgifmccajcgkaaDoor
set_option linter.unusedVariables false
set_option linter.unusedSimpArgs false
open Go.ChangeShapes Go.WideShapes Go.ChangeAt Go.RowKit Go.Joins

set_option maxRecDepth 100000 in
theorem VarintBack_lifted (os : Os) (started : os.Started) (H : Type) (enc : TypeId × Value → H) :
    ReturnsInHanded {} Tryd.checked os 5 .any (fun w args => (Rows.varintBackSpec.pre enc Tryd.prog Tryd.f5 Rows.varintBackRow.domain false w args ∧ laidMetH Tryd.prog laidL w) ∧ sizedMet enc Tryd.prog Tryd.f5 (OpenSpec.ofChange Rows.varintBackSpec) false w args) (Rows.varintBackSpec.post enc Tryd.prog Tryd.f5 false true false false) := by
  refine law_lift started (by kernel_rfl) Tryd.func5
    (ChangeSpec.witness_shaped (enc := enc) (C := Tryd.checked) (os := os) (X := fun w _ => laidMetH Tryd.prog laidL w) false (World.doorLaid Tryd.prog 400 os) #[.int .u64 0, .string { data := #[] }, .int .i64 0] 8 rfl (World.shaped_of_RefB (by kernel_rfl) (by kernel_rfl)) (by kernel_rfl) (by kernel_rfl) (by kernel_rfl) (door_met os _)) rfl rfl (by kernel_rfl) ?_ ?_
  · intro ds hl
    match ds, hl with
    | [_, _, _], _ => exact ⟨rfl, rfl, rfl⟩
  · intro W base args ds p am an hS hval hA hsz
    rw [Tryd.params5] at hA hval hsz
    obtain ⟨v0, vs0, d0, ds0, p0, q0, hargs, rfl, rfl, h0, r0⟩ := trodAll_cons hA
    obtain ⟨v1, vs1, d1, ds1, p1, q1, rfl, rfl, rfl, h1, r1⟩ := trodAll_cons r0
    obtain ⟨v2, vs2, d2, ds2, p2, q2, rfl, rfl, rfl, h2, r2⟩ := trodAll_cons r1
    obtain ⟨rfl, rfl, rfl⟩ := trodAll_nil r2
    obtain rfl : args = #[v0, v1, v2] := by cases args; simp_all
    obtain ⟨a0, rfl, b0⟩ := open_u64 Tryd.underlying22 (hval 0 22 v0 rfl rfl) h0
    obtain ⟨a1, rfl, b1⟩ := open_str Tryd.underlying9 (hval 1 9 v1 rfl rfl) h1
    obtain ⟨a2, rfl, b2⟩ := open_i64 Tryd.underlying2 (hval 2 2 v2 rfl rfl) h2
    exact VarintBack_walk a0 b0 a1 b1 a2 b2 W am an hS

theorem VarintBack_over : Rows.varintBackRow.holds Tryd.pinned (OpenSpec.ofChange Rows.varintBackSpec) :=
  OpenClaim.holds_of_wide 5 Tryd.f5 rfl rfl rfl rfl rfl rfl rfl ⟨rfl, rfl, rfl, rfl, rfl⟩ rfl rfl rfl rfl rfl (by kernel_rfl) Tryd.func5 (by kernel_rfl)
    (of_decide_eq_true (by kernel_rfl)) (by unfold Func.isWrapper; first | (rw [if_pos (by decide +kernel)]; kernel_rfl) | (rw [if_neg (by decide +kernel)]; exact ⟨rfl, rfl⟩))
    (fun os started H enc _ => VarintBack_lifted os started H enc)

/-- The statement: the tied card. -/
theorem VarintBack_proved : Rows.VarintBackCardSaid :=
  Claim7.holds_tied_plain_at .later [] [.sentinel, .sentinel] true (true, "fcc4ac6752b55b73a5565fdeb4390bcbe24d5ebd36b5fdb9e391db964f13c558") true
    VarintBack_over (fun _ h => by cases h) (by kernel_rfl) (fun _ h => by cases h) varintBack_row_tie rfl ⟨rfl, rfl⟩ (by kernel_rfl) rfl
    (fun f fn hf hfn => by
      obtain rfl : f = 5 := Option.some.inj ((show Tryd.prog.funcNamed "tesserae/tesseraelaw02.VarintBack" = some 5 by kernel_rfl).symm.trans hf) |>.symm
      obtain rfl : fn = Tryd.f5 := (Option.some.inj (Tryd.func5.symm.trans hfn)).symm
      exact ⟨by kernel_rfl, fun j t ht => by
        rw [Tryd.params5] at ht
        have hm : t ∈ [22, 9, 2] := by simpa using Array.mem_of_getElem? ht
        have hall : ([22, 9, 2].all fun u => !Tryd.prog.wantsStandIn u) = true := by kernel_rfl
        exact (show Tryd.prog.wantsStandIn t = false by simpa using List.all_eq_true.1 hall t hm)⟩)
    (by kernel_rfl)
end Go.Proofs.YtpgifmccajcgkaaDoor
