/- OrderOne holds: no line is ahead of itself, of two one at most is ahead, and what is ahead of what is ahead of a third is ahead of it, for any query and any three lines. The listed tables hold what the program's text lays in them (the card ties them). -/
import Derived.Test.YtejleplhmkmegaaGreatDoorOq
import Derived.Test.YtejleplhmkmegaaGreatDoorCards
import Derived.Test.YtejleplhmkmegaaGreatDoorTie
import Derived.SevenTiedAt
namespace Go.Proofs.YtejleplhmkmegaaGreatDoor
set_option linter.unusedVariables false
set_option linter.unusedSimpArgs false
open Go.ChangeShapes Go.WideShapes Go.ChangeAt Go.RowKit Go.Joins Go.Fl
theorem OrderOne_walk (q : QryV) (d : QryD) (va : LnV) (la : LineD) (vb : LnV) (lb : LineD) (vc : LnV) (lc : LineD) (w : World) (hq : QryIs w q d) (ok : QryOk d)
    (ha : LnIs w va la) (sa : ∀ x ∈ la.key, x.s.size ≤ 9223372036854775807) (hb : LnIs w vb lb) (sb : ∀ x ∈ lb.key, x.s.size ≤ 9223372036854775807) (hc : LnIs w vc lc) (sc : ∀ x ∈ lc.key, x.s.size ≤ 9223372036854775807) (hT : Tabs w) :
    Calls Tryz.prog 3 #[.agg q.cells, .agg va.cells, .agg vb.cells, .agg vc.cells] w fun e w' => e = .returned (.bool true) ∧ Below w.heap.size w w' :=
  OrderOne_core q d va vb vc la lb lc w hT hq ok ha hb hc sa sb sc
set_option maxRecDepth 100000 in
theorem OrderOne_lifted (os : Os) (started : os.Started) (H : Type) (enc : TypeId × Value → H) :
    ReturnsInHanded {} Tryz.checked os 3 .any (fun w args => (Rows.orderOneSpec.pre enc Tryz.prog Tryz.f3 Rows.orderOneRow.domain false w args ∧ laidMetH Tryz.prog laidL w) ∧ sizedMet enc Tryz.prog Tryz.f3 (OpenSpec.ofChange Rows.orderOneSpec) false w args) (Rows.orderOneSpec.post enc Tryz.prog Tryz.f3 false true false false) := by
  refine law_lift started (by kernel_rfl) Tryz.func3
    (ChangeSpec.witness_shaped (enc := enc) (C := Tryz.checked) (os := os) (X := fun w _ => laidMetH Tryz.prog laidL w) false (World.doorLaid Tryz.prog 400 os) #[.agg #[.slice none 0 0, .slice none 0 0, .int .i64 0, .slice none 0 0, .int .i64 0, .int .i64 0, .string { data := #[] }, .slice none 0 0, .int .i64 0, .int .i64 0, .slice none 0 0, .slice none 0 0, .slice none 0 0, .int .i64 0], .agg #[.int .i64 0, .int .i64 0, .slice none 0 0, .slice none 0 0], .agg #[.int .i64 0, .int .i64 0, .slice none 0 0, .slice none 0 0], .agg #[.int .i64 0, .int .i64 0, .slice none 0 0, .slice none 0 0]] 8 rfl (World.shaped_of_RefB (by kernel_rfl) (by kernel_rfl)) (by kernel_rfl) (by kernel_rfl) (by kernel_rfl) (door_met os _)) rfl rfl (by kernel_rfl) ?_ ?_
  · intro ds hl
    match ds, hl with
    | [_, _, _, _], _ => exact ⟨rfl, rfl, rfl⟩
  · intro W base args ds p hS hval hA hsz
    rw [Tryz.params3] at hA hval hsz
    obtain ⟨v0, vs0, d0, ds0, p0, q0, hargs, rfl, rfl, h0, r0⟩ := trodAll_cons hA
    obtain ⟨v1, vs1, d1, ds1, p1, q1, rfl, rfl, rfl, h1, r1⟩ := trodAll_cons r0
    obtain ⟨v2, vs2, d2, ds2, p2, q2, rfl, rfl, rfl, h2, r2⟩ := trodAll_cons r1
    obtain ⟨v3, vs3, d3, ds3, p3, q3, rfl, rfl, rfl, h3, r3⟩ := trodAll_cons r2
    obtain ⟨rfl, rfl, rfl⟩ := trodAll_nil r3
    obtain rfl : args = #[v0, v1, v2, v3] := by cases args; simp_all
    obtain ⟨a0, c0, rfl, b0, e0⟩ := open_query (hval 0 33 v0 rfl rfl) h0
    obtain ⟨a1, c1, rfl, b1, e1⟩ := open_ln (hval 1 37 v1 rfl rfl) h1
    obtain ⟨a2, c2, rfl, b2, e2⟩ := open_ln (hval 2 37 v2 rfl rfl) h2
    obtain ⟨a3, c3, rfl, b3, e3⟩ := open_ln (hval 3 37 v3 rfl rfl) h3
    exact OrderOne_walk a0 c0 a1 c1 a2 c2 a3 c3 W b0 e0 b1 e1 b2 e2 b3 e3 hS

theorem OrderOne_over : Rows.orderOneRow.holds Tryz.pinned (OpenSpec.ofChange Rows.orderOneSpec) :=
  OpenClaim.holds_of_wide 3 Tryz.f3 rfl rfl rfl rfl rfl rfl rfl ⟨rfl, rfl, rfl, rfl, rfl⟩ rfl rfl rfl rfl rfl (by kernel_rfl) Tryz.func3 (by kernel_rfl)
    (of_decide_eq_true (by kernel_rfl)) (by unfold Func.isWrapper; first | (rw [if_pos (by decide +kernel)]; kernel_rfl) | (rw [if_neg (by decide +kernel)]; exact ⟨rfl, rfl⟩))
    (fun os started H enc _ => OrderOne_lifted os started H enc)

/-- The statement: the tied card. -/
theorem OrderOne_proved : Rows.OrderOneCardSaid :=
  Claim7.holds_tied_plain_at .later [] [.data, .data, .data] true (true, "5d782815e7fdddf95676eb5b4e2dd427eaca8bbaa8f93fbe6197e7f81362b465") true
    OrderOne_over (fun _ h => by cases h) (by kernel_rfl) (fun _ h => by cases h) orderOne_row_tie rfl ⟨rfl, rfl⟩ (by kernel_rfl) rfl
    (fun f fn hf hfn => by
      obtain rfl : f = 3 := Option.some.inj ((show Tryz.prog.funcNamed "tesserae/tesseraelaw18.OrderOne" = some 3 by kernel_rfl).symm.trans hf) |>.symm
      obtain rfl : fn = Tryz.f3 := (Option.some.inj (Tryz.func3.symm.trans hfn)).symm
      exact ⟨by kernel_rfl, fun j t ht => by
        rw [Tryz.params3] at ht
        have hm : t ∈ [33, 37, 37, 37] := by simpa using Array.mem_of_getElem? ht
        have hall : ([33, 37, 37, 37].all fun u => !Tryz.prog.wantsStandIn u) = true := by kernel_rfl
        exact (show Tryz.prog.wantsStandIn t = false by simpa using List.all_eq_true.1 hall t hm)⟩)
    (by kernel_rfl)
end Go.Proofs.YtejleplhmkmegaaGreatDoor
