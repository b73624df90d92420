/- OrderLimits holds: a greater limit tells more lines, and the same ahead of these, for any schema, query, groups and limit. The listed variables hold what the program's text lays in them (the card ties them). -/
import Derived.Test.YtejleplhmkmegaaGreatDoorO1
import Derived.Test.YtejleplhmkmegaaGreatDoorOy
import Derived.Test.YtejleplhmkmegaaGreatDoorCards
import Derived.Test.YtejleplhmkmegaaGreatDoorTie
import Derived.SevenTiedAt
namespace Go.Proofs.YtejleplhmkmegaaGreatDoor
set_option linter.unusedVariables false
set_option linter.unusedSimpArgs false
open Go.ChangeShapes Go.WideShapes Go.ChangeAt Go.RowKit Go.Joins Go.Fl
theorem OrderLimits_walk (vd vm : Value) (ds ms : List ByteArray) (g : Int) (q : QryV) (dq : QryD) (la : Option Addr) (lc : Nat) (vs : List GrpV) (gs : List GroupD) (limit : Int) (hl : I64 limit) (w : World) (hd : StrsSl w vd ds) (hm : StrsSl w vm ms) (td : ∀ s ∈ ds, s.size ≤ 9223372036854775807) (tm : ∀ s ∈ ms, s.size ≤ 9223372036854775807) (hg : I64 g) (hq : QryIs w q dq) (ok : QryOk dq) (hk : ∀ e, KindsN e dq.wher)
    (hgs : GrpsN (fun _ => True) w (.slice la gs.length lc) vs gs) (hgl : gs.length ≤ 9223372036854775807) (hgo : ∀ d ∈ gs, GrpOk d ∧ ∀ v ∈ d.key, v.s.size ≤ 9223372036854775807) (am an : Addr) (hTab : Tabs w) (hS : SentF am an w) (hT : TypeR w) :
    Calls Tryz.prog 5 #[.agg #[vd, vm, .int .i64 g], .agg q.cells, .slice la gs.length lc, .int .i64 limit] w fun e w' => e = .returned (.bool true) ∧ Below w.heap.size w w' :=
  OrderLimits_core q dq vd vm ds ms g la lc vs gs limit w am an hd hm td tm hq ok hk hgs hgl hgo hl hTab hS hT
set_option maxRecDepth 100000 in
theorem OrderLimits_lifted (os : Os) (started : os.Started) (H : Type) (enc : TypeId × Value → H) :
    ReturnsInHanded {} Tryz.checked os 5 .any (fun w args => (Rows.orderLimitsSpec.pre enc Tryz.prog Tryz.f5 Rows.orderLimitsRow.domain false w args ∧ laidMetH Tryz.prog laidL w) ∧ sizedMet enc Tryz.prog Tryz.f5 (OpenSpec.ofChange Rows.orderLimitsSpec) false w args) (Rows.orderLimitsSpec.post enc Tryz.prog Tryz.f5 false true false false) := by
  refine law_lift started (by kernel_rfl) Tryz.func5
    (ChangeSpec.witness_shaped (enc := enc) (C := Tryz.checked) (os := os) (X := fun w _ => laidMetH Tryz.prog laidL w) false (World.doorLaid Tryz.prog 400 os) #[.agg #[.slice none 0 0, .slice none 0 0, .int .i64 0], .agg #[.slice none 0 0, .slice none 0 0, .int .i64 0, .slice none 0 0, .int .i64 0, .int .i64 0, .string { data := #[] }, .slice none 0 0, .int .i64 0, .int .i64 0, .slice none 0 0, .slice none 0 0, .slice none 0 0, .int .i64 0], .slice none 0 0, .int .i64 0] 8 rfl (World.shaped_of_RefB (by kernel_rfl) (by kernel_rfl)) (by kernel_rfl) (by kernel_rfl) (by kernel_rfl) (door_met os _)) rfl rfl (by kernel_rfl) ?_ ?_
  · intro ds hl
    match ds, hl with
    | [_, _, _, _], _ => exact ⟨rfl, rfl, rfl⟩
  · intro W base args ds p am an hTab hS hT hval hA hsz
    rw [Tryz.params5] at hA hval hsz
    obtain ⟨v0, vs0, d0, ds0, p0, q0, hargs, rfl, rfl, h0, r0⟩ := trodAll_cons hA
    obtain ⟨v1, vs1, d1, ds1, p1, q1, rfl, rfl, rfl, h1, r1⟩ := trodAll_cons r0
    obtain ⟨v2, vs2, d2, ds2, p2, q2, rfl, rfl, rfl, h2, r2⟩ := trodAll_cons r1
    obtain ⟨v3, vs3, d3, ds3, p3, q3, rfl, rfl, rfl, h3, r3⟩ := trodAll_cons r2
    obtain ⟨rfl, rfl, rfl⟩ := trodAll_nil r3
    obtain rfl : args = #[v0, v1, v2, v3] := by cases args; simp_all
    obtain ⟨va0, vb0, x0, y0, z0, rfl, b0, e0, f0, g0, k0⟩ := open_sch (hval 0 45 v0 rfl rfl) h0
    obtain ⟨a1, c1, rfl, b1, e1, f1⟩ := open_query2 (hval 1 33 v1 rfl rfl) h1
    obtain ⟨la2, lc2, vs2', gs2, rfl, b2, e2, f2⟩ := open_grpsT Tryz.underlying46 (hval 2 46 v2 rfl rfl) h2
    obtain ⟨a3, rfl, b3⟩ := open_i64 Tryz.underlying3 (hval 3 3 v3 rfl rfl) h3
    exact OrderLimits_walk _ _ _ _ _ a1 c1 la2 lc2 vs2' gs2 a3 b3 W b0 e0 f0 g0 k0 b1 e1 f1 b2 e2 f2 am an hTab hS hT

theorem OrderLimits_over : Rows.orderLimitsRow.holds Tryz.pinned (OpenSpec.ofChange Rows.orderLimitsSpec) :=
  OpenClaim.holds_of_wide 5 Tryz.f5 rfl rfl rfl rfl rfl rfl rfl ⟨rfl, rfl, rfl, rfl, rfl⟩ rfl rfl rfl rfl rfl (by kernel_rfl) Tryz.func5 (by kernel_rfl)
    (of_decide_eq_true (by kernel_rfl)) (by unfold Func.isWrapper; first | (rw [if_pos (by decide +kernel)]; kernel_rfl) | (rw [if_neg (by decide +kernel)]; exact ⟨rfl, rfl⟩))
    (fun os started H enc _ => OrderLimits_lifted os started H enc)

/-- The statement: the tied card. -/
theorem OrderLimits_proved : Rows.OrderLimitsCardSaid :=
  Claim7.holds_tied_plain_at .later [] [.data, .data, .data, .handle, .sentinel, .sentinel] true (true, "5d782815e7fdddf95676eb5b4e2dd427eaca8bbaa8f93fbe6197e7f81362b465") true
    OrderLimits_over (fun _ h => by cases h) (by kernel_rfl) (fun _ h => by cases h) orderLimits_row_tie rfl ⟨rfl, rfl⟩ (by kernel_rfl) rfl
    (fun f fn hf hfn => by
      obtain rfl : f = 5 := Option.some.inj ((show Tryz.prog.funcNamed "tesserae/tesseraelaw18.OrderLimits" = some 5 by kernel_rfl).symm.trans hf) |>.symm
      obtain rfl : fn = Tryz.f5 := (Option.some.inj (Tryz.func5.symm.trans hfn)).symm
      exact ⟨by kernel_rfl, fun j t ht => by
        rw [Tryz.params5] at ht
        have hm : t ∈ [45, 33, 46, 3] := by simpa using Array.mem_of_getElem? ht
        have hall : ([45, 33, 46, 3].all fun u => !Tryz.prog.wantsStandIn u) = true := by kernel_rfl
        exact (show Tryz.prog.wantsStandIn t = false by simpa using List.all_eq_true.1 hall t hm)⟩)
    (by kernel_rfl)
end Go.Proofs.YtejleplhmkmegaaGreatDoor
