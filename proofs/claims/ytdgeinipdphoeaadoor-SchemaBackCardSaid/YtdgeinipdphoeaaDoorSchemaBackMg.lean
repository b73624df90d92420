/- SchemaBack holds: rows and their bytes are one to one, whatever stands behind. The three listed variables start as the program's text lays them (the card ties them). -/
import Derived.Test.YtdgeinipdphoeaaDoorHk
import Derived.Test.YtdgeinipdphoeaaDoorHd
import Derived.Test.YtdgeinipdphoeaaDoorCards
import Derived.Test.YtdgeinipdphoeaaDoorTie
import Derived.SevenTiedAt
namespace Go.Proofs.YtdgeinipdphoeaaDoor
set_option linter.unusedVariables false
set_option linter.unusedSimpArgs false
open Go.ChangeShapes Go.WideShapes Go.ChangeAt Go.RowKit Go.Joins

theorem SchemaBack_walk (vd vm : Value) (ds ms : List ByteArray) (g : Int) (vr vn : Value) (t : Int) (l : List ValD) (xs : List Int) (s : ByteArray) (hs : s.size ≤ 9223372036854775807) (w : World)
    (hd : StrsSl w vd ds) (hm : StrsSl w vm ms) (td : ∀ s ∈ ds, s.size ≤ 9223372036854775807) (tm : ∀ s ∈ ms, s.size ≤ 9223372036854775807) (hg : I64 g)
    (hr : ValsSl w vr l) (hn : IntsSl w vn xs) (tl : ∀ v ∈ l, v.s.size ≤ 9223372036854775807) (tx : ∀ n ∈ xs, I64 n) (ht : I64 t) (am an : Addr) (hsent : Sent am an w) (hty : TypeG w) :
    Calls Tryd.prog 4 #[.agg #[vd, vm, .int .i64 g], .agg #[.int .i64 t, vr, vn], .string s] w fun e w' => e = .returned (.bool true) ∧ Below w.heap.size w w' :=
  SchemaBack_core vd vm ds ms g vr vn t l xs s hs w hd hm td tm hg hr hn tl tx ht am an hsent hty
set_option maxRecDepth 100000 in
theorem SchemaBack_lifted (os : Os) (started : os.Started) (H : Type) (enc : TypeId × Value → H) :
    ReturnsInHanded {} Tryd.checked os 4 .any (fun w args => (Rows.schemaBackSpec.pre enc Tryd.prog Tryd.f4 Rows.schemaBackRow.domain false w args ∧ laidMetH Tryd.prog laidL w) ∧ sizedMet enc Tryd.prog Tryd.f4 (OpenSpec.ofChange Rows.schemaBackSpec) false w args) (Rows.schemaBackSpec.post enc Tryd.prog Tryd.f4 false true false false) := by
  refine law_lift started (by kernel_rfl) Tryd.func4
    (ChangeSpec.witness_shaped (enc := enc) (C := Tryd.checked) (os := os) (X := fun w _ => laidMetH Tryd.prog laidL w) false (World.doorLaid Tryd.prog 400 os) #[.agg #[.slice none 0 0, .slice none 0 0, .int .i64 0], .agg #[.int .i64 0, .slice none 0 0, .slice none 0 0], .string { data := #[] }] 8 rfl (World.shaped_of_RefB (by kernel_rfl) (by kernel_rfl)) (by kernel_rfl) (by kernel_rfl) (by kernel_rfl) (door_met os _)) rfl rfl (by kernel_rfl) ?_ ?_
  · intro ds hl
    match ds, hl with
    | [_, _, _], _ => exact ⟨rfl, rfl, rfl⟩
  · intro W base args ds p am an hS hT hval hA hsz
    rw [Tryd.params4] at hA hval hsz
    obtain ⟨v0, vs0, d0, ds0, p0, q0, hargs, rfl, rfl, h0, r0⟩ := trodAll_cons hA
    obtain ⟨v1, vs1, d1, ds1, p1, q1, rfl, rfl, rfl, h1, r1⟩ := trodAll_cons r0
    obtain ⟨v2, vs2, d2, ds2, p2, q2, rfl, rfl, rfl, h2, r2⟩ := trodAll_cons r1
    obtain ⟨rfl, rfl, rfl⟩ := trodAll_nil r2
    obtain rfl : args = #[v0, v1, v2] := by cases args; simp_all
    obtain ⟨va0, vb0, x0, y0, z0, rfl, b0, e0, f0, g0, k0⟩ := open_sch (hval 0 24 v0 rfl rfl) h0
    obtain ⟨va1, vb1, z1, x1, y1, rfl, b1, e1, f1, g1, k1⟩ := open_row (hval 1 28 v1 rfl rfl) h1
    obtain ⟨a2, rfl, b2⟩ := open_str Tryd.underlying9 (hval 2 9 v2 rfl rfl) h2
    exact SchemaBack_walk _ _ _ _ _ _ _ _ _ _ a2 b2 W b0 e0 f0 g0 k0 b1 e1 f1 g1 k1 am an hS hT

theorem SchemaBack_over : Rows.schemaBackRow.holds Tryd.pinned (OpenSpec.ofChange Rows.schemaBackSpec) :=
  OpenClaim.holds_of_wide 4 Tryd.f4 rfl rfl rfl rfl rfl rfl rfl ⟨rfl, rfl, rfl, rfl, rfl⟩ rfl rfl rfl rfl rfl (by kernel_rfl) Tryd.func4 (by kernel_rfl)
    (of_decide_eq_true (by kernel_rfl)) (by unfold Func.isWrapper; first | (rw [if_pos (by decide +kernel)]; kernel_rfl) | (rw [if_neg (by decide +kernel)]; exact ⟨rfl, rfl⟩))
    (fun os started H enc _ => SchemaBack_lifted os started H enc)

/-- The statement: the tied card. -/
theorem SchemaBack_proved : Rows.SchemaBackCardSaid :=
  Claim7.holds_tied_plain_at .later [] [.handle, .sentinel, .sentinel] true (true, "659a1eeb9906eb86536ba3e759d2c34deefcd11c5dd0f326077c70c5aa5fa7de") true
    SchemaBack_over (fun _ h => by cases h) (by kernel_rfl) (fun _ h => by cases h) schemaBack_row_tie rfl ⟨rfl, rfl⟩ (by kernel_rfl) rfl
    (fun f fn hf hfn => by
      obtain rfl : f = 4 := Option.some.inj ((show Tryd.prog.funcNamed "tesserae/tesseraelaw10.SchemaBack" = some 4 by kernel_rfl).symm.trans hf) |>.symm
      obtain rfl : fn = Tryd.f4 := (Option.some.inj (Tryd.func4.symm.trans hfn)).symm
      exact ⟨by kernel_rfl, fun j t ht => by
        rw [Tryd.params4] at ht
        have hm : t ∈ [24, 28, 9] := by simpa using Array.mem_of_getElem? ht
        have hall : ([24, 28, 9].all fun u => !Tryd.prog.wantsStandIn u) = true := by kernel_rfl
        exact (show Tryd.prog.wantsStandIn t = false by simpa using List.all_eq_true.1 hall t hm)⟩)
    (by kernel_rfl)
end Go.Proofs.YtdgeinipdphoeaaDoor
