/- Texts joined: OtX, LawG. -/
import Derived.Test.YtejleplhmkmegaaGreatDoorOt
import Derived.Test.YtejleplhmkmegaaGreatDoorOa
import Derived.SizedLaws
import Derived.Lib.SmallJoins
import Derived.Test.YtejleplhmkmegaaGreatDoorOe
import Derived.Lib.LaidTab
import Derived.MakeChecks
import Derived.ProofKit
import Derived.LaidMore
import Derived.OpenShut
import Derived.Stop.Joined
import Derived.Stop.LaidErr
import Derived.Stop.LaidTwo
import Derived.LaidHandle
import Derived.Test.YtejleplhmkmegaaGreatDoorRows
import Derived.Test.YtejleplhmkmegaaGreatDoorOo
import Derived.Test.YtejleplhmkmegaaGreatDoorOp
set_option linter.unusedVariables false
set_option linter.unusedSimpArgs false
namespace Go.Proofs.YtejleplhmkmegaaGreatDoor
set_option linter.unusedVariables false
set_option linter.unusedSimpArgs false
set_option maxRecDepth 100000
open Go.ChangeShapes Go.WideShapes Go.ChangeAt Go.RowKit Go.Joins Go.Deep Go.Fl
section
variable {H : Type} {enc : TypeId × Value → H} {W : World} {base : Nat}
theorem open_grpsT {t : TypeId} (ht : Tryz.prog.underlying t = some (.slice 79)) {v : Value} {d : DataW H} {p : List MemPlace} (hv : Value.okWide Tryz.prog W .any base t v) (h : DataW.Trod enc Tryz.prog W 0 (fun _ => true) true t v d p) :
    ∃ la lc vs gs, v = .slice la gs.length lc ∧ GrpsN (fun _ => True) W (.slice la gs.length lc) vs gs ∧ gs.length ≤ 9223372036854775807 ∧ ∀ d ∈ gs, GrpOk d ∧ ∀ v ∈ d.key, v.s.size ≤ 9223372036854775807 := by
  obtain ⟨a0, len, cap, rfl⟩ := okWide_slice ht hv
  obtain ⟨fuel, hf⟩ := h
  exact open_groups ht hf
theorem open_condT {v : Value} {d : DataW H} {p : List MemPlace} (hv : Value.okWide Tryz.prog W .any base 57 v) (h : DataW.Trod enc Tryz.prog W 0 (fun _ => true) true 57 v d p) :
    ∃ c : CondD, v = .agg #[.int .i64 c.pos, .int .i64 c.op, .int .i64 c.n] ∧ I64 c.pos ∧ I64 c.op ∧ I64 c.n := by
  obtain ⟨v0, v1, v2, y0, y1, y2, m, rfl, _, _, h0, h1, h2⟩ := open_agg3 (P := Tryz.prog) Tryz.underlying57 (by kernel_rfl) (by kernel_rfl) hv h
  obtain ⟨a, e0, _, p0⟩ := DataW.trod_int Tryz.underlying3 h0
  obtain ⟨b, e1, _, p1⟩ := DataW.trod_int Tryz.underlying3 h1
  obtain ⟨c, e2, _, p2⟩ := DataW.trod_int Tryz.underlying2 h2
  simp at e0 e1 e2
  subst e0 e1 e2
  exact ⟨⟨a, b, c⟩, rfl, i64_of_wf p0, i64_of_wf p1, i64_of_wf p2⟩
end
end Go.Proofs.YtejleplhmkmegaaGreatDoor
namespace Go.Proofs.YtejleplhmkmegaaGreatDoor
set_option linter.unusedVariables false
set_option linter.unusedSimpArgs false
open Go.ChangeShapes Go.WideShapes Go.ChangeAt Go.RowKit Go.Joins
theorem ownK : ownKnob Tryz.prog.godebug = none := by kernel_rfl
theorem laidOutK : laidOutB Tryz.prog = true := by kernel_rfl
theorem trodAll_stays {H : Type} {enc : TypeId × Value → H} {P : Program} {W W' : World} (hl : laidOutB P = true) (sp : Nat → Bool) : ∀ (ts : List TypeId) (vs : List Value) (ds : List (DataW H)) (ps : List MemPlace),
    ts.all (fun t => P.readableRec t && decide (t < P.types.size)) = true → DataW.TrodAll enc P W 0 (fun _ => true) true ts vs ds ps → (∀ p ∈ ps, W.sameAt W' p) → (∀ p ∈ ps, sp p.block = true) → DataW.TrodAll enc P W' 0 sp true ts vs ds ps
  | [], [], [], _, _, h, _, _ => h
  | t :: ts, v :: vs, d :: ds, ps, hr, h, hsame, hsp => by
    obtain ⟨p, q, h1, h2, rfl⟩ := h
    simp only [List.all_cons, Bool.and_eq_true, decide_eq_true_eq] at hr
    exact ⟨p, q, WideElems.Trod_stays hl hr.1.1 hr.1.2 h1 (fun x hx => hsame x (by simp [hx])) (fun x hx => hsp x (by simp [hx])), trodAll_stays hl sp ts vs ds q hr.2 h2 (fun x hx => hsame x (by simp [hx])) (fun x hx => hsp x (by simp [hx])), rfl⟩
  | [], [], _ :: _, _, _, h, _, _ => h.elim
  | [], _ :: _, _, _, _, h, _, _ => h.elim
  | _ :: _, [], _, _, _, h, _, _ => h.elim
  | _ :: _, _ :: _, [], _, _, h, _, _ => h.elim
/-- What the row asks behind the call, of a law that has returned true and made new blocks alone. -/
theorem law_post {H : Type} {enc : TypeId × Value → H} {fn : Func} {s : ChangeSpec} {W W' : World} {args : Array Value} {ds gs : List (DataW H)} {before : List MemPlace} {apart : Bool}
    (hv : s.vars = []) (hres : fn.resultTypes = #[4]) (hread : fn.params.toList.all (fun t => Tryz.prog.readableRec t && decide (t < Tryz.prog.types.size)) = true)
    (hW : DataW.Whole enc Tryz.prog fn.params.toList s.vars apart W args.toList ds gs before)
    (hs1 : (s.fn H (ds ++ gs)).results = [.lit (.bool true)]) (hs2 : (s.fn H (ds ++ gs)).args = ds) (hs3 : (s.fn H (ds ++ gs)).vars = []) (hb : Below W.heap.size W W') :
    s.post enc Tryz.prog fn apart true false false W args (.bool true) W' := by
  have hlt : ∀ p ∈ before, p.block < W.heap.size := fun p hp => hW.lt p hp
  have hW' := hW
  obtain ⟨p, q, hA, hV, rfl, _, _⟩ := hW
  rw [hv] at hV
  have hq : q = [] := by cases gs with
    | nil => exact hV
    | cons _ _ => exact hV.elim
  subst hq
  refine ⟨ds, gs, _, [], p ++ [], [], hW', ?_, ?_, ?_, hb.frame _, fun h => by cases h⟩
  · rw [hres, hs1]
    exact trodAll_cons_mk (shut_bool Tryz.underlying4 true) trodAll_mk0
  · rw [hs2, List.append_nil]
    exact trodAll_stays laidOutK _ _ _ _ _ hread hA (fun x hx => hb.same (hlt x (by simp [hx]))) (fun x hx => by simpa using hlt x (by simp [hx]))
  · rw [hv, hs3]; rfl
abbrev laidL : List (String × DataW Unit) := [("math/bits.deBruijn32tab", Rows.laid_math_bits_deBruijn32tab), ("math/bits.deBruijn64tab", Rows.laid_math_bits_deBruijn64tab), ("internal/strconv.uint64pow10", Rows.laid_internal_strconv_uint64pow10), ("errors.errorType", Rows.laid_errors_errorType), ("tesserae/filter.errNone", Rows.laid_tesserae_filter_errNone), ("tesserae/filter.errGrain", Rows.laid_tesserae_filter_errGrain)]
theorem gTz : Tryz.prog.globalNamed "math/bits.deBruijn64tab" = some 1 := by kernel_rfl
theorem lay64 : (Rows.laid_math_bits_deBruijn64tab : DataW Unit) = Lib.tabData .u8 (Lib.deBruijn64tab.map fun (n : Nat) => (n : Int)) := by rfl
theorem layPow : (Rows.laid_internal_strconv_uint64pow10 : DataW Unit) = Lib.tabData .u64 Lib.pow10Tab := by rfl
theorem gFNone : Tryz.prog.globalNamed "tesserae/filter.errNone" = some 2 := by kernel_rfl
theorem gFGrain : Tryz.prog.globalNamed "tesserae/filter.errGrain" = some 3 := by kernel_rfl
theorem gType : Tryz.prog.globalNamed "errors.errorType" = some 4 := by kernel_rfl
theorem tFNone : (Tryz.prog.globals[2]?).map (·.type) = some 118 := by kernel_rfl
theorem tFGrain : (Tryz.prog.globals[3]?).map (·.type) = some 118 := by kernel_rfl
theorem cellsE : Tryz.prog.cellsOf 307 = 1 := by kernel_rfl
theorem cellsS : Tryz.prog.cellsOf 9 = 1 := by kernel_rfl
theorem starE : "*" ++ "errors.errorString" = "*errors.errorString" := by decide
theorem rowE' (u : TypeId) (h : Tryz.prog.typeName? 3 u = some "*errors.errorString") : u = 288 :=
  typeName_ptr_named (nm := "errors.errorString") (by rw [starE]; kernel_rfl) (by kernel_rfl) (by decide) u (by rw [starE]; exact h)
theorem tRt : (Tryz.prog.cutTypes.find? (·.1 == "internal/reflectlite.rtype")).map (·.2) = some 265 := by kernel_rfl
theorem tOne : ((List.range 319).filter fun t => Tryz.prog.rowNamed t [101, 114, 114, 111, 114]) = [118] := by kernel_rfl
theorem tSize : Tryz.prog.types.size = 319 := by kernel_rfl
/-- The door's own heap meets the condition. -/
theorem door_met (os : Os) (args : Array Value) : laidMetH Tryz.prog laidL ((World.doorLaid Tryz.prog 400 os).forCall (fun _ _ => 0) ⟨#[], args, []⟩).memory :=
  laidMetH_of_parts3 (fuel := 8) (laidMet_of_run' 8 (by kernel_rfl) (by kernel_rfl)) (by kernel_rfl) (by kernel_rfl)
/-- What the condition gives the walks. -/
theorem six_of_laid {W : World} (h0 : laidMetH Tryz.prog laidL W) : Tabs W ∧ (∃ am an, SentF am an W) ∧ TypeR W := by
  have h' : laidMet Tryz.prog [("math/bits.deBruijn32tab", Rows.laid_math_bits_deBruijn32tab), ("math/bits.deBruijn64tab", Rows.laid_math_bits_deBruijn64tab), ("internal/strconv.uint64pow10", Rows.laid_internal_strconv_uint64pow10), ("tesserae/filter.errNone", Rows.laid_tesserae_filter_errNone), ("tesserae/filter.errGrain", Rows.laid_tesserae_filter_errGrain)] W ∧ handlesMet Tryz.prog [("errors.errorType", Rows.laid_errors_errorType)] W := h0
  obtain ⟨h, hh⟩ := h'
  refine ⟨?_, ?_, ?_⟩
  · have h2 := h.tail
    have h3 := h2.tail
    rw [lay64] at h2
    rw [layPow] at h3
    have t1 := Lib.tabIs_of_head gTz (by kernel_rfl) Tryz.underlying203 Tryz.underlying5 (by kernel_rfl) (by kernel_rfl) h2
    have t2 := Lib.tabIs_of_head gPow (by kernel_rfl) Tryz.underlying232 Tryz.underlying95 (by kernel_rfl) (by kernel_rfl) h3
    have c : TabAt 1 Lib.deBruijn64tab W := fun j hj => by
      have := t1.cell gTz j (by simpa using hj)
      rw [this]
      have e : (Lib.deBruijn64tab.map fun (n : Nat) => (n : Int)).getD j 0 = ((Lib.deBruijn64tab.getD j 0 : Nat) : Int) := by
        simp [List.getD, List.getElem?_map]
        cases Lib.deBruijn64tab[j]? <;> rfl
      rw [e]
    refine ⟨t2, c, ?_⟩
    have h0 := c 0 (by decide)
    refine Nat.lt_of_not_le fun hle => ?_
    have hn : W.heap[1]? = none := Array.getElem?_eq_none hle
    simp [World.cell?, hn] at h0
  · obtain ⟨a0, a1, s0, s1, c0, c1, t0, t1, hv0, hv1, _, _, _, _, _, _, hne, hb0, hb1⟩ := laid_sentinels2 h.tail.tail.tail gFNone tFNone gFGrain tFGrain Tryz.underlying118 rowE' Tryz.underlying288 Tryz.underlying307 rfl rfl Tryz.underlying9 cellsE cellsS
    refine ⟨a0, a1, ?_, ?_, hne, ⟨c0, t0, hb0⟩, c1, t1, hb1⟩
    · simpa using World.var?_cell gFGrain hv1 0
    · simpa using World.var?_cell gFNone hv0 0
  · obtain ⟨name, u, ty, e1, e2, e3, e4, e5⟩ := hh _ (List.mem_cons_self ..)
    have en : name = [101, 114, 114, 111, 114] := (Option.some.inj e1).symm
    subst en
    obtain rfl := Option.some.inj (tRt.symm.trans e2)
    have hm : ty ∈ (List.range 319).filter fun t => Tryz.prog.rowNamed t [101, 114, 114, 111, 114] := List.mem_filter.2 ⟨List.mem_range.2 (by rw [← tSize]; exact e3), e4⟩
    rw [tOne] at hm
    obtain rfl := List.mem_singleton.1 hm
    have hh : typeHandle Tryz.prog 118 = .pointer (some ⟨8, 118, none⟩) := by kernel_rfl
    rw [hh] at e5
    unfold TypeR
    simpa using World.var?_cell gType e5 0
set_option maxRecDepth 100000 in
/-- A law of any parameters: out of its walk. -/
theorem law_lift {H : Type} {enc : TypeId × Value → H} {os : Os} {f : FuncId} {fn : Func} {s : ChangeSpec} {conds : List PathCond}
    (started : os.Started) (noInit : Tryz.prog.inits.idxOf? f = none) (hfn : Tryz.prog.funcs[f]? = some fn)
    (witness : ∃ (w : World) (tape : Tape) (i : Input), w.os = os ∧ (w.forCall tape i).Shaped Tryz.checked.prog ∧ i.vars = [] ∧ Input.okWide Tryz.checked.prog (w.forCall tape i) .any w.heap.size f i ∧
      ((s.pre enc Tryz.checked.prog fn conds false (w.forCall tape i).memory i.args ∧ laidMetH Tryz.prog laidL (w.forCall tape i).memory) ∧ sizedMet enc Tryz.checked.prog fn (OpenSpec.ofChange s) false (w.forCall tape i).memory i.args) ∧ ({} : Assume).holds Tryz.checked.prog (lone (Frame.enter Tryz.checked.prog f i.args .normal) [] (w.forCall tape i)))
    (hv : s.vars = []) (hres : fn.resultTypes = #[4]) (hread : fn.params.toList.all (fun t => Tryz.prog.readableRec t && decide (t < Tryz.prog.types.size)) = true)
    (hspec : ∀ ds : List (DataW H), ds.length = fn.params.toList.length → (s.fn H (ds ++ [])).results = [.lit (.bool true)] ∧ (s.fn H (ds ++ [])).args = ds ∧ (s.fn H (ds ++ [])).vars = [])
    (walk : ∀ (W : World) (base : Nat) (args : Array Value) (ds : List (DataW H)) (p : List MemPlace) (am an : Addr), Tabs W → SentF am an W → TypeR W → (∀ (j : Nat) t v, fn.params[j]? = some t → args[j]? = some v → Value.okWide Tryz.prog W .any base t v) →
      DataW.TrodAll enc Tryz.prog W 0 (fun _ => true) true fn.params.toList args.toList ds p → (DataW.weightsEach Tryz.prog fn.params.toList ds).all (· ≤ reachBytes) = true →
      Calls Tryz.prog f args W fun e W' => e = .returned (.bool true) ∧ Below W.heap.size W W') :
    ReturnsInHanded {} Tryz.checked os f .any (fun w args => (s.pre enc Tryz.prog fn conds false w args ∧ laidMetH Tryz.prog laidL w) ∧ sizedMet enc Tryz.prog fn (OpenSpec.ofChange s) false w args) (s.post enc Tryz.prog fn false true false false) := by
  refine returnsInHanded_of_change_and (C := Tryz.checked) (X := fun w _ => laidMetH Tryz.prog laidL w) (fun _ _ _ hh h => h.of_heap hh) ownK started noInit hfn witness ?_
  intro W base args ds gs before hval hW _ hsz hL _
  have hW' := hW
  obtain ⟨p, q, hA, hV, rfl, _, _⟩ := hW
  rw [hv] at hV
  have hg : gs = [] := by cases gs with
    | nil => rfl
    | cons _ _ => exact hV.elim
  subst hg
  have hlen : ds.length = fn.params.toList.length := by
    have : ∀ (ts : List TypeId) (vs : List Value) (ds : List (DataW H)) (ps : List MemPlace), DataW.TrodAll enc Tryz.prog W 0 (fun _ => true) true ts vs ds ps → ds.length = ts.length := by
      intro ts
      induction ts with
      | nil => intro vs ds ps h; cases vs <;> cases ds <;> first | rfl | exact h.elim
      | cons t ts ih => intro vs ds ps h; cases vs <;> cases ds <;> first | exact h.elim | (obtain ⟨_, _, _, h2, _⟩ := h; simp [ih _ _ _ h2])
    exact this _ _ _ _ hA
  obtain ⟨hs1, hs2, hs3⟩ := hspec ds hlen
  have hsz' : (DataW.weightsEach Tryz.prog fn.params.toList ds).all (· ≤ reachBytes) = true := by
    have e : fn.params.toList ++ s.plain.varTypes Tryz.prog = fn.params.toList := by
      have : s.plain.varTypes Tryz.prog = [] := by simp [DataSpec.varTypes, ChangeSpec.plain, hv]
      rw [this, List.append_nil]
    have h2 := hsz
    rw [List.append_nil] at h2
    rw [← e]; exact h2
  obtain ⟨hTab, ⟨am, an, hS⟩, hT⟩ := six_of_laid hL
  refine (walk W base args ds p am an hTab hS hT hval hA hsz').mono fun e W' ⟨he, hb⟩ => ?_
  exact ⟨_, he, law_post hv hres hread hW' hs1 hs2 hs3 hb⟩
end Go.Proofs.YtejleplhmkmegaaGreatDoor
