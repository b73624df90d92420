/- Ratio: the frame that all tied statements of the seat share: a law that returns true and leaves what was there as it was has its row; what the listed variables hold. -/
import Derived.Test.YtcdfbcmhikhnjaaDoorBase
import Derived.SizedLaws
import Derived.Lib.SmallJoins
import Derived.Test.YtcdfbcmhikhnjaaDoorRtV
import Derived.Lib.LaidTab
import Derived.MakeChecks
import Derived.ProofKit
import Derived.LaidMore
import Derived.OpenShut
import Derived.Stop.Joined
import Derived.Stop.LaidErr
import Derived.Test.YtcdfbcmhikhnjaaDoorRows
import Derived.Stop.LaidTwo
namespace Go.Proofs.YtcdfbcmhikhnjaaDoor
set_option linter.unusedVariables false
set_option linter.unusedSimpArgs false
open Go.ChangeShapes Go.WideShapes Go.ChangeAt Go.RowKit Go.Joins

theorem ownK : ownKnob Tryd.prog.godebug = none := by kernel_rfl
theorem laidOutK : laidOutB Tryd.prog = true := by kernel_rfl

theorem trodAll_stays {H : Type} {enc : TypeId × Value → H} {P : Program} {W W' : World} (hl : laidOutB P = true) (sp : Nat → Bool) : ∀ (ts : List TypeId) (vs : List Value) (ds : List (DataW H)) (ps : List MemPlace),
    ts.all (fun t => P.readableRec t && decide (t < P.types.size)) = true → DataW.TrodAll enc P W 0 (fun _ => true) true ts vs ds ps → (∀ p ∈ ps, W.sameAt W' p) → (∀ p ∈ ps, sp p.block = true) → DataW.TrodAll enc P W' 0 sp true ts vs ds ps
  | [], [], [], _, _, h, _, _ => h
  | t :: ts, v :: vs, d :: ds, ps, hr, h, hsame, hsp => by
    obtain ⟨p, q, h1, h2, rfl⟩ := h
    simp only [List.all_cons, Bool.and_eq_true, decide_eq_true_eq] at hr
    exact ⟨p, q, WideElems.Trod_stays hl hr.1.1 hr.1.2 h1 (fun x hx => hsame x (by simp [hx])) (fun x hx => hsp x (by simp [hx])), trodAll_stays hl sp ts vs ds q hr.2 h2 (fun x hx => hsame x (by simp [hx])) (fun x hx => hsp x (by simp [hx])), rfl⟩
  | [], [], _ :: _, _, _, h, _, _ => h.elim
  | [], _ :: _, _, _, _, h, _, _ => h.elim
  | _ :: _, [], _, _, _, h, _, _ => h.elim
  | _ :: _, _ :: _, [], _, _, h, _, _ => h.elim

/-- What the row asks behind the call, of a law that has returned true and made new blocks alone. -/
theorem law_post {H : Type} {enc : TypeId × Value → H} {fn : Func} {s : ChangeSpec} {W W' : World} {args : Array Value} {ds gs : List (DataW H)} {before : List MemPlace} {apart : Bool}
    (hv : s.vars = []) (hres : fn.resultTypes = #[4]) (hread : fn.params.toList.all (fun t => Tryd.prog.readableRec t && decide (t < Tryd.prog.types.size)) = true)
    (hW : DataW.Whole enc Tryd.prog fn.params.toList s.vars apart W args.toList ds gs before)
    (hs1 : (s.fn H (ds ++ gs)).results = [.lit (.bool true)]) (hs2 : (s.fn H (ds ++ gs)).args = ds) (hs3 : (s.fn H (ds ++ gs)).vars = []) (hb : Below W.heap.size W W') :
    s.post enc Tryd.prog fn apart true false false W args (.bool true) W' := by
  have hlt : ∀ p ∈ before, p.block < W.heap.size := fun p hp => hW.lt p hp
  have hW' := hW
  obtain ⟨p, q, hA, hV, rfl, _, _⟩ := hW
  rw [hv] at hV
  have hq : q = [] := by cases gs with
    | nil => exact hV
    | cons _ _ => exact hV.elim
  subst hq
  refine ⟨ds, gs, _, [], p ++ [], [], hW', ?_, ?_, ?_, hb.frame _, fun h => by cases h⟩
  · rw [hres, hs1]
    exact trodAll_cons_mk (shut_bool Tryd.underlying4 true) trodAll_mk0
  · rw [hs2, List.append_nil]
    exact trodAll_stays laidOutK _ _ _ _ _ hread hA (fun x hx => hb.same (hlt x (by simp [hx]))) (fun x hx => by simpa using hlt x (by simp [hx]))
  · rw [hv, hs3]; rfl

abbrev laidL : List (String × DataW Unit) := [("math/bits.deBruijn32tab", Rows.laid_math_bits_deBruijn32tab), ("math/bits.deBruijn64tab", Rows.laid_math_bits_deBruijn64tab), ("internal/strconv.uint64pow10", Rows.laid_internal_strconv_uint64pow10)]
theorem gTz : Tryd.prog.globalNamed "math/bits.deBruijn64tab" = some 1 := by kernel_rfl
theorem lay64 : (Rows.laid_math_bits_deBruijn64tab : DataW Unit) = Lib.tabData .u8 (Lib.deBruijn64tab.map fun (n : Nat) => (n : Int)) := by rfl
theorem layPow : (Rows.laid_internal_strconv_uint64pow10 : DataW Unit) = Lib.tabData .u64 Lib.pow10Tab := by rfl
/-- The door's own heap meets the condition. -/
theorem door_met (os : Os) (args : Array Value) : laidMetH Tryd.prog laidL ((World.doorLaid Tryd.prog 400 os).forCall (fun _ _ => 0) ⟨#[], args, []⟩).memory :=
  laidMetH_of_parts3 (fuel := 8) (laidMet_of_run' 8 (by kernel_rfl) (by kernel_rfl)) (by kernel_rfl) (by kernel_rfl)
/-- What the condition gives the walks. -/
theorem tabs_of_laid {W : World} (h : laidMetH Tryd.prog laidL W) : Tabs W := by
  rw [MakeChecks.laidMetH_plain _ _ _ (by kernel_rfl)] at h
  have h2 := h.tail
  have h3 := h2.tail
  rw [lay64] at h2
  rw [layPow] at h3
  have t1 := Lib.tabIs_of_head gTz (by kernel_rfl) Tryd.underlying110 Tryd.underlying5 (by kernel_rfl) (by kernel_rfl) h2
  have t2 := Lib.tabIs_of_head gPow (by kernel_rfl) Tryd.underlying124 Tryd.underlying22 (by kernel_rfl) (by kernel_rfl) h3
  have c : TabAt 1 Lib.deBruijn64tab W := fun j hj => by
    have := t1.cell gTz j (by simpa using hj)
    rw [this]
    have e : (Lib.deBruijn64tab.map fun (n : Nat) => (n : Int)).getD j 0 = ((Lib.deBruijn64tab.getD j 0 : Nat) : Int) := by
      simp [List.getD, List.getElem?_map]
      cases Lib.deBruijn64tab[j]? <;> rfl
    rw [e]
  refine ⟨t2, c, ?_⟩
  have h0 := c 0 (by decide)
  refine Nat.lt_of_not_le fun hle => ?_
  have hn : W.heap[1]? = none := Array.getElem?_eq_none hle
  simp [World.cell?, hn] at h0

set_option maxRecDepth 100000 in
/-- A law of any parameters: out of its walk. -/
theorem law_lift {H : Type} {enc : TypeId × Value → H} {os : Os} {f : FuncId} {fn : Func} {s : ChangeSpec} {conds : List PathCond}
    (started : os.Started) (noInit : Tryd.prog.inits.idxOf? f = none) (hfn : Tryd.prog.funcs[f]? = some fn)
    (witness : ∃ (w : World) (tape : Tape) (i : Input), w.os = os ∧ (w.forCall tape i).Shaped Tryd.checked.prog ∧ i.vars = [] ∧ Input.okWide Tryd.checked.prog (w.forCall tape i) .any w.heap.size f i ∧
      ((s.pre enc Tryd.checked.prog fn conds false (w.forCall tape i).memory i.args ∧ laidMetH Tryd.prog laidL (w.forCall tape i).memory) ∧ sizedMet enc Tryd.checked.prog fn (OpenSpec.ofChange s) false (w.forCall tape i).memory i.args) ∧ ({} : Assume).holds Tryd.checked.prog (lone (Frame.enter Tryd.checked.prog f i.args .normal) [] (w.forCall tape i)))
    (hv : s.vars = []) (hres : fn.resultTypes = #[4]) (hread : fn.params.toList.all (fun t => Tryd.prog.readableRec t && decide (t < Tryd.prog.types.size)) = true)
    (hspec : ∀ ds : List (DataW H), ds.length = fn.params.toList.length → (s.fn H (ds ++ [])).results = [.lit (.bool true)] ∧ (s.fn H (ds ++ [])).args = ds ∧ (s.fn H (ds ++ [])).vars = [])
    (walk : ∀ (W : World) (base : Nat) (args : Array Value) (ds : List (DataW H)) (p : List MemPlace), Tabs W → (∀ (j : Nat) t v, fn.params[j]? = some t → args[j]? = some v → Value.okWide Tryd.prog W .any base t v) →
      DataW.TrodAll enc Tryd.prog W 0 (fun _ => true) true fn.params.toList args.toList ds p → (DataW.weightsEach Tryd.prog fn.params.toList ds).all (· ≤ reachBytes) = true →
      Calls Tryd.prog f args W fun e W' => e = .returned (.bool true) ∧ Below W.heap.size W W') :
    ReturnsInHanded {} Tryd.checked os f .any (fun w args => (s.pre enc Tryd.prog fn conds false w args ∧ laidMetH Tryd.prog laidL w) ∧ sizedMet enc Tryd.prog fn (OpenSpec.ofChange s) false w args) (s.post enc Tryd.prog fn false true false false) := by
  refine returnsInHanded_of_change_and (C := Tryd.checked) (X := fun w _ => laidMetH Tryd.prog laidL w) (fun _ _ _ hh h => h.of_heap hh) ownK started noInit hfn witness ?_
  intro W base args ds gs before hval hW _ hsz hL _
  have hW' := hW
  obtain ⟨p, q, hA, hV, rfl, _, _⟩ := hW
  rw [hv] at hV
  have hg : gs = [] := by cases gs with
    | nil => rfl
    | cons _ _ => exact hV.elim
  subst hg
  have hlen : ds.length = fn.params.toList.length := by
    have : ∀ (ts : List TypeId) (vs : List Value) (ds : List (DataW H)) (ps : List MemPlace), DataW.TrodAll enc Tryd.prog W 0 (fun _ => true) true ts vs ds ps → ds.length = ts.length := by
      intro ts
      induction ts with
      | nil => intro vs ds ps h; cases vs <;> cases ds <;> first | rfl | exact h.elim
      | cons t ts ih => intro vs ds ps h; cases vs <;> cases ds <;> first | exact h.elim | (obtain ⟨_, _, _, h2, _⟩ := h; simp [ih _ _ _ h2])
    exact this _ _ _ _ hA
  obtain ⟨hs1, hs2, hs3⟩ := hspec ds hlen
  have hsz' : (DataW.weightsEach Tryd.prog fn.params.toList ds).all (· ≤ reachBytes) = true := by
    have e : fn.params.toList ++ s.plain.varTypes Tryd.prog = fn.params.toList := by
      have : s.plain.varTypes Tryd.prog = [] := by simp [DataSpec.varTypes, ChangeSpec.plain, hv]
      rw [this, List.append_nil]
    have h2 := hsz
    rw [List.append_nil] at h2
    rw [← e]; exact h2
  have hS := tabs_of_laid hL
  refine (walk W base args ds p hS hval hA hsz').mono fun e W' ⟨he, hb⟩ => ?_
  exact ⟨_, he, law_post hv hres hread hW' hs1 hs2 hs3 hb⟩
end Go.Proofs.YtcdfbcmhikhnjaaDoor
