/- Ratio: the map of words. -/
import Derived.Test.YtcdfbcmhikhnjaaDoorRtQ
import Derived.Maps.Own
import Derived.Maps.OwnOps
import Derived.Maps.RangeWalk
namespace Go.Proofs.YtcdfbcmhikhnjaaDoor
set_option linter.unusedVariables false
set_option linter.unusedSimpArgs false
set_option maxRecDepth 100000
open Go.ChangeShapes Go.WideShapes Go.ChangeAt Go.RowKit Go.Fl Go.ChangeMaps Go.MapKept
open Go.Maps (Keyed)

/-- How an element that is a floating number reads. -/
def floatElem (v : Value) : Option (DataW Unit × List MemPlace) :=
  match v with
  | .float .f64 b => some (.lit (.int .u64 b), [])
  | _ => none
def sB (l : List UInt8) : Lit := .string l
def wordsD : DataW Unit := ((((((DataW.map []).put (sB [110, 97, 110]) (.lit (.int .u64 9221120237041090561))).put (sB [105, 110, 102]) (.lit (.int .u64 9218868437227405312))).put (sB [45, 105, 110, 102]) (.lit (.int .u64 18442240474082181120))).put (sB [48]) (.lit (.int .u64 0))).put (sB [45, 48]) (.lit (.int .u64 9223372036854775808)))
theorem wpList_insert_own {H : Type} {P : Program} (w : World) {ops : Array Oper} {rest : List Oper} {o : Oper} {a : Act} {Q : Exit → Act → World → Prop}
    (hg : o.guard = none) (m x v : Operand) (t : TypeId) (hop : o.op = Op.insert t m x v)
    (k e : TypeId) (K : Keyed P k) (ht : P.underlying t = some (.map k e)) (R : Value → Option (DataW H × List MemPlace)) (b n : Nat) (D : DataW H)
    (hm : a.eval m = .map (some b)) (hown : w.ownsMap P k R b n D) (hn : n < maxLen) (key val : Value) (kl : Lit) (hx : a.eval x = key) (hv : a.eval v = val) (hkey : keyOf P k key = some kl)
    (d : DataW H) (ps : List MemPlace) (hval : R val = some (d, ps))
    (hK : ∀ w', w'.ownsMap P k R b (n + 1) (D.put kl d) → w.grownBy w' (some b) → wpList P ops Q rest (a.put o.dst undef) w') :
    wpList P ops Q (o :: rest) a w := by
  refine wpList_plain hg fun K' hK' => ?_
  obtain ⟨w', hrun, r1, r2⟩ := hown.update K ht hn hkey hval
  unfold Oper.wp
  simp [execOp, hop, hm, hx, hv, hrun, Result.andThen]
  exact hK' _ _ (hK w' r1 r2)
theorem words_any (w : World) : Calls Tryd.prog 50 #[] w fun e w' => e = .returned (.map (some w.heap.size)) ∧ w'.ownsMap Tryd.prog 9 floatElem w.heap.size 5 wordsD ∧ Below w.heap.size w w' := by
  have hmake : ∀ X, (Instr.makeMap 77 none).run Tryd.prog X = .ok (.map (some X.heap.size)) (X.alloc (.map #[] 0)) := fun X => by first | exact run_makeMap X _ _ _ Tryd.underlying77 | exact run_makeMap _ _ | rfl
  have I1 := hid (fun W => inf_any 1 W)
  have I2 := hid (fun W => inf_any (-1) W)
  have N1 := hid (fun W => nan_any W)
  have C1 := hid (fun W => copysign_any 0 13830554455654793216 (by decide) (by decide) W)
  go_enter Tryd.func50, Tryd.ntmps50
  have h0 := World.ownsMap_made w Tryd.prog 9 floatElem
  go_wp2_with (first
    | (go_at_call 37; ((with_reducible refine (N1.out _).mono ?_); rintro e x1 ⟨rfl, rfl⟩))
    | (go_at_call 38; first | ((with_reducible refine (I1.out _).mono ?_); rintro e x2 ⟨rfl, rfl⟩) | ((with_reducible refine (I2.out _).mono ?_); rintro e x3 ⟨rfl, rfl⟩))
    | (go_at_call 56; ((with_reducible refine (C1.out _).mono ?_); rintro e x4 ⟨rfl, rfl⟩))
    | (refine wpList_insert_own _ rfl _ _ _ 77 rfl 9 24 (Maps.string_keyed Tryd.underlying9) Tryd.underlying77 floatElem w.heap.size 4 _ rfl hown4 (by unfold maxLen; omega) _ _ (.string [45, 48]) rfl rfl (by first | rfl | kernel_rfl | decide) (.lit (.int .u64 9223372036854775808)) [] rfl ?_; intro w5 hown5 hg5)
    | (refine wpList_insert_own _ rfl _ _ _ 77 rfl 9 24 (Maps.string_keyed Tryd.underlying9) Tryd.underlying77 floatElem w.heap.size 3 _ rfl hown3 (by unfold maxLen; omega) _ _ (.string [48]) rfl rfl (by first | rfl | kernel_rfl | decide) (.lit (.int .u64 0)) [] rfl ?_; intro w4 hown4 hg4)
    | (refine wpList_insert_own _ rfl _ _ _ 77 rfl 9 24 (Maps.string_keyed Tryd.underlying9) Tryd.underlying77 floatElem w.heap.size 2 _ rfl hown2 (by unfold maxLen; omega) _ _ (.string [45, 105, 110, 102]) rfl rfl (by first | rfl | kernel_rfl | decide) (.lit (.int .u64 18442240474082181120)) [] rfl ?_; intro w3 hown3 hg3)
    | (refine wpList_insert_own _ rfl _ _ _ 77 rfl 9 24 (Maps.string_keyed Tryd.underlying9) Tryd.underlying77 floatElem w.heap.size 1 _ rfl hown1 (by unfold maxLen; omega) _ _ (.string [105, 110, 102]) rfl rfl (by first | rfl | kernel_rfl | decide) (.lit (.int .u64 9218868437227405312)) [] rfl ?_; intro w2 hown2 hg2)
    | (refine wpList_insert_own _ rfl _ _ _ 77 rfl 9 24 (Maps.string_keyed Tryd.underlying9) Tryd.underlying77 floatElem w.heap.size 0 _ rfl h0 (by unfold maxLen; omega) _ _ (.string [110, 97, 110]) rfl rfl (by first | rfl | kernel_rfl | decide) (.lit (.int .u64 9221120237041090561)) [] rfl ?_; intro w1 hown1 hg1))
  go_ret
  have z0 : Below w.heap.size w (w.alloc (.map #[] 0)) := (Below.refl _ _).alloc (Nat.le_refl _) _
  have z1 := z0.grown hg1 z0.size (fun r e => by cases e; exact Nat.le_refl _)
  have z2 := z1.grown hg2 z1.size (fun r e => by cases e; exact Nat.le_refl _)
  have z3 := z2.grown hg3 z2.size (fun r e => by cases e; exact Nat.le_refl _)
  have z4 := z3.grown hg4 z3.size (fun r e => by cases e; exact Nat.le_refl _)
  have z5 := z4.grown hg5 z4.size (fun r e => by cases e; exact Nat.le_refl _)
  exact ⟨rfl, hown5, z5⟩
end Go.Proofs.YtcdfbcmhikhnjaaDoor
