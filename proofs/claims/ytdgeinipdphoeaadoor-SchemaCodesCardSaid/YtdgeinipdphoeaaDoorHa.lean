/- Texts joined: Base, AsW, Blk, VarI, VarA, VarB, VarP, VarG, Quiet. -/
import Derived.Test.YtdgeinipdphoeaaDoorRows
import Derived.Handy
import Derived.Deep.QuietTactic
import Derived.Test.YtdgeinipdphoeaaDoorChecked
import Derived.WalkKit
import Derived.LaidEql
import Derived.Stop.Asserts
import Derived.RowKitTokens
import Derived.Deep.RegionWith
import Derived.Laws.IdiomStrings
import Derived.BigQuiet
/- Small plain lemmas that the texts of this seat share. -/
namespace Go.RowKit
theorem Below.step {w W w1 : World} (h : Below w.heap.size w W) (hb : Below W.heap.size W w1) : Below w.heap.size w w1 := h.trans (hb.mono h.size)
theorem Below.new {w W : World} (h : Below w.heap.size w W) (o : Obj) : Below w.heap.size w (W.alloc o) := h.alloc h.size o
theorem Below.drewN {B : Nat} {a w : World} (h : Below B a w) (n : Nat) : Below B a (w.drewN n) := ⟨h.os, h.tape, h.output, h.size, h.block⟩
end Go.RowKit
namespace Go
theorem World.ownsRow.base_le {w : World} {b b' : Nat} {e : TypeId} {size : Nat} {v : Value} {n : Nat} {xs : List Value} (h : w.ownsRow b e size v n xs) (hb : b' ≤ b) : w.ownsRow b' e size v n xs := by
  obtain ⟨h1, h2⟩ := h
  refine ⟨h1, ?_⟩
  rcases h2 with h2 | ⟨g, cap, cur, hv, hg, r⟩
  · exact .inl h2
  · exact .inr ⟨g, cap, cur, hv, by omega, r⟩
theorem World.ownsRow.shape {w : World} {b : Nat} {e : TypeId} {size : Nat} {v : Value} {n : Nat} {xs : List Value} (h : w.ownsRow b e size v n xs) : ∃ ao cap, v = .slice ao n cap := by
  rcases h.2 with ⟨rfl, rfl⟩ | ⟨g, cap, cur, hv, _⟩
  · exact ⟨none, 0, rfl⟩
  · exact ⟨_, cap, hv⟩
end Go
namespace Go.Proofs.YtdgeinipdphoeaaDoor
set_option linter.unusedVariables false
set_option linter.unusedSimpArgs false
open Go.ChangeShapes Go.WideShapes Go.ChangeAt Go.RowKit

theorem hid {p : Prop} (h : p) : Hid p := h

theorem bcell {B : Nat} {W w1 : World} (hb : Below B W w1) : (∀ b o, b < B → w1.cell? ⟨b, o, none⟩ = W.cell? ⟨b, o, none⟩) ∧ (∀ b o, b < B → w1.frozen? ⟨b, o, none⟩ = W.frozen? ⟨b, o, none⟩) :=
  ⟨fun b o h => hb.cell (p := ⟨b, o, none⟩) h, fun b o h => hb.frozen (p := ⟨b, o, none⟩) h⟩

/-- Behind a call that has made new blocks alone: old cells and marks read as before, old blocks are there. For the walk. -/
theorem bcell3 {W w1 : World} (hb : Below W.heap.size W w1) : (∀ b o, b < W.heap.size → w1.cell? ⟨b, o, none⟩ = W.cell? ⟨b, o, none⟩) ∧ (∀ b o, b < W.heap.size → w1.frozen? ⟨b, o, none⟩ = W.frozen? ⟨b, o, none⟩) ∧ (∀ k, k < W.heap.size → k < w1.heap.size) ∧ W.heap.size ≤ w1.heap.size :=
  ⟨fun b o h => hb.cell (p := ⟨b, o, none⟩) h, fun b o h => hb.frozen (p := ⟨b, o, none⟩) h, fun k h => Nat.lt_of_lt_of_le h hb.size, hb.size⟩

theorem cell_step {w w1 : World} {a : Addr} {v : Value} (h : w.cell? a = some v) (hb : Below w.heap.size w w1) : w1.cell? a = some v := (hb.cell (World.block_lt_of_cell? _ _ h)).trans h

theorem all_take_succ {α : Type} (l : List α) (p : α → Bool) (k : Nat) (h : k < l.length) (hall : (l.take k).all p = true) : (l.take (k + 1)).all p = p l[k] := by
  rw [List.take_succ_eq_append_getElem h, List.all_append, hall]; simp

theorem all_false_of {α : Type} (l : List α) (p : α → Bool) (k : Nat) (h : k < l.length) (hb : p l[k] = false) : l.all p = false := by
  rw [← Bool.not_eq_true, List.all_eq_true]; intro hx
  have := hx l[k] (List.getElem_mem h)
  rw [this] at hb; cases hb

/-- What is appended: one cell of a new block. -/
theorem one_new (w : World) (u : Value) (T : TypeId) : ∀ (j : Nat) (x : Value), [u][j]? = some x → (w.alloc (.cells #[u] T)).cell? ((⟨w.heap.size, 0, none⟩ : Addr).add j) = some x := by
  intro j x hj
  match j, hj with
  | 0, hj => simp at hj; subst hj; simp [Addr.add]
theorem one_int (k : IntKind) (x : Int) : ∀ u ∈ [Value.int k x], u.oneCell' = true := by
  intro u hu; simp at hu; subst hu; rfl

theorem heap_at {w : World} {o : Obj} {n : Nat} (h : n = w.heap.size) : (w.alloc o).heap[n]? = some o := by
  subst h
  show (w.heap.push o)[w.heap.size]? = some o
  simp
theorem heap_past {w : World} {o : Obj} {n : Nat} (h : n < w.heap.size) : (w.alloc o).heap[n]? = w.heap[n]? := Below.heap_alloc w o n h
theorem heap_set_other {w : World} {b o : Nat} {s : Option Nat} {u : Value} {n : Nat} (h : n ≠ b) : (w.setCell ⟨b, o, s⟩ u).heap[n]? = w.heap[n]? := Below.heap_setCell w ⟨b, o, s⟩ u n h
theorem heap_set_same {w : World} {b : Nat} {v u : Value} {t : TypeId} (h : w.heap[b]? = some (.cells #[v] t (0, 0))) : (w.setCell ⟨b, 0, none⟩ u).heap[b]? = some (.cells #[u] t (0, 0)) := one_setCell h

theorem ite_max (x y : Int) : (if x < y then y else x) = max x y := by rw [Int.max_def]; split <;> split <;> omega
theorem ite_min (x y : Int) : (if y < x then y else x) = min x y := by rw [Int.min_def]; split <;> split <;> omega

/-- A scope in which the run jumps at most once, to a label of its own; behind the jump it jumps no more. -/
def jumpFwd (P : Program) (c : Code) (Q : Exit → Act → World → Prop) : Exit → Act → World → Prop
  | .goto l, a, w => ∃ rest, findLabel c l = some rest ∧ rest.wp P (Exit.noGoto Q) a w
  | e, a, w => Q e a w
theorem jumpFwd_ret {P : Program} {c : Code} {Q : Exit → Act → World → Prop} {a : Act} {w : World} : jumpFwd P c Q .ret a w = Q .ret a w := rfl
theorem jumpFwd_normal {P : Program} {c : Code} {Q : Exit → Act → World → Prop} {a : Act} {w : World} : jumpFwd P c Q .normal a w = Q .normal a w := rfl
theorem jumpFwd_goto {P : Program} {c rest : Code} {Q : Exit → Act → World → Prop} {a : Act} {w : World} {l : Nat} (h : findLabel c l = some rest) (hr : rest.wp P (Exit.noGoto Q) a w) : jumpFwd P c Q (.goto l) a w := ⟨rest, h, hr⟩
theorem wp_scope_fwd {P : Program} {c : Code} {Q : Exit → Act → World → Prop} {a : Act} {w : World} (h : c.wp P (jumpFwd P c Q) a w) : (Code.scope c).wp P Q a w := by
  intro b k cs
  obtain ⟨e, a₁, w₁, hq, harr⟩ := h b (.inScope c :: k) cs
  cases e with
  | normal => exact ⟨.normal, a₁, w₁, hq, .head step_scope (Steps.trans harr (.one step_inScope))⟩
  | exit id => exact ⟨.exit id, a₁, w₁, hq, fun k' hk => .head step_scope (harr k' (by simp [exitTo, hk]))⟩
  | goto l =>
    obtain ⟨rest, hf, hr⟩ := hq
    have hg : gotoIn l (.inScope c :: k) = some (.code rest :: .inScope c :: k) := by simp [gotoIn, hf]
    obtain ⟨e₂, a₂, w₂, hq₂, harr₂⟩ := hr b (.inScope c :: k) cs
    have s0 := Steps.head (P := P) (step_scope (b := b) (a := a) (k := k) (cs := cs) (w := w) (c := c)) (harr _ hg)
    cases e₂ with
    | normal => exact ⟨.normal, a₂, w₂, hq₂, Steps.trans s0 (Steps.trans harr₂ (.one step_inScope))⟩
    | exit id => exact ⟨.exit id, a₂, w₂, hq₂, fun k' hk => Steps.trans s0 (harr₂ k' (by simp [exitTo, hk]))⟩
    | goto l => exact hq₂.elim
    | ret => exact ⟨_, a₂, w₂, hq₂, .of_steps s0 harr₂⟩
    | panic ch => exact ⟨_, a₂, w₂, hq₂, .of_steps s0 harr₂⟩
    | outgrown => exact ⟨_, a₂, w₂, hq₂, .of_steps s0 harr₂⟩
  | ret => exact ⟨_, a₁, w₁, hq, .of_steps (.one step_scope) harr⟩
  | panic ch => exact ⟨_, a₁, w₁, hq, .of_steps (.one step_scope) harr⟩
  | outgrown => exact ⟨_, a₁, w₁, hq, .of_steps (.one step_scope) harr⟩

theorem ret_bool {a b : Bool} (h : a = b) : Ending.returned (.bool a) = .returned (.bool b) := by rw [h]
theorem ret_int {k : IntKind} {a b : Int} (h : a = b) : Ending.returned (.int k a) = .returned (.int k b) := by rw [h]
end Go.Proofs.YtdgeinipdphoeaaDoor
/- errors.As at a target of the program's own type 'wrong' (a struct of one number). (Lines of the worked ToyasAs, turned to this program.) -/
namespace Go.Proofs.YtdgeinipdphoeaaDoor
set_option linter.unusedVariables false
set_option linter.unusedSimpArgs false
open Go.RowKit Go.Extern.Stop Go.Stop Go.Extern

/-- errors.As(nil, target). -/
theorem as_nil (t : Value) (w : World) :
    Calls Tryd.prog 43 #[.nilIface, t] w fun e w' => e = .returned (.bool false) ∧ w' = w := by
  go_enter Tryd.func43, Tryd.ntmps43
  go_wp2
  go_ret
  exact ⟨rfl, rfl⟩

theorem as_valueOf27 (t : Addr) (w : World) : (ReflectliteValue.unpack (.iface 86 (.pointer (some t)))).run Tryd.prog w
    = .ok (.agg #[.pointer (some ⟨3, 86, none⟩), .pointer (some ⟨w.heap.size, 0, none⟩), .int .u64 150]) (w.alloc (.cells #[.pointer (some t)] 86)) := by kernel_rfl
theorem as_type27 (a : Addr) (w : World) : (ReflectliteValue.methodAny (ReflectliteValue.valueError "reflectlite.Value.Type" 0) (fun t _ _ _ => ReflectliteType.toType t) #[.agg #[.pointer (some ⟨3, 86, none⟩), .pointer (some a), .int .u64 150]]).run Tryd.prog w
    = .ok (.iface 120 (.agg #[.pointer (some ⟨3, 86, none⟩)])) w := by kernel_rfl
theorem as_methodKind (h : Value) (w : World) : (Go.method 170 120 (.agg #[h]) "Kind").run Tryd.prog w = .ok (79, h) w := by kernel_rfl
theorem as_kind27 (w : World) : ((ReflectliteType.abiMethod fun t => (fun a : Nat => Value.int IntKind.u8 (a : Int)) <$> Rtype.kind t) #[.pointer (some ⟨3, 86, none⟩)]).run Tryd.prog w = .ok (.int .u8 22) w := by kernel_rfl
theorem as_kind25 (w : World) : ((ReflectliteType.abiMethod fun t => (fun a : Nat => Value.int IntKind.u8 (a : Int)) <$> Rtype.kind t) #[.pointer (some ⟨3, 84, none⟩)]).run Tryd.prog w = .ok (.int .u8 25) w := by kernel_rfl

/-! ### THE ENTRIES THAT READ OR WRITE MEMORY: laws with a premise on the cell (after Derived/Lib/ReflectliteSlice.lean's manner: each unfolding a lemma of its own, by rfl) -/
theorem rlm (z : Sem Value) (f : TypeId → Addr → Nat → Nat → Sem Value) (v : Value) :
    ReflectliteValue.method z f #[v] = (do match ← ReflectliteValue.parts v with | none => z | some (t, a, fl) => f t a fl (fl % 32)) := rfl
theorem as_parts27 (a : Addr) (w : World) : (ReflectliteValue.parts (.agg #[.pointer (some ⟨3, 86, none⟩), .pointer (some a), .int .u64 150])).run Tryd.prog w = .ok (some (86, a, 150)) w := by kernel_rfl
/-- (Value).IsNil at the Value of a **p.E that is not nil. -/
theorem as_isNil27 (a p : Addr) (W : World) (ha : W.cell? a = some (.pointer (some p))) :
    (ReflectliteValue.method (ReflectliteValue.valueError "reflectlite.Value.IsNil" 0) ReflectliteValue.isNil #[.agg #[.pointer (some ⟨3, 86, none⟩), .pointer (some a), .int .u64 150]]).run Tryd.prog W = .ok (.bool false) W := by
  rw [rlm]
  simp only [Sem.run_bind, as_parts27, Result.andThen]
  simp [ReflectliteValue.isNil, loadVar, isAgg, underlying, Tryd.underlying86, ha, Result.andThen]

theorem as_methodElem (h : Value) (w : World) : (Go.method 170 120 (.agg #[h]) "Elem").run Tryd.prog w = .ok (90, .agg #[h]) w := by kernel_rfl
theorem as_methodImplements (h : Value) (w : World) : (Go.method 170 120 (.agg #[h]) "Implements").run Tryd.prog w = .ok (91, .agg #[h]) w := by kernel_rfl
theorem as_methodAssignableTo (h : Value) (w : World) : (Go.method 170 120 (.agg #[h]) "AssignableTo").run Tryd.prog w = .ok (88, .agg #[h]) w := by kernel_rfl
theorem as_elem27 (w : World) : (ReflectliteType.method ReflectliteType.elem #[.agg #[.pointer (some ⟨3, 86, none⟩)]]).run Tryd.prog w = .ok (.iface 120 (.agg #[.pointer (some ⟨3, 84, none⟩)])) w := by kernel_rfl
theorem as_implements25 (w : World) : (ReflectliteType.relation "Implements" ReflectliteType.implements_ #[.agg #[.pointer (some ⟨3, 84, none⟩)], .iface 120 (.agg #[.pointer (some ⟨3, 49, none⟩)])]).run Tryd.prog w = .ok (.bool true) w := by kernel_rfl
theorem as_typeOf25 (v : Value) (w : World) : (ReflectliteType.typeOf #[.iface 84 v]).run Tryd.prog w = .ok (.iface 120 (.agg #[.pointer (some ⟨3, 84, none⟩)])) w := by kernel_rfl
theorem as_assignable25 (w : World) : (ReflectliteType.relation "AssignableTo" ReflectliteType.assignableTo #[.agg #[.pointer (some ⟨3, 84, none⟩)], .iface 120 (.agg #[.pointer (some ⟨3, 84, none⟩)])]).run Tryd.prog w = .ok (.bool true) w := by kernel_rfl
theorem as_valueOf25 (n : Int) (w : World) : (ReflectliteValue.unpack (.iface 84 (.agg #[.int .i64 n]))).run Tryd.prog w
    = .ok (.agg #[.pointer (some ⟨3, 84, none⟩), .pointer (some ⟨w.heap.size, 0, none⟩), .int .u64 153]) (w.alloc (.cells #[.int .i64 n] 84)) := by kernel_rfl

theorem as_elemOf27 (w : World) : (Rtype.elem? 86).run Tryd.prog w = .ok (some 84) w := by kernel_rfl
theorem as_mk25 (p : Addr) (w : World) : (ReflectliteValue.mk 84 p ReflectliteValue.flagAddr).run Tryd.prog w = .ok (.agg #[.pointer (some ⟨3, 84, none⟩), .pointer (some p), .int .u64 409]) w := by kernel_rfl
/-- (Value).Elem at the Value of a **p.E that is not nil: the Value of the *p.E variable that it points to, addressable. -/
theorem as_elemV27 (a p : Addr) (W : World) (ha : W.cell? a = some (.pointer (some p))) :
    (ReflectliteValue.method (ReflectliteValue.valueError "reflectlite.Value.Elem" 0) ReflectliteValue.elem #[.agg #[.pointer (some ⟨3, 86, none⟩), .pointer (some a), .int .u64 150]]).run Tryd.prog W
      = .ok (.agg #[.pointer (some ⟨3, 84, none⟩), .pointer (some p), .int .u64 409]) W := by
  rw [rlm]
  simp only [Sem.run_bind, as_parts27, Result.andThen]
  simp [ReflectliteValue.elem, loadVar, isAgg, underlying, Tryd.underlying86, ha, Result.andThen, as_elemOf27, as_mk25]
theorem rls (v x : Value) : ReflectliteValue.set #[v, x] = (do
    let (some (dst, a, fl), some (src, b, _)) := (← ReflectliteValue.parts v, ← ReflectliteValue.parts x)
      | unsupported (.noEntry "extern/(internal/reflectlite.Value).Set.zeroValue")
    if fl / ReflectliteValue.flagAddr % 2 == 0 then unsupported (.noEntry "extern/(internal/reflectlite.Value).Set.unaddressable")
    let val ← loadVar src b
    if ← Rtype.directlyAssignable dst src then storeVar dst a val
    else if ← Rtype.implements dst src then
      if (← Rtype.kind src) == 20 then
        match val with
        | .nilIface => unsupported (.noEntry "extern/reflectlite: a nil value of one interface type handed on as a value of another")
        | _ => storeVar dst a val
      else storeVar dst a (.iface src val)
    else panicString ("reflectlite.Set: value of type " ++ (← Rtype.spelt src) ++ " is not assignable to type " ++ (← Rtype.spelt dst))
    pure (.tuple #[])) := rfl
theorem as_parts25a (a : Addr) (w : World) : (ReflectliteValue.parts (.agg #[.pointer (some ⟨3, 84, none⟩), .pointer (some a), .int .u64 409])).run Tryd.prog w = .ok (some (84, a, 409)) w := by kernel_rfl
theorem as_parts25 (a : Addr) (w : World) : (ReflectliteValue.parts (.agg #[.pointer (some ⟨3, 84, none⟩), .pointer (some a), .int .u64 153])).run Tryd.prog w = .ok (some (84, a, 153)) w := by kernel_rfl
theorem as_direct25 (w : World) : (Rtype.directlyAssignable 84 84).run Tryd.prog w = .ok true w := by kernel_rfl
theorem as_size25 (w : World) : (sizeOf 84).run Tryd.prog w = .ok 1 w := by kernel_rfl
theorem as_load25 (b : Addr) (n : Int) (W : World) (hb : W.cell? b = some (.int .i64 n)) : (loadVar 84 b).run Tryd.prog W = .ok (.agg #[.int .i64 n]) W := by
  simp [loadVar, isAgg, underlying, Tryd.underlying84, as_size25, loadCells, loadCellsFrom, Addr.add, hb, Result.andThen]
theorem as_store25 (a : Addr) (n : Int) (old : Value) (W : World) (ht : W.cell? a = some old) (hf : W.frozen? a = false) : (storeVar 84 a (.agg #[.int .i64 n])).run Tryd.prog W = .ok () (W.setCell a (.int .i64 n)) := by
  simp [storeVar, Value.cells, as_size25, storeCells, Addr.add, Result.andThen]
  rw [run_store Tryd.prog W a _ _ (by rfl)]
  simp [ht, hf]
/-- (Value).Set: the *p.E variable at 'ta' gets what the Value's own variable 'b' holds. -/
theorem as_set25 (ta b : Addr) (n : Int) (old : Value) (W : World) (hb : W.cell? b = some (.int .i64 n)) (ht : W.cell? ta = some old) (hf : W.frozen? ta = false) :
    (ReflectliteValue.set #[.agg #[.pointer (some ⟨3, 84, none⟩), .pointer (some ta), .int .u64 409], .agg #[.pointer (some ⟨3, 84, none⟩), .pointer (some b), .int .u64 153]]).run Tryd.prog W
      = .ok (.tuple #[]) (W.setCell ta (.int .i64 n)) := by
  rw [rls]
  simp only [Sem.run_bind, as_parts25a, as_parts25, Result.andThen]
  simp [ReflectliteValue.flagAddr, as_load25 _ _ _ hb, Result.andThen, as_direct25, as_store25 _ _ _ _ ht hf]

set_option maxHeartbeats 4000000 in
theorem as_hit (n : Int) (t : Addr) (old : Value) (w : World) (hg : w.cell? ⟨0, 0, none⟩ = some (.iface 120 (.agg #[.pointer (some ⟨3, 49, none⟩)]))) (ht0 : w.cell? t = some old) (hf0 : w.frozen? t = false) :
    Calls Tryd.prog 43 #[.iface 84 (.agg #[.int .i64 n]), .iface 86 (.pointer (some t))] w fun ev w' => ev = .returned (.bool true) ∧ w' = ((((w.alloc (.cells #[.pointer (some t)] 86)).alloc (.cells #[.pointer (some ⟨3, 86, none⟩), .pointer (some ⟨w.heap.size, 0, none⟩), .int .u64 150] 103)).alloc (.cells #[.pointer (some ⟨3, 86, none⟩), .pointer (some ⟨w.heap.size, 0, none⟩), .int .u64 150] 103)).alloc (.cells #[.int .i64 n] 84)).setCell t (.int .i64 n) := by
  have h6 := @run_callFunc_extern Tryd.prog 53 _ (fun args => ReflectliteValue.unpack (args.getD 0 (.tuple #[]))) Tryd.func53 (by kernel_rfl) (by kernel_rfl) (by kernel_rfl) (by kernel_rfl)
  have h7 := @run_callFunc_extern Tryd.prog 54 _ (ReflectliteValue.methodAny (ReflectliteValue.valueError "reflectlite.Value.Type" 0) (fun t _ _ _ => ReflectliteType.toType t)) Tryd.func54 (by kernel_rfl) (by kernel_rfl) (by kernel_rfl) (by kernel_rfl)
  have h8 := @run_callFunc_extern Tryd.prog 55 _ (ReflectliteValue.method (ReflectliteValue.valueError "reflectlite.Value.IsNil" 0) ReflectliteValue.isNil) Tryd.func55 (by kernel_rfl) (by kernel_rfl) (by kernel_rfl) (by kernel_rfl)
  have h27 := @run_callFunc_extern Tryd.prog 79 _ (ReflectliteType.abiMethod fun t => do pure (.int .u8 (← Rtype.kind t))) Tryd.func79 (by kernel_rfl) (by kernel_rfl) (by kernel_rfl) (by kernel_rfl)
  have h37 := @run_callFunc_extern Tryd.prog 90 _ (ReflectliteType.method ReflectliteType.elem) Tryd.func90 (by kernel_rfl) (by kernel_rfl) (by kernel_rfl) (by kernel_rfl)
  have h38 := @run_callFunc_extern Tryd.prog 91 _ (ReflectliteType.relation "Implements" ReflectliteType.implements_) Tryd.func91 (by kernel_rfl) (by kernel_rfl) (by kernel_rfl) (by kernel_rfl)
  have h10 := @run_callFunc_extern Tryd.prog 60 _ ReflectliteType.typeOf Tryd.func60 (by kernel_rfl) (by kernel_rfl) (by kernel_rfl) (by kernel_rfl)
  have h35 := @run_callFunc_extern Tryd.prog 88 _ (ReflectliteType.relation "AssignableTo" ReflectliteType.assignableTo) Tryd.func88 (by kernel_rfl) (by kernel_rfl) (by kernel_rfl) (by kernel_rfl)
  have h11 := @run_callFunc_extern Tryd.prog 61 _ (ReflectliteValue.method (ReflectliteValue.valueError "reflectlite.Value.Elem" 0) ReflectliteValue.elem) Tryd.func61 (by kernel_rfl) (by kernel_rfl) (by kernel_rfl) (by kernel_rfl)
  have h12 := @run_callFunc_extern Tryd.prog 62 _ ReflectliteValue.set Tryd.func62 (by kernel_rfl) (by kernel_rfl) (by kernel_rfl) (by kernel_rfl)
  have tO := as_typeOf25
  have mA := as_methodAssignableTo
  have a25 := as_assignable25
  have v25 := as_valueOf25
  have f6 := as_valueOf27
  have f7 := as_type27
  have mK := as_methodKind
  have mE := as_methodElem
  have mI := as_methodImplements
  have k27 := as_kind27
  have k25 := as_kind25
  have e27 := as_elem27
  have i25 := as_implements25
  have n8 := as_isNil27 ⟨w.heap.size, 0, none⟩ t ((w.alloc (.cells #[.pointer (some t)] 86)).alloc (.cells #[.pointer (some ⟨3, 86, none⟩), .pointer (some ⟨w.heap.size, 0, none⟩), .int .u64 150] 103)) (by simp)
  have hlt : 0 < w.heap.size := by
    rcases Nat.eq_zero_or_pos w.heap.size with h0 | h
    · simp [World.cell?, h0] at hg
    · exact h
  have hg2 : ((w.alloc (.cells #[.pointer (some t)] 86)).alloc (.cells #[.pointer (some ⟨3, 86, none⟩), .pointer (some ⟨w.heap.size, 0, none⟩), .int .u64 150] 103)).cell? ⟨0, 0, none⟩ = some (.iface 120 (.agg #[.pointer (some ⟨3, 49, none⟩)])) := by
    rw [World.cell?_alloc_lt _ _ ⟨0, 0, none⟩ (by simp), World.cell?_alloc_lt _ _ ⟨0, 0, none⟩ hlt]; exact hg
  have htl : t.block < w.heap.size := by
    rcases Nat.lt_or_ge t.block w.heap.size with h | h
    · exact h
    · simp [World.cell?, Array.getElem?_eq_none h] at ht0
  have el := as_elemV27 ⟨w.heap.size, 0, none⟩ t (((w.alloc (.cells #[.pointer (some t)] 86)).alloc (.cells #[.pointer (some ⟨3, 86, none⟩), .pointer (some ⟨w.heap.size, 0, none⟩), .int .u64 150] 103)).alloc (.cells #[.pointer (some ⟨3, 86, none⟩), .pointer (some ⟨w.heap.size, 0, none⟩), .int .u64 150] 103)) (by rw [World.cell?_alloc_lt _ _ ⟨w.heap.size, 0, none⟩ (by simp; omega)]; simp)
  have st := as_set25 t ⟨w.heap.size + 1 + 1 + 1, 0, none⟩ n old ((((w.alloc (.cells #[.pointer (some t)] 86)).alloc (.cells #[.pointer (some ⟨3, 86, none⟩), .pointer (some ⟨w.heap.size, 0, none⟩), .int .u64 150] 103)).alloc (.cells #[.pointer (some ⟨3, 86, none⟩), .pointer (some ⟨w.heap.size, 0, none⟩), .int .u64 150] 103)).alloc (.cells #[.int .i64 n] 84))
    (by rw [World.cell?_alloc_at _ _ _ _ (by simp)]; rfl)
    (by rw [World.cell?_alloc_lt _ _ t (by simp; omega), World.cell?_alloc_lt _ _ t (by simp; omega), World.cell?_alloc_lt _ _ t (by simp; omega), World.cell?_alloc_lt _ _ t htl]; exact ht0)
    (by rw [World.frozen?_alloc_old _ _ t (by simp; omega), World.frozen?_alloc_old _ _ t (by simp; omega), World.frozen?_alloc_old _ _ t (by simp; omega), World.frozen?_alloc_old _ _ t (Nat.ne_of_lt htl)]; exact hf0)
  go_enter Tryd.func43, Tryd.ntmps43
  go_wp2
  refine wp_loop_rounds 1 ?_
  rw [rounds_succ]
  go_wp2
  go_ret
  exact ⟨rfl, rfl⟩
end Go.Proofs.YtdgeinipdphoeaaDoor
/- Blocks of some cells: what is read of them, what a store leaves. -/
namespace Go.Proofs.YtdgeinipdphoeaaDoor
set_option linter.unusedVariables false
set_option linter.unusedSimpArgs false
open Go.RowKit

theorem blk_set {w : World} {b o : Nat} {cs : Array Value} {t : TypeId} {fz : Nat × Nat} {v : Value} (h : w.heap[b]? = some (.cells cs t fz)) : (w.setCell ⟨b, o, none⟩ v).heap[b]? = some (.cells (cs.setIfInBounds o v) t fz) := by
  have hlt := (Array.getElem?_eq_some_iff.1 h).1
  have h' : w.heap[b] = .cells cs t fz := by simpa [Array.getElem?_eq_getElem hlt] using h
  show (w.heap.modify b _)[b]? = _
  rw [Array.getElem?_eq_getElem (by simpa using hlt), Array.getElem_modify_self, h']
  rfl
theorem blk_cell {w : World} {b o : Nat} {cs : Array Value} {t : TypeId} {fz : Nat × Nat} (h : w.heap[b]? = some (.cells cs t fz)) : w.cell? ⟨b, o, none⟩ = cs[o]? := by simp [World.cell?, h]
theorem blk_free {w : World} {b o : Nat} {cs : Array Value} {t : TypeId} (h : w.heap[b]? = some (.cells cs t (0, 0))) : w.frozen? ⟨b, o, none⟩ = false := by simp [World.frozen?, h]
theorem blk_lt {w : World} {b : Nat} {o : Obj} (h : w.heap[b]? = some o) : b < w.heap.size := (Array.getElem?_eq_some_iff.1 h).1
end Go.Proofs.YtdgeinipdphoeaaDoor
/- errors.Is at the two errors of package varint: nil, the same, the other one. (After the worked SentryIs.) -/
namespace Go.Proofs.YtdgeinipdphoeaaDoor
set_option linter.unusedVariables false
set_option linter.unusedSimpArgs false
open Go.RowKit Go.Extern.Stop Go.Stop Go.Extern

/-- An error of errors.New's make. -/
abbrev errV (a : Addr) : Value := .iface 138 (.pointer (some a))

def cmpRow : Array Value → Sem Value := Extern.ReflectliteType.method fun t => do Go.Extern.Rtype.noPackHeld "Comparable" t; pure (.bool (← typeInfo t).comparable)
theorem isTypeOf (v : Value) (w : World) : (Extern.ReflectliteType.typeOf #[.iface 138 v]).run Tryd.prog w = .ok (.iface 120 (.agg #[.pointer (some ⟨3, 138, none⟩)])) w := by kernel_rfl
theorem isComparable (w : World) : (cmpRow #[.agg #[.pointer (some ⟨3, 138, none⟩)]]).run Tryd.prog w = .ok (.bool true) w := by kernel_rfl
theorem isMethodComparable (v : Value) (w : World) : (Go.method Tryd.prog.types.size 120 v "Comparable").run Tryd.prog w = .ok (89, v) w := by kernel_rfl
theorem isComp : (Tryd.prog.info? 138).map (·.comparable) = some true := by kernel_rfl
theorem isSize : (Tryd.prog.info? 158).map (·.size) = some 1 := by kernel_rfl
theorem typesN : Tryd.prog.types.size = 170 := by kernel_rfl
theorem globalsN : Tryd.prog.globals.size = 3 := by kernel_rfl

theorem noIsE (v : Value) (xT : TypeId) (w : World) : (Instr.typeAssert (.iface 138 v) xT 135 true).run Tryd.prog w = .ok (.tuple #[.nilIface, .bool false]) w := run_typeAssert_lacksB Tryd.underlying135 (by kernel_rfl) (by kernel_rfl) v xT w
theorem noUnwrapE (v : Value) (xT : TypeId) (w : World) : (Instr.typeAssert (.iface 138 v) xT 128 true).run Tryd.prog w = .ok (.tuple #[.nilIface, .bool false]) w := run_typeAssert_lacksB Tryd.underlying128 (by kernel_rfl) (by kernel_rfl) v xT w
theorem noUnwrapsE (v : Value) (xT : TypeId) (w : World) : (Instr.typeAssert (.iface 138 v) xT 130 true).run Tryd.prog w = .ok (.tuple #[.nilIface, .bool false]) w := run_typeAssert_lacksB Tryd.underlying130 (by kernel_rfl) (by kernel_rfl) v xT w

/-- errors.Is(x, x), x a pointer to an errors.errorString. -/
theorem is_same (a : Addr) (w : World) :
    Calls Tryd.prog 63 #[errV a, errV a] w fun e w' => e = .returned (.bool true) ∧ w = w' := by
  obtain ⟨i, hi, hcmp⟩ := Option.map_eq_some_iff.1 isComp
  obtain ⟨j, hj, hjs⟩ := Option.map_eq_some_iff.1 isSize
  have h8 := @run_callFunc_extern Tryd.prog 60 _ Extern.ReflectliteType.typeOf Tryd.func60 (by kernel_rfl) (by kernel_rfl) (by kernel_rfl) (by kernel_rfl)
  have h32 := @run_callFunc_extern Tryd.prog 89 _ cmpRow Tryd.func89 (by kernel_rfl) (by kernel_rfl) (by kernel_rfl) (by kernel_rfl)
  have tT := isTypeOf
  have cT := isComparable
  have mR := isMethodComparable
  rw [typesN] at mR
  have heq := run_eql_iface_ptr_same (P := Tryd.prog) w a Tryd.underlying49 Tryd.underlying138 hi hcmp hj
  go_enter Tryd.func63, Tryd.ntmps63
  go_wp2
  refine wp_loop_rounds 1 ?_
  rw [rounds_succ]
  go_wp2
  go_ret
  exact ⟨rfl, rfl⟩

/-- errors.Is(nil, x). -/
theorem is_nil (b : Addr) (w : World) :
    Calls Tryd.prog 63 #[.nilIface, errV b] w fun e w' => e = .returned (.bool false) ∧ w = w' := by
  have hn := run_eql_iface_nil_left (P := Tryd.prog) w 138 (.pointer (some b)) Tryd.underlying49
  go_enter Tryd.func63, Tryd.ntmps63
  go_wp2
  go_ret
  exact ⟨rfl, rfl⟩

/-- errors.Is(x, y), two different pointers to errors.errorString: neither has Is nor Unwrap: false. -/
theorem is_other (a b : Addr) (ca cb : Array Value) (ta tb : TypeId) (w : World) (hne : a ≠ b) (ha : w.heap[a.block]? = some (.cells ca ta (0, 0))) (hb : w.heap[b.block]? = some (.cells cb tb (0, 0))) :
    Calls Tryd.prog 63 #[errV a, errV b] w fun e w' => e = .returned (.bool false) ∧ w = w' := by
  obtain ⟨i, hi, hcmp⟩ := Option.map_eq_some_iff.1 isComp
  obtain ⟨j, hj, hjs⟩ := Option.map_eq_some_iff.1 isSize
  have h8 := @run_callFunc_extern Tryd.prog 60 _ Extern.ReflectliteType.typeOf Tryd.func60 (by kernel_rfl) (by kernel_rfl) (by kernel_rfl) (by kernel_rfl)
  have h32 := @run_callFunc_extern Tryd.prog 89 _ cmpRow Tryd.func89 (by kernel_rfl) (by kernel_rfl) (by kernel_rfl) (by kernel_rfl)
  have tT := isTypeOf
  have cT := isComparable
  have mR := isMethodComparable
  rw [typesN] at mR
  have nE := noIsE
  have uE := noUnwrapE
  have vE := noUnwrapsE
  have heq := run_eql_iface_ptr_other (P := Tryd.prog) w Tryd.underlying49 Tryd.underlying138 hi hcmp hj (by rw [hjs]; decide) hne ha hb
  go_enter Tryd.func63, Tryd.ntmps63
  go_wp2
  refine wp_loop_rounds 1 ?_
  rw [rounds_succ]
  go_wp2
  go_ret
  exact ⟨rfl, rfl⟩

/-- What the two variables hold: two errors, at two places. -/
structure Sent (am an : Addr) (w : World) : Prop where
  none_ : w.cell? ⟨2, 0, none⟩ = some (errV an)
  more : w.cell? ⟨1, 0, none⟩ = some (errV am)
  ne : am ≠ an
  bm : ∃ c t, w.heap[am.block]? = some (.cells c t (0, 0))
  bn : ∃ c t, w.heap[an.block]? = some (.cells c t (0, 0))
theorem heap_lt {w : World} {k : Nat} {o : Obj} (h : w.heap[k]? = some o) : k < w.heap.size := (Array.getElem?_eq_some_iff.1 h).1
theorem Sent.below {am an : Addr} {w w' : World} (h : Sent am an w) (hb : Below w.heap.size w w') : Sent am an w' := by
  obtain ⟨h1, h2, h3, ⟨c, t, h4⟩, c', t', h5⟩ := h
  exact ⟨cell_step h1 hb, cell_step h2 hb, h3, ⟨c, t, (hb.block _ (heap_lt h4)).trans h4⟩, c', t', (hb.block _ (heap_lt h5)).trans h5⟩

/-- The error of a code. -/
def errOf (am an : Addr) (c : Nat) : Value := if c = 0 then .nilIface else if c = 20 then errV an else errV am

theorem told_any (am an : Addr) (c : Nat) (hc : c = 0 ∨ c = 20 ∨ c = 21) (w : World) (hs : Sent am an w) :
    Calls Tryd.prog 59 #[errOf am an c] w fun e w' => e = .returned (.int .i64 (c : Int)) ∧ w = w' := by
  obtain ⟨h1, h2, h3, ⟨c4, t4, h4⟩, c5, t5, h5⟩ := hs
  rcases hc with rfl | rfl | rfl
  · simp only [errOf, if_true]
    go_enter Tryd.func59, Tryd.ntmps59
    go_wp2_with (go_at_call 63; refine (is_nil _ _).mono ?_; rintro e w' ⟨rfl, rfl⟩)
    go_ret
    exact ⟨rfl, rfl⟩
  · have ho := hid (is_other an am c5 c4 t5 t4 w (Ne.symm h3) h5 h4)
    have hsm := hid (is_same an w)
    simp only [errOf]
    clear h3 h4 h5
    go_enter Tryd.func59, Tryd.ntmps59
    go_wp2_with (go_at_call 63; first | ((with_reducible refine (ho.out).mono ?_); rintro e w' ⟨rfl, rfl⟩) | ((with_reducible refine (hsm.out).mono ?_); rintro e w' ⟨rfl, rfl⟩))
    go_ret
    exact ⟨rfl, rfl⟩
  · have hsm := hid (is_same am w)
    simp only [errOf]
    clear h3 h4 h5
    go_enter Tryd.func59, Tryd.ntmps59
    go_wp2_with (go_at_call 63; ((with_reducible refine (hsm.out).mono ?_); rintro e w' ⟨rfl, rfl⟩))
    go_ret
    exact ⟨rfl, rfl⟩
end Go.Proofs.YtdgeinipdphoeaaDoor
/- Varints: numbers turned and turned back, by the program and by the reference. -/
namespace Go.Proofs.YtdgeinipdphoeaaDoor
set_option linter.unusedVariables false
set_option linter.unusedSimpArgs false
open Go.ChangeShapes Go.WideShapes Go.ChangeAt Go.RowKit

def turnV (n : Int) : Int := if n < 0 then 2 * (-1 - n) + 1 else 2 * n
def backV (n : Int) : Int := if n % 2 = 1 then -1 - n / 2 else n / 2
theorem backV_turnV (n : Int) : backV (turnV n) = n := by unfold backV turnV; (repeat' split) <;> omega
theorem turnV_backV {n : Int} (h : 0 ≤ n) : turnV (backV n) = n := by unfold backV turnV; (repeat' split) <;> omega
theorem turnV_is {n : Int} (h : -9223372036854775808 ≤ n ∧ n ≤ 9223372036854775807) : 0 ≤ turnV n ∧ turnV n ≤ 18446744073709551615 := by unfold turnV; split <;> omega
theorem backV_is {n : Int} (h : 0 ≤ n ∧ n ≤ 18446744073709551615) : -9223372036854775808 ≤ backV n ∧ backV n ≤ 9223372036854775807 := by unfold backV; split <;> omega

theorem refTurn_any (n : Int) (hn : -9223372036854775808 ≤ n ∧ n ≤ 9223372036854775807) (w : World) :
    Calls Tryd.prog 23 #[.int .i64 n] w fun e w' => e = .returned (.int .u64 (turnV n)) ∧ Below w.heap.size w w' := by
  by_cases h : n < 0
  · have e1 : turnV n = 2 * (-1 - n) + 1 := by simp [turnV, h]
    rw [e1]
    clear e1
    go_enter Tryd.func23, Tryd.ntmps23
    go_wp2
    ((show bodyPost _ _ _ _ _ _); refine bodyPost_ret (by simp only [results, Tryd.results23]; go_simp; try rfl) rfl ?_)
    exact ⟨rfl, Below.refl _ _⟩
  · have e1 : turnV n = 2 * n := by simp [turnV, h]
    have h' : 0 ≤ n := by omega
    rw [e1]
    clear e1 h
    go_enter Tryd.func23, Tryd.ntmps23
    go_wp2
    ((show bodyPost _ _ _ _ _ _); refine bodyPost_ret (by simp only [results, Tryd.results23]; go_simp; try rfl) rfl ?_)
    exact ⟨rfl, Below.refl _ _⟩
theorem refBack_any (n : Int) (hn : 0 ≤ n ∧ n ≤ 18446744073709551615) (w : World) :
    Calls Tryd.prog 27 #[.int .u64 n] w fun e w' => e = .returned (.int .i64 (backV n)) ∧ Below w.heap.size w w' := by
  by_cases h : n % 2 = 1
  · have e1 : backV n = -1 - n / 2 := by simp [backV, h]
    rw [e1]
    clear e1
    go_enter Tryd.func27, Tryd.ntmps27
    go_wp2
    ((show bodyPost _ _ _ _ _ _); refine bodyPost_ret (by simp only [results, Tryd.results27]; go_simp; try rfl) rfl ?_)
    exact ⟨rfl, Below.refl _ _⟩
  · have e1 : backV n = n / 2 := by simp [backV, h]
    rw [e1]
    clear e1
    go_enter Tryd.func27, Tryd.ntmps27
    go_wp2
    ((show bodyPost _ _ _ _ _ _); refine bodyPost_ret (by simp only [results, Tryd.results27]; go_simp; try rfl) rfl ?_)
    exact ⟨rfl, Below.refl _ _⟩

theorem ofInt_at (x : Int) (X : Nat) (h : x % 18446744073709551616 = (X : Int)) : (BitVec.ofInt 64 x).toNat = X := by
  rw [BitVec.toNat_ofInt]
  have : x % ((2 : Nat) ^ 64 : Nat) = (X : Int) := by simpa using h
  rw [this]; simp
theorem bits_xor_u64 (x y : Int) : bits .xor .u64 x y = IntKind.u64.wrap (((BitVec.ofInt 64 x).toNat ^^^ (BitVec.ofInt 64 y).toNat : Nat) : Int) := by
  show IntKind.u64.wrap ((BitVec.ofInt 64 x ^^^ BitVec.ofInt 64 y).toNat : Int) = _
  rw [BitVec.toNat_xor]
theorem bits_xor_i64 (x y : Int) : bits .xor .i64 x y = IntKind.i64.wrap (((BitVec.ofInt 64 x).toNat ^^^ (BitVec.ofInt 64 y).toNat : Nat) : Int) := by
  show IntKind.i64.wrap ((BitVec.ofInt 64 x ^^^ BitVec.ofInt 64 y).toNat : Int) = _
  rw [BitVec.toNat_xor]
theorem bits_one (n : Nat) (h : n < 18446744073709551616) : bits .and .u64 (n : Int) 1 = ((n % 2 : Nat) : Int) := by
  have e : bits .and .u64 (n : Int) 1 = IntKind.u64.wrap (((BitVec.ofInt 64 (n : Int)).toNat &&& (BitVec.ofInt 64 1).toNat : Nat) : Int) := by
    show IntKind.u64.wrap ((BitVec.ofInt 64 (n : Int) &&& BitVec.ofInt 64 1).toNat : Int) = _
    rw [BitVec.toNat_and]
  rw [e, ofInt_at (n : Int) n (by omega), ofInt_at 1 1 (by omega), Nat.and_one_is_mod, IntKind.wrap_u64]
  omega
theorem xor_ones {x : Nat} (h : x < 18446744073709551616) : x ^^^ 18446744073709551615 = 18446744073709551615 - x := by
  have h1 : (BitVec.ofNat 64 x ^^^ BitVec.allOnes 64).toNat = (~~~ BitVec.ofNat 64 x).toNat := by rw [BitVec.xor_allOnes]
  rw [BitVec.toNat_xor, BitVec.toNat_not, BitVec.toNat_allOnes, BitVec.toNat_ofNat, Nat.mod_eq_of_lt (by simpa using h)] at h1
  simpa using h1

theorem turn_any (n : Int) (hn : -9223372036854775808 ≤ n ∧ n ≤ 9223372036854775807) (w : World) :
    Calls Tryd.prog 18 #[.int .i64 n] w fun e w' => e = .returned (.int .u64 (turnV n)) ∧ Below w.heap.size w w' := by
  have hv : bits .xor .u64 (IntKind.u64.wrap (IntKind.u64.wrap n * 2)) (IntKind.u64.wrap (n / 9223372036854775808)) = turnV n := by
    rw [bits_xor_u64]
    by_cases h : n < 0
    · have e2 : (BitVec.ofInt 64 (IntKind.u64.wrap (n / 9223372036854775808))).toNat = 18446744073709551615 := ofInt_at _ _ (by simp only [IntKind.wrap_u64]; omega)
      have e1 : (BitVec.ofInt 64 (IntKind.u64.wrap (IntKind.u64.wrap n * 2))).toNat = (2 * n + 18446744073709551616).toNat := ofInt_at _ _ (by simp only [IntKind.wrap_u64]; omega)
      rw [e1, e2, xor_ones (by omega), IntKind.wrap_u64]
      simp only [turnV, if_pos h]
      omega
    · have e2 : (BitVec.ofInt 64 (IntKind.u64.wrap (n / 9223372036854775808))).toNat = 0 := ofInt_at _ _ (by simp only [IntKind.wrap_u64]; omega)
      have e1 : (BitVec.ofInt 64 (IntKind.u64.wrap (IntKind.u64.wrap n * 2))).toNat = (2 * n).toNat := ofInt_at _ _ (by simp only [IntKind.wrap_u64]; omega)
      rw [e1, e2, Nat.xor_zero, IntKind.wrap_u64]
      simp only [turnV, if_neg h]
      omega
  go_enter Tryd.func18, Tryd.ntmps18
  go_wp2
  ((show bodyPost _ _ _ _ _ _); refine bodyPost_ret (by simp only [results, Tryd.results18]; go_simp; try rfl) rfl ?_)
  exact ⟨rfl, Below.refl _ _⟩
theorem back_any (n : Int) (hn : 0 ≤ n ∧ n ≤ 18446744073709551615) (w : World) :
    Calls Tryd.prog 42 #[.int .u64 n] w fun e w' => e = .returned (.int .i64 (backV n)) ∧ Below w.heap.size w w' := by
  have hv : bits .xor .i64 (n / 2) (wrap64 (-wrap64 (bits .and .u64 n 1))) = backV n := by
    obtain ⟨N, rfl⟩ := Int.eq_ofNat_of_zero_le hn.1
    rw [bits_one N (by omega), bits_xor_i64]
    by_cases h : N % 2 = 1
    · have e2 : (BitVec.ofInt 64 (wrap64 (-wrap64 ((N % 2 : Nat) : Int)))).toNat = 18446744073709551615 := ofInt_at _ _ (by rw [h]; unfold wrap64; omega)
      have e1 : (BitVec.ofInt 64 ((N : Int) / 2)).toNat = N / 2 := ofInt_at _ _ (by omega)
      rw [e1, e2, xor_ones (by omega), IntKind.wrap_i64]
      simp only [backV]
      rw [if_pos (by omega)]
      omega
    · have e2 : (BitVec.ofInt 64 (wrap64 (-wrap64 ((N % 2 : Nat) : Int)))).toNat = 0 := ofInt_at _ _ (by rw [show N % 2 = 0 by omega]; unfold wrap64; omega)
      have e1 : (BitVec.ofInt 64 ((N : Int) / 2)).toNat = N / 2 := ofInt_at _ _ (by omega)
      rw [e1, e2, Nat.xor_zero, IntKind.wrap_i64]
      simp only [backV]
      rw [if_neg (by omega)]
      omega
  go_enter Tryd.func42, Tryd.ntmps42
  go_wp2
  ((show bodyPost _ _ _ _ _ _); refine bodyPost_ret (by simp only [results, Tryd.results42]; go_simp; try rfl) rfl ?_)
  exact ⟨rfl, Below.refl _ _⟩
end Go.Proofs.YtdgeinipdphoeaaDoor
/- Varints: the reference's 'Put'. -/
namespace Go.Proofs.YtdgeinipdphoeaaDoor
set_option linter.unusedVariables false
set_option linter.unusedSimpArgs false
open Go.ChangeShapes Go.WideShapes Go.ChangeAt Go.RowKit

/-- A number's bytes: seven binary digits each, the least first. -/
def putB (n : Nat) : List UInt8 := if n < 128 then [UInt8.ofNat n] else UInt8.ofNat (128 + n % 128) :: putB (n / 128)
decreasing_by omega
theorem putB_length : ∀ (k n : Nat), n < 128 ^ (k + 1) → (putB n).length ≤ k + 1
  | 0, n, h => by rw [putB, if_pos (by simpa using h)]; simp
  | k + 1, n, h => by
    rw [putB]
    split
    · simp
    · have : n / 128 < 128 ^ (k + 1) := by rw [Nat.div_lt_iff_lt_mul (by decide), ← Nat.pow_succ]; exact h
      have := putB_length k _ this
      simpa using this
theorem putB_ten {n : Nat} (h : n ≤ 18446744073709551615) : (putB n).length ≤ 10 := putB_length 9 n (by
  have : (128 : Nat) ^ 10 = 1180591620717411303424 := by decide
  rw [this]; omega)
abbrev strV (l : List UInt8) : Value := .string ⟨l.toArray⟩

theorem conv_one {w : World} {b : Nat} {m : Nat} (h : w.cell? ⟨b, 0, none⟩ = some (.int .u8 (m : Int))) (hm : m < 256) :
    (convert 45 9 (.slice (some ⟨b, 0, none⟩) 1 1)).run Tryd.prog w = .ok (strV [UInt8.ofNat m]) w := by
  refine run_convert_bytes_back (l := [UInt8.ofNat m]) w _ _ _ _ 1 Tryd.underlying45 Tryd.underlying5 Tryd.underlying9 (fun j hj => ?_)
  simp at hj
  subst hj
  simp [Addr.add, h, Nat.mod_eq_of_lt hm]

theorem strV_cons (b : UInt8) (l : List UInt8) : strV (b :: l) = .string (({ data := #[b] } : ByteArray) ++ { data := l.toArray }) := by
  congr 1

set_option maxHeartbeats 1000000 in
set_option maxRecDepth 100000 in
theorem refPut_any : ∀ (n : Nat) (hn : n ≤ 18446744073709551615) (w : World),
    Calls Tryd.prog 22 #[.int .u64 (n : Int)] w fun e w' => e = .returned (strV (putB n)) ∧ Below w.heap.size w w' := by
  intro n
  induction n using Nat.strongRecOn with
  | _ n ih =>
    intro hn w
    by_cases h : n < 128
    · have e1 : putB n = [UInt8.ofNat n] := by rw [putB, if_pos h]
      rw [e1]
      clear e1 ih
      have hc := fun (w : World) b (h0 : w.cell? ⟨b, 0, none⟩ = some (.int .u8 (n : Int))) => conv_one h0 (by omega)
      go_enter Tryd.func22, Tryd.ntmps22
      go_wp2
      ((show bodyPost _ _ _ _ _ _); refine bodyPost_ret (by simp only [results, Tryd.results22]; go_simp; try rfl) rfl ?_)
      exact ⟨rfl, by (repeat' (first | (with_reducible exact Below.refl _ _) | (with_reducible assumption) | (with_reducible refine Below.new ?_ _) | (with_reducible refine Below.alloc ?_ ?_ _) | (with_reducible refine Below.drew ?_) | (with_reducible refine Below.drewN ?_ _) | (with_reducible refine Below.setCell ?_ ?_ _) | (refine Below.step ?_ (by assumption)) | go_size))⟩
    · have e1 : putB n = UInt8.ofNat (128 + n % 128) :: putB (n / 128) := by rw [putB, if_neg h]
      rw [e1]
      clear e1
      have hl : (putB (n / 128)).length ≤ 10 := putB_ten (by omega)
      obtain ⟨R, hR⟩ : ∃ R, putB (n / 128) = R := ⟨_, rfl⟩
      have IH := hid (fun w => ih (n / 128) (by omega) (by omega) w)
      rw [hR] at IH hl ⊢
      clear ih hR
      have h' : 128 ≤ n := by omega
      clear h
      obtain ⟨M, hM⟩ : ∃ M, 128 + n % 128 = M := ⟨_, rfl⟩
      rw [hM]
      have hM2 : M < 256 := by omega
      have hc := fun (w : World) b (h0 : w.cell? ⟨b, 0, none⟩ = some (.int .u8 (M : Int))) => conv_one h0 hM2
      have d2 : IntKind.u8.wrap (IntKind.u64.wrap (128 + (n : Int).tmod 128)) = (M : Int) := by
        rw [Int.tmod_eq_emod_of_nonneg (by omega), IntKind.wrap_u64]; simp [IntKind.wrap, IntKind.bits, IntKind.signed]; omega
      have d1 := hid (show IntKind.u64.wrap ((n : Int) / 128) = ((n / 128 : Nat) : Int) by rw [IntKind.wrap_u64]; omega)
      clear hM
      go_enter Tryd.func22, Tryd.ntmps22
      go_wp2
      go_region_with (go_at_call 22; rw [d1.out]; (with_reducible refine (IH.out _).mono ?_); rintro e w1 ⟨rfl, hb1⟩; obtain ⟨hc1, hf1, hk1, hz1⟩ := bcell3 hb1; (try simp only [World.size_alloc, World.size_drew] at hz1))
      all_goals (go_wp2; ((show bodyPost _ _ _ _ _ _); refine bodyPost_ret (by simp only [results, Tryd.results22]; go_simp; try rfl) rfl ?_); exact ⟨by rw [strV_cons], by (repeat' (first | (with_reducible exact Below.refl _ _) | (with_reducible assumption) | (with_reducible refine Below.new ?_ _) | (with_reducible refine Below.alloc ?_ ?_ _) | (with_reducible refine Below.drew ?_) | (with_reducible refine Below.drewN ?_ _) | (with_reducible refine Below.setCell ?_ ?_ _) | (refine Below.step ?_ (by assumption)) | go_size))⟩)
end Go.Proofs.YtdgeinipdphoeaaDoor
/- Varints, plain: what a number's bytes say. -/
namespace Go.Proofs.YtdgeinipdphoeaaDoor
set_option linter.unusedVariables false

/-- What bytes say: seven binary digits each, the least first. -/
def valB : List UInt8 → Nat
  | [] => 0
  | b :: l => b.toNat % 128 + 128 * valB l
theorem valB_putB (n : Nat) : valB (putB n) = n := by
  induction n using Nat.strongRecOn with
  | _ n ih =>
    rw [putB]
    split
    · simp [valB]; omega
    · rw [valB, ih (n / 128) (by omega)]
      simp
      omega
/-- All bytes but the last bear the mark 'more'; the last does not. -/
theorem putB_marks (n : Nat) : ∃ l b, putB n = l ++ [b] ∧ b.toNat < 128 ∧ (∀ c ∈ l, 128 ≤ c.toNat) ∧ (l ≠ [] → b.toNat ≠ 0) := by
  induction n using Nat.strongRecOn with
  | _ n ih =>
    rw [putB]
    split
    · exact ⟨[], UInt8.ofNat n, rfl, by simp; omega, by simp, by simp⟩
    · obtain ⟨l, b, h1, h2, h3, h4⟩ := ih (n / 128) (by omega)
      refine ⟨UInt8.ofNat (128 + n % 128) :: l, b, by rw [h1]; rfl, h2, fun c hc => ?_, fun _ => ?_⟩
      · rcases List.mem_cons.1 hc with rfl | hc
        · simp; omega
        · exact h3 c hc
      · by_cases hl : l = []
        · subst hl
          intro hb
          have h5 := valB_putB (n / 128)
          rw [h1] at h5
          simp [valB, hb] at h5
          omega
        · exact h4 hl
end Go.Proofs.YtdgeinipdphoeaaDoor
/- Varints, plain: where a number's bytes end, what they say, and when they are right. -/
namespace Go.Proofs.YtdgeinipdphoeaaDoor
set_option linter.unusedVariables false

/-- How many bytes a number has that stands ahead: up to the first one without a mark, of at most k; 0: there is none. -/
def sizeF : Nat → List UInt8 → Nat
  | 0, _ => 0
  | _ + 1, [] => 0
  | k + 1, c :: l => if c.toNat < 128 then 1 else match sizeF k l with | 0 => 0 | s + 1 => s + 2
def sizeB (l : List UInt8) : Nat := sizeF 10 l
/-- The code, the number, how many bytes it has. -/
def nextV (l : List UInt8) : Nat × Nat × Nat :=
  if sizeB l = 0 ∧ l.length < 10 then (21, 0, 0)
  else if sizeB l = 0 ∨ (1 < sizeB l ∧ (l[sizeB l - 1]?.getD 0).toNat = 0) ∨ (sizeB l = 10 ∧ 1 < (l[sizeB l - 1]?.getD 0).toNat) then (20, 0, 0)
  else (0, valB (l.take (sizeB l)), sizeB l)

theorem sizeF_none : ∀ (k : Nat) (l : List UInt8), (∀ c ∈ l.take k, 128 ≤ c.toNat) → sizeF k l = 0
  | 0, _, _ => rfl
  | _ + 1, [], _ => rfl
  | k + 1, c :: l, h => by
    have h1 := h c (by simp)
    have h2 := sizeF_none k l fun x hx => h x (by simp [hx])
    rw [sizeF, if_neg (by omega), h2]
theorem sizeF_at : ∀ (k : Nat) (p : List UInt8) (b : UInt8) (r : List UInt8), p.length < k → b.toNat < 128 → (∀ c ∈ p, 128 ≤ c.toNat) → sizeF k (p ++ b :: r) = p.length + 1
  | 0, _, _, _, h, _, _ => by omega
  | k + 1, [], b, r, _, h, _ => by simp [sizeF, h]
  | k + 1, c :: p, b, r, h1, h2, h3 => by
    have h4 := h3 c (by simp)
    have h5 := sizeF_at k p b r (by simpa using h1) h2 fun x hx => h3 x (by simp [hx])
    rw [List.cons_append, sizeF, if_neg (by omega), h5]
    rfl
theorem sizeF_cases : ∀ (k : Nat) (l : List UInt8), (∀ c ∈ l.take k, 128 ≤ c.toNat) ∨ ∃ p b r, l = p ++ b :: r ∧ p.length < k ∧ b.toNat < 128 ∧ ∀ c ∈ p, 128 ≤ c.toNat
  | 0, _ => .inl (by simp)
  | _ + 1, [] => .inl (by simp)
  | k + 1, c :: l => by
    by_cases hc : c.toNat < 128
    · exact .inr ⟨[], c, l, rfl, by simp, hc, by simp⟩
    · rcases sizeF_cases k l with h | ⟨p, b, r, rfl, h1, h2, h3⟩
      · refine .inl fun x hx => ?_
        simp at hx
        rcases hx with rfl | hx
        · omega
        · exact h x hx
      · refine .inr ⟨c :: p, b, r, rfl, by simpa using h1, h2, fun x hx => ?_⟩
        rcases List.mem_cons.1 hx with rfl | hx
        · omega
        · exact h3 x hx

theorem valB_append (p q : List UInt8) : valB (p ++ q) = valB p + 128 ^ p.length * valB q := by
  induction p with
  | nil => simp [valB]
  | cons c p ih => rw [List.cons_append, valB, valB, ih, List.length_cons, Nat.pow_succ, Nat.mul_add, Nat.mul_comm (128 ^ p.length) 128, Nat.mul_assoc]; omega
theorem valB_lt (p : List UInt8) : valB p < 128 ^ p.length := by
  induction p with
  | nil => simp [valB]
  | cons c p ih => rw [valB, List.length_cons, Nat.pow_succ]; omega

/-- The bytes of what right bytes say are these. -/
theorem putB_valB : ∀ (p : List UInt8) (b : UInt8), (∀ c ∈ p, 128 ≤ c.toNat) → b.toNat < 128 → (p ≠ [] → b.toNat ≠ 0) → putB (valB (p ++ [b])) = p ++ [b]
  | [], b, _, h, _ => by
    rw [List.nil_append, valB, valB, putB, if_pos (by omega), Nat.mod_eq_of_lt h]
    simp
  | c :: p, b, h1, h2, h3 => by
    have hc := h1 c (by simp)
    have hb := h3 (by simp)
    have ih := putB_valB p b (fun x hx => h1 x (by simp [hx])) h2 (fun _ => hb)
    have hpos : 0 < valB (p ++ [b]) := by
      rw [valB_append]
      have : 0 < valB [b] := by simp [valB]; omega
      have := Nat.mul_pos (Nat.pow_pos (n := p.length) (show 0 < 128 by decide)) this
      omega
    have hc2 := c.toNat_lt
    rw [List.cons_append, valB, putB, if_neg (by omega), show (c.toNat % 128 + 128 * valB (p ++ [b])) / 128 = valB (p ++ [b]) by omega, ih, show 128 + (c.toNat % 128 + 128 * valB (p ++ [b])) % 128 = c.toNat by omega]
    simp

theorem nextV_none {l : List UInt8} (h : ∀ c ∈ l.take 10, 128 ≤ c.toNat) : nextV l = (if l.length < 10 then 21 else 20, 0, 0) := by
  have e : sizeB l = 0 := sizeF_none 10 l h
  unfold nextV
  by_cases hl : l.length < 10 <;> simp [e, hl]
theorem nextV_at {p : List UInt8} {b : UInt8} {r : List UInt8} (h1 : p.length < 10) (h2 : b.toNat < 128) (h3 : ∀ c ∈ p, 128 ≤ c.toNat) :
    nextV (p ++ b :: r) = if (p ≠ [] ∧ b.toNat = 0) ∨ (p.length = 9 ∧ 1 < b.toNat) then (20, 0, 0) else (0, valB (p ++ [b]), p.length + 1) := by
  have e : sizeB (p ++ b :: r) = p.length + 1 := sizeF_at 10 p b r h1 h2 h3
  unfold nextV
  rw [e, if_neg (by omega)]
  have e2 : ((p ++ b :: r)[p.length + 1 - 1]?.getD 0) = b := by simp
  have e3 : (p ++ b :: r).take (p.length + 1) = p ++ [b] := by
    rw [List.take_append, List.take_of_length_le (by omega), show p.length + 1 - p.length = 1 by omega]
    rfl
  rw [e2, e3]
  have e4 : (1 < p.length + 1) = (p ≠ []) := by
    rw [eq_iff_iff, ← List.length_pos_iff]; omega
  simp only [e4, show (p.length + 1 = 10) = (p.length = 9) by rw [eq_iff_iff]; omega, Nat.add_eq_zero_iff, Nat.one_ne_zero, and_false, false_or]

/-- A number's bytes, whatever stands behind, are that number's. -/
theorem nextV_putB {n : Nat} (hn : n ≤ 18446744073709551615) (r : List UInt8) : nextV (putB n ++ r) = (0, n, (putB n).length) := by
  obtain ⟨p, b, e, h1, h2, h3⟩ := putB_marks n
  have hl := putB_ten hn
  have hv := valB_putB n
  rw [e] at hl hv
  simp at hl
  rw [e, List.append_assoc, List.singleton_append, nextV_at (by omega) h1 h2, if_neg, hv]
  · simp
  · rintro (⟨h, h'⟩ | ⟨h, h'⟩)
    · exact h3 h h'
    · have h4 := valB_append p [b]
      rw [hv, h] at h4
      simp only [valB, Nat.mul_zero, Nat.add_zero] at h4
      have : (128 : Nat) ^ 9 = 9223372036854775808 := by decide
      rw [this] at h4
      omega
/-- Bytes that are told to be a number's are that number's bytes, and others behind. -/
theorem nextV_ok {l : List UInt8} {n s : Nat} (h : nextV l = (0, n, s)) : l = putB n ++ l.drop s ∧ n ≤ 18446744073709551615 ∧ s = (putB n).length := by
  rcases sizeF_cases 10 l with h0 | ⟨p, b, r, rfl, h1, h2, h3⟩
  · rw [nextV_none h0] at h
    split at h <;> simp at h
  · rw [nextV_at h1 h2 h3] at h
    split at h
    · simp at h
    · rename_i hc
      simp only [Prod.mk.injEq, true_and] at h
      obtain ⟨rfl, rfl⟩ := h
      have e := putB_valB p b h3 h2 (fun hp hb => hc (.inl ⟨hp, hb⟩))
      refine ⟨?_, ?_, ?_⟩
      · rw [e]
        have : (p ++ b :: r).drop (p.length + 1) = r := by
          rw [List.drop_append, List.drop_of_length_le (by omega), show p.length + 1 - p.length = 1 by omega]
          rfl
        rw [this]
        simp
      · have h5 := valB_append p [b]
        have h6 := valB_lt p
        have h7 : valB [b] = b.toNat := by simp [valB, Nat.mod_eq_of_lt h2]
        rw [h7] at h5
        by_cases h9 : p.length = 9
        · have hb : b.toNat ≤ 1 := by
            rcases Nat.lt_or_ge 1 b.toNat with hb | hb
            · exact absurd (.inr ⟨h9, hb⟩) hc
            · exact hb
          have : (128 : Nat) ^ 9 = 9223372036854775808 := by decide
          rw [h9, this] at h5 h6
          omega
        · have h10 : (p ++ [b]).length ≤ 9 := by simp; omega
          have h11 := valB_lt (p ++ [b])
          have h12 : (128 : Nat) ^ (p ++ [b]).length ≤ 128 ^ 9 := Nat.pow_le_pow_right (by decide) h10
          have : (128 : Nat) ^ 9 = 9223372036854775808 := by decide
          omega
      · rw [e]; simp
theorem nextV_code (l : List UInt8) : (nextV l).1 = 0 ∨ (nextV l).1 = 20 ∨ (nextV l).1 = 21 := by
  unfold nextV
  split
  · simp
  · split <;> simp
theorem nextV_bad {l : List UInt8} (h : (nextV l).1 ≠ 0) : nextV l = ((nextV l).1, 0, 0) := by
  unfold nextV at h ⊢
  split
  · rfl
  · split
    · rfl
    · simp_all
theorem nextV_is (l : List UInt8) : (nextV l).2.1 ≤ 18446744073709551615 ∧ (nextV l).2.2 ≤ l.length := by
  by_cases h : (nextV l).1 = 0
  · obtain ⟨h1, h2, h3⟩ := nextV_ok (l := l) (n := (nextV l).2.1) (s := (nextV l).2.2) (by rw [← h])
    refine ⟨h2, ?_⟩
    have := congrArg List.length h1
    simp only [List.length_append] at this
    omega
  · rw [nextV_bad h]; simp
/-- What a number's bytes lack of the last asks for more. -/
theorem nextV_short {n : Nat} (hn : n ≤ 18446744073709551615) {k : Nat} (hk : k < (putB n).length) : nextV ((putB n).take k) = (21, 0, 0) := by
  obtain ⟨p, b, e, h1, h2, h3⟩ := putB_marks n
  have hl := putB_ten hn
  rw [e] at hl hk ⊢
  simp at hl hk
  have e2 : (p ++ [b]).take k = p.take k := by rw [List.take_append_of_le_length (by omega)]
  rw [e2, nextV_none, if_pos (by simp; omega)]
  intro c hc
  exact h2 c (List.mem_of_mem_take (List.mem_of_mem_take hc))
end Go.Proofs.YtdgeinipdphoeaaDoor
/- A region that draws its order, whose operations read and whose callees make new blocks alone: one walk in the order of the text, over the worlds that hold what the first one held ('w.plus x'). -/
namespace Go.RowKit
/-- What a world may have besides: new blocks, another count of draws. -/
structure Ext where
  more : Array Obj
  drawn : Nat
instance : Nonempty Ext := ⟨⟨#[], 0⟩⟩
/-- The world w with new blocks behind its own, and another count of draws. -/
def World.plus (w : World) (x : Ext) : World := { w with heap := w.heap ++ x.more, drawn := x.drawn }
theorem World.plus_below (w : World) (x : Ext) : Below w.heap.size w (World.plus w x) :=
  ⟨rfl, rfl, rfl, by simp [World.plus], fun k hk => by simp [World.plus, Array.getElem?_append_left hk]⟩
theorem World.plus_of_below {w w' : World} (h : Below w.heap.size w w') : ∃ x, w' = World.plus w x := by
  refine ⟨⟨w'.heap.extract w.heap.size w'.heap.size, w'.drawn⟩, ?_⟩
  obtain ⟨h1, h2, h3, h4, h5⟩ := h
  have e : w.heap ++ w'.heap.extract w.heap.size w'.heap.size = w'.heap := by
    apply Array.ext_getElem?
    intro i
    by_cases hi : i < w.heap.size
    · rw [Array.getElem?_append_left hi, h5 i hi]
    · rw [Array.getElem?_append_right (by omega), Array.getElem?_extract]
      by_cases hj : i < w'.heap.size
      · rw [if_pos (by omega), show w.heap.size + (i - w.heap.size) = i from by omega]
      · rw [if_neg (by omega)]; simp; omega
  cases w'
  simp only [World.plus] at *
  simp [h1, h2, h3, e]
theorem World.plus_cell {w : World} {a : Addr} {v : Value} (h : w.cell? a = some v) (x : Ext) : (World.plus w x).cell? a = some v :=
  ((World.plus_below w x).cell (World.block_lt_of_cell? _ _ h)).trans h
theorem World.plus_drew (w : World) : ∃ x, { w with drawn := w.drawn + 1 } = World.plus w x := World.plus_of_below ⟨rfl, rfl, rfl, Nat.le_refl _, fun _ _ => rfl⟩
end Go.RowKit
namespace Go
open Go.RowKit
theorem Calls.plus_of {P : Program} {f : FuncId} {args : Array Value} {w : World} {x : Ext} {v : Value}
    (h : Calls P f args (World.plus w x) fun e w' => e = .returned v ∧ Below (World.plus w x).heap.size (World.plus w x) w') : Calls P f args (World.plus w x) fun e w'' => e = .returned v ∧ ∃ y, w'' = World.plus w y :=
  h.mono fun _ _ ⟨he, hb⟩ => ⟨he, World.plus_of_below ((World.plus_below w x).step hb)⟩
theorem Calls.plus_of_same {P : Program} {f : FuncId} {args : Array Value} {w : World} {x : Ext} {v : Value}
    (h : Calls P f args (World.plus w x) fun e w' => e = .returned v ∧ World.plus w x = w') : Calls P f args (World.plus w x) fun e w'' => e = .returned v ∧ ∃ y, w'' = World.plus w y :=
  h.mono fun _ _ ⟨he, hb⟩ => ⟨he, x, hb.symm⟩
theorem Calls.bool_is {P : Program} {f : FuncId} {args : Array Value} {w : World} {b v : Bool} {R : World → Prop} (h : Calls P f args w fun e w' => e = .returned (.bool b) ∧ R w') (hb : b = v) : Calls P f args w fun e w' => e = .returned (.bool v) ∧ R w' := hb ▸ h
theorem wp_region_plus {P : Program} {id : Nat} {Q : Exit → Act → World → Prop} {a : Act} {w : World} {l : List Oper} (hm : P.follows .mixedOrders = true) (hB : Region.lexB .any l.toArray = true)
    (h : wpQuiet P l.toArray (fun w' => ∃ x, w' = World.plus w x) (fun a' => ∀ w', (∃ x, w' = World.plus w x) → Q .normal a' w') l a) : (Code.region id l.toArray true).wp P Q a w :=
  wp_region_quiet (C := fun w' => ∃ x, w' = World.plus w x) hm hB (World.plus_drew w) (by simpa using h)
end Go
