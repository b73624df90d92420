/- A range over a function, for callers and iterators under no fence: one contract for iterators ('SeqI': by the place in a list), one law for callers ('wp_range'). -/
import Derived.Test.YtcdfbcmhikhnjaaDoorBase
import Derived.RangeFuncNested
import Derived.RangeFuncBound
import Derived.RangeFuncCalls
import Derived.RangeFuncLeaves
import Derived.Shelf.Abstract
import Derived.Shelf.RegionOpen
import Derived.OwnWalkIn
import Derived.TacticsInMore
import Derived.LoopNIn
import Derived.LoopIn
namespace Go.Proofs.YtcdfbcmhikhnjaaDoor
set_option linter.unusedVariables false
set_option linter.unusedSimpArgs false
open Go.RowKit

section scopes
variable {F : Fence} {n : Nat} {P : Program} {b : Frame} {Q : Exit → Act → World → Prop} {a : Act} {w : World} {k : List Item} {cs : List Frame}
theorem stepR_scope {c : Code} : step P (lone (b.atR a (.code (.scope c) :: k)) cs w) = .next (lone (b.atR a (.code c :: .inScope c :: k)) cs w) :=
  step_lone_go (by simp [stepG, stepG.exec, Frame.atR])
theorem stepR_inScope {c : Code} : step P (lone (b.atR a (.inScope c :: k)) cs w) = .next (lone (b.atR a k) cs w) :=
  step_lone_go (by simp [stepG, stepG.exec, Frame.atR])
/-- As 'jumpFwd', within a fence. -/
def jumpFwdIn (F : Fence) (n : Nat) (P : Program) (c : Code) (Q : Exit → Act → World → Prop) : Exit → Act → World → Prop
  | .goto l, a, w => ∃ rest, findLabel c l = some rest ∧ rest.wpIn F n P (Exit.noGoto Q) a w
  | e, a, w => Q e a w
theorem jumpFwdIn_ret {c : Code} : jumpFwdIn F n P c Q .ret a w = Q .ret a w := rfl
theorem jumpFwdIn_normal {c : Code} : jumpFwdIn F n P c Q .normal a w = Q .normal a w := rfl
theorem jumpFwdIn_exit {c : Code} {id : Nat} : jumpFwdIn F n P c Q (.exit id) a w = Q (.exit id) a w := rfl
theorem jumpFwdIn_goto {c rest : Code} {l : Nat} (h : findLabel c l = some rest) (hr : rest.wpIn F n P (Exit.noGoto Q) a w) : jumpFwdIn F n P c Q (.goto l) a w := ⟨rest, h, hr⟩
theorem wpIn_scope_fwd {c : Code} (h : c.wpIn F n P (jumpFwdIn F n P c Q) a w) : (Code.scope c).wpIn F n P Q a w := by
  intro b k cs hro hb hr
  have h0 : (lone (b.atR a (.code (.scope c) :: k)) cs w).fenced P F := fenced_calm hb hr rfl
  obtain ⟨e, a₁, w₁, hq, harr⟩ := h b (.inScope c :: k) cs hro hb hr
  have hx : ∀ id, exitTo id (.inScope c :: k) = exitTo id k := fun id => by simp [exitTo]
  cases e with
  | normal => exact ⟨.normal, a₁, w₁, hq, .head h0 stepR_scope (StepsIn.trans harr (.one (fenced_calm hb hr rfl) stepR_inScope))⟩
  | exit id =>
    exact ⟨.exit id, a₁, w₁, hq, fun k' hk => .head h0 stepR_scope (harr.1 k' (by rw [hx]; exact hk)),
      fun hr' hk => let ⟨k₁, h1, h2⟩ := harr.2 hr' (by rw [hx]; exact hk); ⟨k₁, h1, .head h0 stepR_scope h2⟩⟩
  | goto l =>
    obtain ⟨rest, hf, hre⟩ := hq
    have hg : gotoIn l (.inScope c :: k) = some (.code rest :: .inScope c :: k) := by simp [gotoIn, hf]
    obtain ⟨e₂, a₂, w₂, hq₂, harr₂⟩ := hre b (.inScope c :: k) cs hro hb hr
    have s0 := StepsIn.head h0 (stepR_scope (P := P) (b := b) (a := a) (k := k) (cs := cs) (w := w) (c := c)) (harr.1 _ hg)
    cases e₂ with
    | normal => exact ⟨.normal, a₂, w₂, hq₂, StepsIn.trans s0 (StepsIn.trans harr₂ (.one (fenced_calm hb hr rfl) stepR_inScope))⟩
    | exit id =>
      exact ⟨.exit id, a₂, w₂, hq₂, fun k' hk => StepsIn.trans s0 (harr₂.1 k' (by rw [hx]; exact hk)),
        fun hr' hk => let ⟨k₁, h1, h2⟩ := harr₂.2 hr' (by rw [hx]; exact hk); ⟨k₁, h1, StepsIn.trans s0 h2⟩⟩
    | goto l => exact hq₂.elim
    | ret => exact ⟨_, a₂, w₂, hq₂, .of_steps s0 harr₂⟩
    | panic ch => exact ⟨_, a₂, w₂, hq₂, .of_steps s0 harr₂⟩
    | outgrown => exact ⟨_, a₂, w₂, hq₂, .of_steps s0 harr₂⟩
  | ret => exact ⟨_, a₁, w₁, hq, .of_steps (.one h0 stepR_scope) harr⟩
  | panic ch => exact ⟨_, a₁, w₁, hq, .of_steps (.one h0 stepR_scope) harr⟩
  | outgrown => exact ⟨_, a₁, w₁, hq, .of_steps (.one h0 stepR_scope) harr⟩
theorem wpIn_scope_straight {c : Code} (h : c.wpIn F n P (Exit.noGoto Q) a w) : (Code.scope c).wpIn F n P Q a w :=
  wpIn_scope_fwd (wpIn_mono h fun e a w q => by cases e <;> first | exact q | exact q.elim)
end scopes

/-- What the body of a loop keeps for the iterator: what lies below n₀, and the iterator's own blocks from lo on, below hi. -/
structure Prot (n₀ lo hi : Nat) (W W' : World) : Prop where
  size : W.heap.size ≤ W'.heap.size
  low : ∀ k, k < n₀ → W'.heap[k]? = W.heap[k]?
  mid : ∀ k, lo ≤ k → k < hi → W'.heap[k]? = W.heap[k]?
theorem Prot.refl (n₀ lo hi : Nat) (W : World) : Prot n₀ lo hi W W := ⟨Nat.le_refl _, fun _ _ => rfl, fun _ _ _ => rfl⟩
theorem Prot.trans {n₀ lo hi : Nat} {A B C : World} (h : Prot n₀ lo hi A B) (k : Prot n₀ lo hi B C) : Prot n₀ lo hi A C :=
  ⟨Nat.le_trans h.size k.size, fun i hi => (k.low i hi).trans (h.low i hi), fun i h1 h2 => (k.mid i h1 h2).trans (h.mid i h1 h2)⟩
theorem Prot.cell {n₀ lo hi : Nat} {W W' : World} (h : Prot n₀ lo hi W W') {b o : Nat} (hb : b < n₀ ∨ lo ≤ b ∧ b < hi) : W'.cell? ⟨b, o, none⟩ = W.cell? ⟨b, o, none⟩ :=
  World.cell?_of_block (w := W) (hb.elim (fun h1 => h.low b h1) (fun h1 => h.mid b h1.1 h1.2))
theorem Prot.frozen {n₀ lo hi : Nat} {W W' : World} (h : Prot n₀ lo hi W W') {b o : Nat} (hb : b < n₀ ∨ lo ≤ b ∧ b < hi) : W'.frozen? ⟨b, o, none⟩ = W.frozen? ⟨b, o, none⟩ :=
  World.frozen?_of_block (w := W) (hb.elim (fun h1 => h.low b h1) (fun h1 => h.mid b h1.1 h1.2))
theorem Prot.putObj {n₀ lo hi : Nat} (W : World) (l : Nat) (o' : Obj) (hl : n₀ ≤ l ∧ hi ≤ l) : Prot n₀ lo hi W (W.putObj l o') :=
  ⟨by simp, fun k hk => World.putObj_heap_other (by omega), fun k h1 h2 => World.putObj_heap_other (by omega)⟩

/-- An invariant abides an iterator's step: new blocks; a turn of a walk's object from B on. -/
def Abide (B : Nat) (p : World → Prop) : Prop :=
  ∀ W W' row, p W → W.grownBy W' row → (∀ r, row = some r → B ≤ r ∧ ∃ o : Obj, W.heap[r]? = some o ∧ o.isWalk = true) → p W'

/-- The contract of an iterator that gives 'enc 0' .. 'enc (N - 1)': whatever the rounds keep and do. -/
def SeqI (P : Program) (g : Nat) (lb : Array Value) (enc : Nat → Array Value) (n₀ lo hi : Nat) (N : Nat) (w : World) : Prop :=
  ∀ (n l : Nat) (J Jx : Nat → World → Prop) (W : World), 1 ≤ n → Below w.heap.size w W → (∀ k, Abide W.heap.size (J k)) → (∀ k, Abide W.heap.size (Jx k)) →
    (∀ k, k < N → ∀ W1, J k W1 → YieldAt Fence.wide (n - 1) P l (enc k) W1 fun e W' =>
      (e = .returned (.bool true) ∧ J (k + 1) W' ∧ Prot n₀ lo hi W1 W') ∨ (e = .returned (.bool false) ∧ Jx k W')) →
    J 0 W →
    CallsIn Fence.wide n P g (#[.func (.yield l) #[] #[]] ++ lb) W fun e W' => (∃ v, e = .returned v) ∧ (J N W' ∨ ∃ k, k < N ∧ Jx k W')

/-- A block that holds no cells has turned. -/
structure Turn (D : Nat) (w w' : World) : Prop where
  grown : w.grownBy w' (some D)
  size : w'.heap.size = w.heap.size
  obj : ∃ o : Obj, w.heap[D]? = some o ∧ o.isCells = false
theorem Turn.putObj {D : Nat} {w : World} {o o' : Obj} (h : w.heap[D]? = some o) (hc : o.isCells = false) : Turn D w (w.putObj D o') := ⟨grownBy_putObj' w D o', by simp, o, h, hc⟩
theorem Turn.block {D : Nat} {w w' : World} (h : Turn D w w') {k : Nat} (hk : k < w.heap.size) (hne : k ≠ D) : w'.heap[k]? = w.heap[k]? := h.grown.block k hk (fun e => hne (by cases e; rfl))
theorem Turn.lt {D : Nat} {w w' : World} (h : Turn D w w') : D < w.heap.size := by obtain ⟨o, ho, _⟩ := h.obj; exact (Array.getElem?_eq_some_iff.1 ho).1

/-- An invariant abides the turn of a block that holds no cells and lies from B on. -/
def Stab (B : Nat) (p : World → Prop) : Prop :=
  ∀ W W' row, p W → W.grownBy W' row → (∀ r, row = some r → B ≤ r ∧ ∃ o : Obj, W.heap[r]? = some o ∧ o.isCells = false) → p W'
theorem Stab.alloc {B : Nat} {p : World → Prop} (h : Stab B p) {W : World} (o : Obj) (hs : p W) : p (W.alloc o) := h W _ none hs (World.grownBy_alloc W o none) (fun r e => by cases e)
theorem Stab.turn {B D : Nat} {p : World → Prop} (h : Stab B p) {W W' : World} (hs : p W) (ht : Turn D W W') (hB : B ≤ D) : p W' := h W W' (some D) hs ht.grown (fun r e => by cases e; exact ⟨hB, ht.obj⟩)
theorem Stab.putObj {B : Nat} {p : World → Prop} (h : Stab B p) {W : World} {l : Nat} {o : Obj} (o' : Obj) (hs : p W) (hB : B ≤ l) (hl : W.heap[l]? = some o) (ho : o.isCells = false) : p (W.putObj l o') :=
  h.turn hs (Turn.putObj hl ho) hB
theorem Stab.and {B : Nat} {p q : World → Prop} (hp : Stab B p) (hq : Stab B q) : Stab B (fun W => p W ∧ q W) := fun W W' row hs hg hr => ⟨hp W W' row hs.1 hg hr, hq W W' row hs.2 hg hr⟩
theorem Stab.ex {B : Nat} {α : Sort _} {p : α → World → Prop} (hp : ∀ x, Stab B (p x)) : Stab B (fun W => ∃ x, p x W) := fun W W' row ⟨x, hs⟩ hg hr => ⟨x, hp x W W' row hs hg hr⟩
theorem Stab.all {B : Nat} {α : Sort _} {p : α → World → Prop} (hp : ∀ x, Stab B (p x)) : Stab B (fun W => ∀ x, p x W) := fun W W' row hs hg hr x => hp x W W' row (hs x) hg hr
theorem Stab.pure {B : Nat} (p : Prop) : Stab B (fun _ => p) := fun _ _ _ hs _ _ => hs
theorem Stab.block {B b : Nat} {c : Array Value} {t : TypeId} {f : Nat × Nat} : Stab B (fun W => W.heap[b]? = some (.cells c t f)) := fun W W' row hs hg hr =>
  (hg.block b (Array.getElem?_eq_some_iff.1 hs).1 (fun e => by obtain ⟨_, o, ho, hc⟩ := hr b e.symm; rw [hs] at ho; cases ho; cases hc)).trans hs
theorem Stab.cell {B : Nat} {a : Addr} {v : Value} : Stab B (fun W => W.cell? a = some v) := fun W W' row hs hg hr => cell_kept hs hg (fun r e => (hr r e).2)
theorem Stab.free {B : Nat} {a : Addr} : Stab B (fun W => (∃ v, W.cell? a = some v) ∧ W.frozen? a = false) := fun W W' row ⟨⟨v, hs⟩, hf⟩ hg hr => ⟨⟨v, cell_kept hs hg (fun r e => (hr r e).2)⟩, (frozen_kept hs hg (fun r e => (hr r e).2)).trans hf⟩
theorem Stab.row {B base : Nat} {e : TypeId} {size : Nat} {v : Value} {n : Nat} {xs : List Value} : Stab B (fun W => W.ownsRow base e size v n xs) := fun W W' row hs hg hr => by
  refine hs.kept hg ?_
  obtain ⟨_, h2⟩ := hs
  rcases h2 with ⟨rfl, _⟩ | ⟨g, cap, cur, rfl, _, hh, _⟩
  · exact .inl rfl
  · refine .inr fun e' => ?_
    obtain ⟨_, o, ho, hc⟩ := hr g e'.symm
    rw [hh] at ho; cases ho; cases hc
theorem Stab.below {B n₀ : Nat} {w₀ : World} (hn : n₀ ≤ w₀.heap.size) (hB : n₀ ≤ B) : Stab B (fun W => Below n₀ w₀ W) := fun W W' row hs hg hr =>
  hs.grown hg (Nat.le_trans hn hs.size) (fun k e => Nat.le_trans hB (hr k e).1)

/-- What a round's body keeps: non-cells from B on, and what the iterator wants. -/
structure Kept (B n₀ lo hi : Nat) (W W' : World) : Prop where
  from_ : KeepsFrom B W W'
  prot : Prot n₀ lo hi W W'
theorem Kept.refl (B n₀ lo hi : Nat) (W : World) : Kept B n₀ lo hi W W := ⟨KeepsFrom.refl _ _, Prot.refl _ _ _ _⟩
theorem Kept.trans {B n₀ lo hi : Nat} {X Y Z : World} (h : Kept B n₀ lo hi X Y) (k : Kept B n₀ lo hi Y Z) : Kept B n₀ lo hi X Z := ⟨h.from_.trans k.from_, h.prot.trans k.prot⟩
theorem Kept.alloc {B n₀ lo hi : Nat} {X W : World} (h : Kept B n₀ lo hi X W) (hn : n₀ ≤ W.heap.size) (hh : hi ≤ W.heap.size) (o : Obj) : Kept B n₀ lo hi X (W.alloc o) :=
  h.trans ⟨(KeepsOthers.alloc W o).from _, by simp, fun k hk => Below.heap_alloc W o k (by omega), fun k h1 h2 => Below.heap_alloc W o k (by omega)⟩
theorem Kept.drew {B n₀ lo hi : Nat} {X W : World} (h : Kept B n₀ lo hi X W) : Kept B n₀ lo hi X W.drew := h.trans ⟨(KeepsOthers.drew W).from _, Nat.le_refl _, fun _ _ => rfl, fun _ _ _ => rfl⟩
theorem Kept.setCell {B n₀ lo hi : Nat} {X W : World} (h : Kept B n₀ lo hi X W) {p : Addr} (hn : n₀ ≤ p.block) (hm : p.block < lo ∨ hi ≤ p.block) (u : Value) : Kept B n₀ lo hi X (W.setCell p u) :=
  h.trans ⟨(KeepsOthers.setCell W p u).from _, by simp [World.setCell], fun k hk => Below.heap_setCell W p u k (by omega), fun k h1 h2 => Below.heap_setCell W p u k (by omega)⟩
theorem Kept.step {B n₀ lo hi : Nat} {X W w1 : World} (h : Kept B n₀ lo hi X W) (hn : n₀ ≤ W.heap.size) (hh : hi ≤ W.heap.size) (hb : Below W.heap.size W w1) : Kept B n₀ lo hi X w1 :=
  h.trans ⟨⟨hb.size, fun k o _ hk _ => (hb.block k (Array.getElem?_eq_some_iff.1 hk).1).trans hk⟩, hb.size, fun k hk => hb.block k (by omega), fun k h1 h2 => hb.block k (by omega)⟩
/-- Behind an append: the row that may have been written is one of cells. -/
theorem Kept.grown {B n₀ lo hi : Nat} {X W W' : World} {row : Option Nat} (h : Kept B n₀ lo hi X W) (hg : W.grownBy W' row) (hn : n₀ ≤ W.heap.size) (hh : hi ≤ W.heap.size)
    (hr : ∀ k, row = some k → n₀ ≤ k ∧ (k < lo ∨ hi ≤ k) ∧ ∀ o, W.heap[k]? = some o → o.isCells = true) : Kept B n₀ lo hi X W' :=
  h.trans ⟨(KeepsOthers.of_grownBy hg (fun j o e ho => (hr j e).2.2 o ho)).from _, hg.size,
    fun k hk => hg.block k (by omega) (fun e => by have := (hr k e.symm).1; omega),
    fun k h1 h2 => hg.block k (by omega) (fun e => by have := (hr k e.symm).2.1; omega)⟩

/-- A row that the call owns is a row of cells, from 'base' on. -/
theorem row_of_own {w : World} {base : Nat} {e : TypeId} {size : Nat} {v : Value} {n : Nat} {xs : List Value} (h : w.ownsRow base e size v n xs) : ∀ k, v.ownBlock = some k → base ≤ k ∧ ∀ o, w.heap[k]? = some o → o.isCells = true := by
  intro k hk
  rcases h.2 with ⟨rfl, _⟩ | ⟨g, cap, cur, rfl, hg, hh, _⟩
  · cases hk
  · cases hk
    exact ⟨hg, fun o ho => by rw [hh] at ho; cases ho; rfl⟩

/-- How a round's body may be left. -/
def roundQ (B n₀ lo hi : Nat) (I : Nat → World → Prop) (Ix : Code → Nat → World → Prop) (k : Nat) (W : World) : Exit → Act → World → Prop
  | .normal, _, W' => Kept B n₀ lo hi W W' ∧ I (k + 1) W'
  | .ret, _, W' => Kept B n₀ lo hi W W' ∧ Ix .ret k W'
  | .exit id, _, W' => Kept B n₀ lo hi W W' ∧ Ix (.exit id) k W'
  | .goto t, _, W' => Kept B n₀ lo hi W W' ∧ Ix (.goto t) k W'
  | .panic _, _, _ => False
  | .outgrown, _, _ => False

/-- The mark on the activation's deferred calls that a range over a function lays. -/
abbrev mark (D : Nat) : Deferred := { target := .collected D, args := #[] }

set_option maxHeartbeats 1000000 in
/-- 'for .. := range g { body }', g a value of an iterator that gives xs. -/
theorem wp_range {P : Program} {g : Operand} {ps : Array Tmp} {assign body : Code} {Q : Exit → Act → World → Prop} {a : Act} {w : World}
    {gf : Nat} {lb : Array Value} (hg : a.eval g = .func (.func gf) #[] lb) (eg : ∀ args w, (callFunc gf args).run P w = .ok (.enter gf args) w)
    {enc : Nat → Array Value} {n₀ lo hi : Nat} {N : Nat} (hseq : SeqI P gf lb enc n₀ lo hi N w) (hn : n₀ ≤ w.heap.size ∧ hi ≤ w.heap.size) (hps : ∀ k, (enc k).size = ps.size)
    (I : Nat → World → Prop) (Ix : Code → Nat → World → Prop) (hI : ∀ k, Stab w.heap.size (I k)) (hIx : ∀ c k, Stab w.heap.size (Ix c k)) (h0 : I 0 w)
    (hround : ∀ (l k : Nat) (W : World), k < N → I k W → w.heap.size ≤ l → l < W.heap.size → w.heap.size ≤ W.heap.size →
      assign.wpIn (Fence.wide.inRound l) 8 P (Exit.then (fun a₁ W1 => Kept w.heap.size n₀ lo hi W W1 ∧ ∀ W2, Turn l W1 W2 → body.wpIn (Fence.wide.inRound l) 8 P (roundQ w.heap.size n₀ lo hi I Ix k W2) a₁ W2) (fun _ _ _ => False))
        { tmps := (ps.zip (enc k)).foldl (fun t (p, v) => t.setIfInBounds p v) a.tmps, defers := [] } W)
    (hdone : ∀ (D : Nat) (W : World), w.heap.size ≤ D → I N W → W.heap[D]? = some (.deferred (some [])) → Q .normal { a with defers := mark D :: a.defers } W)
    (hstop : ∀ (D : Nat) (c : Code) (k : Nat) (W : World), w.heap.size ≤ D → k < N → Ix c k W → W.heap[D]? = some (.deferred (some [])) → c.wp P Q { a with defers := mark D :: a.defers } W) :
    (Code.rangeFunc g ps assign body).wp P Q a w := by
  rw [← wpIn_wide (n := 10)]
  refine wpIn_rangeFunc ?_
  intro fn hfn
  obtain ⟨rec, hrec⟩ : ∃ rec : LoopState → Option Code → Loop, rec = fun st pe => { state := st, pending := pe, fn, tmps := a.tmps, params := ps, assign, body, defers := w.heap.size } := ⟨_, rfl⟩
  obtain ⟨W1, hW1⟩ : ∃ W1, (w.alloc (.deferred (some []))).alloc (.loop (rec .ready none)) = W1 := ⟨_, rfl⟩
  have hL1 : W1.heap[w.heap.size + 1]? = some (.loop (rec .ready none)) := by
    rw [← hW1]; have := World.alloc_heap_new (w.alloc (.deferred (some []))) (.loop (rec .ready none)); rwa [World.size_alloc] at this
  have hK1 : W1.heap[w.heap.size]? = some (.deferred (some [])) := by
    rw [← hW1]; exact (Below.heap_alloc _ _ _ (by simp)).trans (World.alloc_heap_new w _)
  have hI1 : I 0 W1 := by rw [← hW1]; exact (hI 0).alloc _ ((hI 0).alloc _ h0)
  have hb1 : Below w.heap.size w W1 := by rw [← hW1]; exact ((Below.refl _ w).alloc (Nat.le_refl _) _).alloc (by simp) _
  have hs1 : W1.heap.size = w.heap.size + 1 + 1 := by rw [← hW1]; simp
  refine ⟨w.heap.size + 1, [mark w.heap.size], W1, { target := .fn (.func gf) lb, args := #[.func (.yield (w.heap.size + 1)) #[] #[]] }, W1, gf,
    #[.func (.yield (w.heap.size + 1)) #[] #[]] ++ lb, W1, ?_, ?_, ?_, ?_, fun _ => by omega, ?_⟩
  · rw [← hW1, hrec]; exact run_enterLoop_outer _ _ _ _ _
  · simp only [resolve, hg]
    simp [go_sem]
  · intro f' hf'; trivial
  · simp [invoke, go_sem, eg]
  · have hnw : ∀ {A : World} {row : Option Nat}, (∀ r, row = some r → W1.heap.size ≤ r ∧ ∃ o : Obj, A.heap[r]? = some o ∧ o.isWalk = true) → (∀ r, row = some r → w.heap.size ≤ r ∧ ∃ o : Obj, A.heap[r]? = some o ∧ o.isCells = false) :=
      fun hr r e => by obtain ⟨hB, o, ho, hw⟩ := hr r e; exact ⟨by omega, o, ho, Obj.not_cells_of_walk hw⟩
    refine (hseq (10 - 1) (w.heap.size + 1)
      (fun k W => I k W ∧ W.heap[w.heap.size + 1]? = some (.loop (rec .ready none)) ∧ W.heap[w.heap.size]? = some (.deferred (some [])))
      (fun k W => ∃ c, Ix c k W ∧ W.heap[w.heap.size + 1]? = some (.loop (rec .done (some c))) ∧ W.heap[w.heap.size]? = some (.deferred (some [])))
      W1 (by omega) hb1
      (fun k A B row hs hg' hr => ⟨hI k A B row hs.1 hg' (hnw hr), (grownBy_keeps hg' (fun r e => (hr r e).2) hs.2.1 rfl).trans hs.2.1, (grownBy_keeps hg' (fun r e => (hr r e).2) hs.2.2 rfl).trans hs.2.2⟩)
      (fun k A B row hs hg' hr => by
        obtain ⟨c, hc, hl, hk⟩ := hs
        exact ⟨c, hIx c k A B row hc hg' (hnw hr), (grownBy_keeps hg' (fun r e => (hr r e).2) hl rfl).trans hl, (grownBy_keeps hg' (fun r e => (hr r e).2) hk rfl).trans hk⟩)
      ?_ ⟨hI1, hL1, hK1⟩).mono ?_
    · -- one round
      rintro k hlen W ⟨hi', hl, hk⟩
      have hlt : w.heap.size + 1 < W.heap.size := (Array.getElem?_eq_some_iff.1 hl).1
      have hy := run_yield (P := P) (args := enc k) hl (by rw [hrec]; exact hps _)
      rw [hrec] at hy
      refine ⟨fn, _, assign, body, hy, roundIn_of_wpIn hfn ?_⟩
      clear hy
      refine wpIn_mono (hround _ k W hlen hi' (by omega) hlt (by omega)) ?_
      intro e a' Wa hpost
      cases e with
      | normal =>
        obtain ⟨hka, hbody⟩ := hpost
        have hla := hka.from_.same _ _ (by omega) hl rfl
        have hda := hka.from_.same _ _ (Nat.le_refl _) hk rfl
        have hlta : w.heap.size + 1 < Wa.heap.size := (Array.getElem?_eq_some_iff.1 hla).1
        refine ⟨_, run_beginRound hla (by rw [hrec]), ?_⟩
        have hl2 : (Wa.putObj (w.heap.size + 1) (.loop { rec .ready none with state := .busy })).heap[w.heap.size + 1]? = some (.loop { rec .ready none with state := .busy }) := World.putObj_heap_same hlta
        have hk2 : (Wa.putObj (w.heap.size + 1) (.loop { rec .ready none with state := .busy })).heap[w.heap.size]? = some (.deferred (some [])) := (World.putObj_heap_other (by omega)).trans hda
        have hw2 : Prot n₀ lo hi Wa (Wa.putObj (w.heap.size + 1) (.loop { rec .ready none with state := .busy })) := Prot.putObj _ _ _ (by omega)
        refine wpIn_mono (hbody _ (Turn.putObj hla rfl)) ?_
        have fin : ∀ (jump : Option Code) (W3 : World), KeepsFrom w.heap.size (Wa.putObj (w.heap.size + 1) (.loop { rec .ready none with state := .busy })) W3 →
            (Instr.endRound (w.heap.size + 1) jump).run P W3 = .ok (.bool jump.isNone) (W3.putObj (w.heap.size + 1) (.loop (rec (if jump.isNone then .ready else .done) jump))) ∧
            W3.heap[w.heap.size + 1]? = some (.loop { rec .ready none with state := .busy }) ∧
            (W3.putObj (w.heap.size + 1) (.loop (rec (if jump.isNone then .ready else .done) jump))).heap[w.heap.size + 1]? = some (.loop (rec (if jump.isNone then .ready else .done) jump)) ∧
            (W3.putObj (w.heap.size + 1) (.loop (rec (if jump.isNone then .ready else .done) jump))).heap[w.heap.size]? = some (.deferred (some [])) := fun jump W3 hk3 => by
          have hl3 := hk3.same _ _ (by omega) hl2 rfl
          have := run_endRound (P := P) jump hl3
          rw [hrec] at this ⊢
          exact ⟨this, by rw [hrec] at hl3; exact hl3, World.putObj_heap_same (Array.getElem?_eq_some_iff.1 hl3).1, (World.putObj_heap_other (by omega)).trans (hk3.same _ _ (Nat.le_refl _) hk2 rfl)⟩
        rintro e a3 W3 hp
        cases e with
        | normal =>
          obtain ⟨hk3, hi3⟩ := hp
          obtain ⟨hr, hl3, hl4, hk4⟩ := fin none W3 hk3.from_
          exact ⟨_, _, hr, .inl ⟨rfl, ⟨(hI _).putObj _ hi3 (by omega) hl3 rfl, hl4, hk4⟩, hka.prot.trans ((hw2.trans hk3.prot).trans (Prot.putObj _ _ _ (by omega)))⟩⟩
        | ret =>
          obtain ⟨hk3, hi3⟩ := hp
          obtain ⟨hr, hl3, hl4, hk4⟩ := fin (some .ret) W3 hk3.from_
          exact ⟨_, _, hr, .inr ⟨rfl, .ret, (hIx _ _).putObj _ hi3 (by omega) hl3 rfl, hl4, hk4⟩⟩
        | exit id =>
          obtain ⟨hk3, hi3⟩ := hp
          obtain ⟨hr, hl3, hl4, hk4⟩ := fin (some (.exit id)) W3 hk3.from_
          exact ⟨_, _, hr, .inr ⟨rfl, .exit id, (hIx _ _).putObj _ hi3 (by omega) hl3 rfl, hl4, hk4⟩⟩
        | goto t =>
          obtain ⟨hk3, hi3⟩ := hp
          obtain ⟨hr, hl3, hl4, hk4⟩ := fin (some (.goto t)) W3 hk3.from_
          exact ⟨_, _, hr, .inr ⟨rfl, .goto t, (hIx _ _).putObj _ hi3 (by omega) hl3 rfl, hl4, hk4⟩⟩
        | panic ch => exact hp.elim
        | outgrown => exact hp.elim
      | ret => exact hpost.elim
      | exit id => exact hpost.elim
      | goto t => exact hpost.elim
      | panic ch => exact hpost.elim
      | outgrown => exact hpost.elim
    · -- behind the iterator
      rintro e W2 ⟨⟨v, rfl⟩, (⟨hi', hl, hk⟩ | ⟨k, hkl, c, hi', hl, hk⟩)⟩
      · exact ⟨none, _, by have := run_endLoop (P := P) hl (by rw [hrec]; simp); rw [hrec] at this; exact this, hdone _ _ (Nat.le_refl _) ((hI _).putObj _ hi' (by omega) hl rfl) ((World.putObj_heap_other (by omega)).trans hk)⟩
      · exact ⟨some c, _, by have := run_endLoop (P := P) hl (by rw [hrec]; simp); rw [hrec] at this; exact this, wpIn_wide.2 (hstop _ c k _ (Nat.le_refl _) hkl ((hIx c k).putObj _ hi' (by omega) hl rfl) ((World.putObj_heap_other (by omega)).trans hk))⟩

/-- A function whose body holds a range over a function. -/
theorem calls_marks {P : Program} {f : FuncId} {fn : Func} {c : Code} {args : Array Value} {w : World} {R : Ending → World → Prop}
    (hf : P.funcs[f]? = some fn) (hb : fn.body = some c)
    (h : c.wp P (bodyPostM Fence.wide 10 P fn R) { tmps := args ++ Array.replicate (fn.ntmps - args.size) undef, defers := [] } w) : Calls P f args w R :=
  callsIn_wide.1 (callsIn_of_wp_marks (F := Fence.wide) (n := 10) hf hb trivial (wpIn_wide.2 h) rfl)

/-- Its return behind one such loop. -/
theorem ret_mark {P : Program} {fn : Func} {R : Ending → World → Prop} {tmps : Array Value} {w : World} {D : Nat} {e : Exit} (he : e = .ret ∨ e = .normal) (hK : w.heap[D]? = some (.deferred (some [])))
    (h : ∀ w', Turn D w w' → ∃ v, (results fn tmps).run P w' = .ok v w' ∧ R (.returned v) w') : bodyPostM Fence.wide 10 P fn R e { tmps, defers := [mark D] } w := by
  obtain ⟨v, hr, hR⟩ := h _ (Turn.putObj hK rfl)
  rcases he with rfl | rfl
  · exact ⟨by simp, .inl ⟨_, _, rfl, run_takeDeferred hK, ⟨v, hr, hR⟩⟩⟩
  · exact ⟨by simp, .inl ⟨_, _, rfl, run_takeDeferred hK, ⟨v, hr, hR⟩⟩⟩
/-- Its return on a way without such a loop. -/
theorem ret_plain {P : Program} {fn : Func} {R : Ending → World → Prop} {tmps : Array Value} {w : World} {v : Value} {e : Exit} (he : e = .ret ∨ e = .normal) (hr : (results fn tmps).run P w = .ok v w) (hR : R (.returned v) w) :
    bodyPostM Fence.wide 10 P fn R e { tmps, defers := [] } w := by
  rcases he with rfl | rfl
  · exact ⟨v, hr, hR⟩
  · exact ⟨v, hr, hR⟩
end Go.Proofs.YtcdfbcmhikhnjaaDoor
