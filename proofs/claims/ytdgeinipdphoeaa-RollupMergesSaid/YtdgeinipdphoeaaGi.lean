/- Texts joined: Seq, SeqN, WideI, WideJ. -/
import Derived.Test.YtdgeinipdphoeaaGa
import Derived.RangeFuncNested
import Derived.RangeFuncBound
import Derived.RangeFuncCalls
import Derived.RangeFuncLeaves
import Derived.Shelf.Abstract
import Derived.Shelf.RegionOpen
import Derived.OwnWalkIn
import Derived.TacticsInMore
import Derived.LoopNIn
import Derived.LoopIn
import Derived.Test.YtdgeinipdphoeaaGb
/- A range over a function, for callers and iterators under no fence: one contract for iterators ('SeqI': by the place in a list), one law for callers ('wp_range'). -/
namespace Go.Proofs.Ytdgeinipdphoeaa
set_option linter.unusedVariables false
set_option linter.unusedSimpArgs false
open Go.RowKit

section scopes
variable {F : Fence} {n : Nat} {P : Program} {b : Frame} {Q : Exit → Act → World → Prop} {a : Act} {w : World} {k : List Item} {cs : List Frame}
theorem stepR_scope {c : Code} : step P (lone (b.atR a (.code (.scope c) :: k)) cs w) = .next (lone (b.atR a (.code c :: .inScope c :: k)) cs w) :=
  step_lone_go (by simp [stepG, stepG.exec, Frame.atR])
theorem stepR_inScope {c : Code} : step P (lone (b.atR a (.inScope c :: k)) cs w) = .next (lone (b.atR a k) cs w) :=
  step_lone_go (by simp [stepG, stepG.exec, Frame.atR])
/-- As 'jumpFwd', within a fence. -/
def jumpFwdIn (F : Fence) (n : Nat) (P : Program) (c : Code) (Q : Exit → Act → World → Prop) : Exit → Act → World → Prop
  | .goto l, a, w => ∃ rest, findLabel c l = some rest ∧ rest.wpIn F n P (Exit.noGoto Q) a w
  | e, a, w => Q e a w
theorem jumpFwdIn_ret {c : Code} : jumpFwdIn F n P c Q .ret a w = Q .ret a w := rfl
theorem jumpFwdIn_normal {c : Code} : jumpFwdIn F n P c Q .normal a w = Q .normal a w := rfl
theorem jumpFwdIn_exit {c : Code} {id : Nat} : jumpFwdIn F n P c Q (.exit id) a w = Q (.exit id) a w := rfl
theorem jumpFwdIn_goto {c rest : Code} {l : Nat} (h : findLabel c l = some rest) (hr : rest.wpIn F n P (Exit.noGoto Q) a w) : jumpFwdIn F n P c Q (.goto l) a w := ⟨rest, h, hr⟩
theorem wpIn_scope_fwd {c : Code} (h : c.wpIn F n P (jumpFwdIn F n P c Q) a w) : (Code.scope c).wpIn F n P Q a w := by
  intro b k cs hro hb hr
  have h0 : (lone (b.atR a (.code (.scope c) :: k)) cs w).fenced P F := fenced_calm hb hr rfl
  obtain ⟨e, a₁, w₁, hq, harr⟩ := h b (.inScope c :: k) cs hro hb hr
  have hx : ∀ id, exitTo id (.inScope c :: k) = exitTo id k := fun id => by simp [exitTo]
  cases e with
  | normal => exact ⟨.normal, a₁, w₁, hq, .head h0 stepR_scope (StepsIn.trans harr (.one (fenced_calm hb hr rfl) stepR_inScope))⟩
  | exit id =>
    exact ⟨.exit id, a₁, w₁, hq, fun k' hk => .head h0 stepR_scope (harr.1 k' (by rw [hx]; exact hk)),
      fun hr' hk => let ⟨k₁, h1, h2⟩ := harr.2 hr' (by rw [hx]; exact hk); ⟨k₁, h1, .head h0 stepR_scope h2⟩⟩
  | goto l =>
    obtain ⟨rest, hf, hre⟩ := hq
    have hg : gotoIn l (.inScope c :: k) = some (.code rest :: .inScope c :: k) := by simp [gotoIn, hf]
    obtain ⟨e₂, a₂, w₂, hq₂, harr₂⟩ := hre b (.inScope c :: k) cs hro hb hr
    have s0 := StepsIn.head h0 (stepR_scope (P := P) (b := b) (a := a) (k := k) (cs := cs) (w := w) (c := c)) (harr.1 _ hg)
    cases e₂ with
    | normal => exact ⟨.normal, a₂, w₂, hq₂, StepsIn.trans s0 (StepsIn.trans harr₂ (.one (fenced_calm hb hr rfl) stepR_inScope))⟩
    | exit id =>
      exact ⟨.exit id, a₂, w₂, hq₂, fun k' hk => StepsIn.trans s0 (harr₂.1 k' (by rw [hx]; exact hk)),
        fun hr' hk => let ⟨k₁, h1, h2⟩ := harr₂.2 hr' (by rw [hx]; exact hk); ⟨k₁, h1, StepsIn.trans s0 h2⟩⟩
    | goto l => exact hq₂.elim
    | ret => exact ⟨_, a₂, w₂, hq₂, .of_steps s0 harr₂⟩
    | panic ch => exact ⟨_, a₂, w₂, hq₂, .of_steps s0 harr₂⟩
    | outgrown => exact ⟨_, a₂, w₂, hq₂, .of_steps s0 harr₂⟩
  | ret => exact ⟨_, a₁, w₁, hq, .of_steps (.one h0 stepR_scope) harr⟩
  | panic ch => exact ⟨_, a₁, w₁, hq, .of_steps (.one h0 stepR_scope) harr⟩
  | outgrown => exact ⟨_, a₁, w₁, hq, .of_steps (.one h0 stepR_scope) harr⟩
theorem wpIn_scope_straight {c : Code} (h : c.wpIn F n P (Exit.noGoto Q) a w) : (Code.scope c).wpIn F n P Q a w :=
  wpIn_scope_fwd (wpIn_mono h fun e a w q => by cases e <;> first | exact q | exact q.elim)
end scopes

/-- What the body of a loop keeps for the iterator: what lies below n₀, and the iterator's own blocks from lo on, below hi. -/
structure Prot (n₀ lo hi : Nat) (W W' : World) : Prop where
  size : W.heap.size ≤ W'.heap.size
  low : ∀ k, k < n₀ → W'.heap[k]? = W.heap[k]?
  mid : ∀ k, lo ≤ k → k < hi → W'.heap[k]? = W.heap[k]?
theorem Prot.refl (n₀ lo hi : Nat) (W : World) : Prot n₀ lo hi W W := ⟨Nat.le_refl _, fun _ _ => rfl, fun _ _ _ => rfl⟩
theorem Prot.trans {n₀ lo hi : Nat} {A B C : World} (h : Prot n₀ lo hi A B) (k : Prot n₀ lo hi B C) : Prot n₀ lo hi A C :=
  ⟨Nat.le_trans h.size k.size, fun i hi => (k.low i hi).trans (h.low i hi), fun i h1 h2 => (k.mid i h1 h2).trans (h.mid i h1 h2)⟩
theorem Prot.cell {n₀ lo hi : Nat} {W W' : World} (h : Prot n₀ lo hi W W') {b o : Nat} (hb : b < n₀ ∨ lo ≤ b ∧ b < hi) : W'.cell? ⟨b, o, none⟩ = W.cell? ⟨b, o, none⟩ :=
  World.cell?_of_block (w := W) (hb.elim (fun h1 => h.low b h1) (fun h1 => h.mid b h1.1 h1.2))
theorem Prot.frozen {n₀ lo hi : Nat} {W W' : World} (h : Prot n₀ lo hi W W') {b o : Nat} (hb : b < n₀ ∨ lo ≤ b ∧ b < hi) : W'.frozen? ⟨b, o, none⟩ = W.frozen? ⟨b, o, none⟩ :=
  World.frozen?_of_block (w := W) (hb.elim (fun h1 => h.low b h1) (fun h1 => h.mid b h1.1 h1.2))
theorem Prot.putObj {n₀ lo hi : Nat} (W : World) (l : Nat) (o' : Obj) (hl : n₀ ≤ l ∧ hi ≤ l) : Prot n₀ lo hi W (W.putObj l o') :=
  ⟨by simp, fun k hk => World.putObj_heap_other (by omega), fun k h1 h2 => World.putObj_heap_other (by omega)⟩

/-- An invariant abides an iterator's step: new blocks; a turn of a walk's object from B on. -/
def Abide (B : Nat) (p : World → Prop) : Prop :=
  ∀ W W' row, p W → W.grownBy W' row → (∀ r, row = some r → B ≤ r ∧ ∃ o : Obj, W.heap[r]? = some o ∧ o.isWalk = true) → p W'

/-- The contract of an iterator that gives 'enc 0' .. 'enc (N - 1)': whatever the rounds keep and do. -/
def SeqI (P : Program) (g : Nat) (lb : Array Value) (enc : Nat → Array Value) (n₀ lo hi : Nat) (N : Nat) (w : World) : Prop :=
  ∀ (n l : Nat) (J Jx : Nat → World → Prop) (W : World), 1 ≤ n → Below w.heap.size w W → (∀ k, Abide W.heap.size (J k)) → (∀ k, Abide W.heap.size (Jx k)) →
    (∀ k, k < N → ∀ W1, J k W1 → YieldAt Fence.wide (n - 1) P l (enc k) W1 fun e W' =>
      (e = .returned (.bool true) ∧ J (k + 1) W' ∧ Prot n₀ lo hi W1 W') ∨ (e = .returned (.bool false) ∧ Jx k W')) →
    J 0 W →
    CallsIn Fence.wide n P g (#[.func (.yield l) #[] #[]] ++ lb) W fun e W' => (∃ v, e = .returned v) ∧ (J N W' ∨ ∃ k, k < N ∧ Jx k W')

/-- A block that holds no cells has turned. -/
structure Turn (D : Nat) (w w' : World) : Prop where
  grown : w.grownBy w' (some D)
  size : w'.heap.size = w.heap.size
  obj : ∃ o : Obj, w.heap[D]? = some o ∧ o.isCells = false
theorem Turn.putObj {D : Nat} {w : World} {o o' : Obj} (h : w.heap[D]? = some o) (hc : o.isCells = false) : Turn D w (w.putObj D o') := ⟨grownBy_putObj' w D o', by simp, o, h, hc⟩
theorem Turn.block {D : Nat} {w w' : World} (h : Turn D w w') {k : Nat} (hk : k < w.heap.size) (hne : k ≠ D) : w'.heap[k]? = w.heap[k]? := h.grown.block k hk (fun e => hne (by cases e; rfl))
theorem Turn.lt {D : Nat} {w w' : World} (h : Turn D w w') : D < w.heap.size := by obtain ⟨o, ho, _⟩ := h.obj; exact (Array.getElem?_eq_some_iff.1 ho).1

/-- An invariant abides the turn of a block that holds no cells and lies from B on. -/
def Stab (B : Nat) (p : World → Prop) : Prop :=
  ∀ W W' row, p W → W.grownBy W' row → (∀ r, row = some r → B ≤ r ∧ ∃ o : Obj, W.heap[r]? = some o ∧ o.isCells = false) → p W'
theorem Stab.alloc {B : Nat} {p : World → Prop} (h : Stab B p) {W : World} (o : Obj) (hs : p W) : p (W.alloc o) := h W _ none hs (World.grownBy_alloc W o none) (fun r e => by cases e)
theorem Stab.turn {B D : Nat} {p : World → Prop} (h : Stab B p) {W W' : World} (hs : p W) (ht : Turn D W W') (hB : B ≤ D) : p W' := h W W' (some D) hs ht.grown (fun r e => by cases e; exact ⟨hB, ht.obj⟩)
theorem Stab.putObj {B : Nat} {p : World → Prop} (h : Stab B p) {W : World} {l : Nat} {o : Obj} (o' : Obj) (hs : p W) (hB : B ≤ l) (hl : W.heap[l]? = some o) (ho : o.isCells = false) : p (W.putObj l o') :=
  h.turn hs (Turn.putObj hl ho) hB
theorem Stab.and {B : Nat} {p q : World → Prop} (hp : Stab B p) (hq : Stab B q) : Stab B (fun W => p W ∧ q W) := fun W W' row hs hg hr => ⟨hp W W' row hs.1 hg hr, hq W W' row hs.2 hg hr⟩
theorem Stab.ex {B : Nat} {α : Sort _} {p : α → World → Prop} (hp : ∀ x, Stab B (p x)) : Stab B (fun W => ∃ x, p x W) := fun W W' row ⟨x, hs⟩ hg hr => ⟨x, hp x W W' row hs hg hr⟩
theorem Stab.all {B : Nat} {α : Sort _} {p : α → World → Prop} (hp : ∀ x, Stab B (p x)) : Stab B (fun W => ∀ x, p x W) := fun W W' row hs hg hr x => hp x W W' row (hs x) hg hr
theorem Stab.pure {B : Nat} (p : Prop) : Stab B (fun _ => p) := fun _ _ _ hs _ _ => hs
theorem Stab.block {B b : Nat} {c : Array Value} {t : TypeId} {f : Nat × Nat} : Stab B (fun W => W.heap[b]? = some (.cells c t f)) := fun W W' row hs hg hr =>
  (hg.block b (Array.getElem?_eq_some_iff.1 hs).1 (fun e => by obtain ⟨_, o, ho, hc⟩ := hr b e.symm; rw [hs] at ho; cases ho; cases hc)).trans hs
theorem Stab.cell {B : Nat} {a : Addr} {v : Value} : Stab B (fun W => W.cell? a = some v) := fun W W' row hs hg hr => cell_kept hs hg (fun r e => (hr r e).2)
theorem Stab.free {B : Nat} {a : Addr} : Stab B (fun W => (∃ v, W.cell? a = some v) ∧ W.frozen? a = false) := fun W W' row ⟨⟨v, hs⟩, hf⟩ hg hr => ⟨⟨v, cell_kept hs hg (fun r e => (hr r e).2)⟩, (frozen_kept hs hg (fun r e => (hr r e).2)).trans hf⟩
theorem Stab.row {B base : Nat} {e : TypeId} {size : Nat} {v : Value} {n : Nat} {xs : List Value} : Stab B (fun W => W.ownsRow base e size v n xs) := fun W W' row hs hg hr => by
  refine hs.kept hg ?_
  obtain ⟨_, h2⟩ := hs
  rcases h2 with ⟨rfl, _⟩ | ⟨g, cap, cur, rfl, _, hh, _⟩
  · exact .inl rfl
  · refine .inr fun e' => ?_
    obtain ⟨_, o, ho, hc⟩ := hr g e'.symm
    rw [hh] at ho; cases ho; cases hc
theorem Stab.below {B n₀ : Nat} {w₀ : World} (hn : n₀ ≤ w₀.heap.size) (hB : n₀ ≤ B) : Stab B (fun W => Below n₀ w₀ W) := fun W W' row hs hg hr =>
  hs.grown hg (Nat.le_trans hn hs.size) (fun k e => Nat.le_trans hB (hr k e).1)

/-- What a round's body keeps: non-cells from B on, and what the iterator wants. -/
structure Kept (B n₀ lo hi : Nat) (W W' : World) : Prop where
  from_ : KeepsFrom B W W'
  prot : Prot n₀ lo hi W W'
theorem Kept.refl (B n₀ lo hi : Nat) (W : World) : Kept B n₀ lo hi W W := ⟨KeepsFrom.refl _ _, Prot.refl _ _ _ _⟩
theorem Kept.trans {B n₀ lo hi : Nat} {X Y Z : World} (h : Kept B n₀ lo hi X Y) (k : Kept B n₀ lo hi Y Z) : Kept B n₀ lo hi X Z := ⟨h.from_.trans k.from_, h.prot.trans k.prot⟩
theorem Kept.alloc {B n₀ lo hi : Nat} {X W : World} (h : Kept B n₀ lo hi X W) (hn : n₀ ≤ W.heap.size) (hh : hi ≤ W.heap.size) (o : Obj) : Kept B n₀ lo hi X (W.alloc o) :=
  h.trans ⟨(KeepsOthers.alloc W o).from _, by simp, fun k hk => Below.heap_alloc W o k (by omega), fun k h1 h2 => Below.heap_alloc W o k (by omega)⟩
theorem Kept.drew {B n₀ lo hi : Nat} {X W : World} (h : Kept B n₀ lo hi X W) : Kept B n₀ lo hi X W.drew := h.trans ⟨(KeepsOthers.drew W).from _, Nat.le_refl _, fun _ _ => rfl, fun _ _ _ => rfl⟩
theorem Kept.setCell {B n₀ lo hi : Nat} {X W : World} (h : Kept B n₀ lo hi X W) {p : Addr} (hn : n₀ ≤ p.block) (hm : p.block < lo ∨ hi ≤ p.block) (u : Value) : Kept B n₀ lo hi X (W.setCell p u) :=
  h.trans ⟨(KeepsOthers.setCell W p u).from _, by simp [World.setCell], fun k hk => Below.heap_setCell W p u k (by omega), fun k h1 h2 => Below.heap_setCell W p u k (by omega)⟩
theorem Kept.step {B n₀ lo hi : Nat} {X W w1 : World} (h : Kept B n₀ lo hi X W) (hn : n₀ ≤ W.heap.size) (hh : hi ≤ W.heap.size) (hb : Below W.heap.size W w1) : Kept B n₀ lo hi X w1 :=
  h.trans ⟨⟨hb.size, fun k o _ hk _ => (hb.block k (Array.getElem?_eq_some_iff.1 hk).1).trans hk⟩, hb.size, fun k hk => hb.block k (by omega), fun k h1 h2 => hb.block k (by omega)⟩
/-- Behind an append: the row that may have been written is one of cells. -/
theorem Kept.grown {B n₀ lo hi : Nat} {X W W' : World} {row : Option Nat} (h : Kept B n₀ lo hi X W) (hg : W.grownBy W' row) (hn : n₀ ≤ W.heap.size) (hh : hi ≤ W.heap.size)
    (hr : ∀ k, row = some k → n₀ ≤ k ∧ (k < lo ∨ hi ≤ k) ∧ ∀ o, W.heap[k]? = some o → o.isCells = true) : Kept B n₀ lo hi X W' :=
  h.trans ⟨(KeepsOthers.of_grownBy hg (fun j o e ho => (hr j e).2.2 o ho)).from _, hg.size,
    fun k hk => hg.block k (by omega) (fun e => by have := (hr k e.symm).1; omega),
    fun k h1 h2 => hg.block k (by omega) (fun e => by have := (hr k e.symm).2.1; omega)⟩

/-- A row that the call owns is a row of cells, from 'base' on. -/
theorem row_of_own {w : World} {base : Nat} {e : TypeId} {size : Nat} {v : Value} {n : Nat} {xs : List Value} (h : w.ownsRow base e size v n xs) : ∀ k, v.ownBlock = some k → base ≤ k ∧ ∀ o, w.heap[k]? = some o → o.isCells = true := by
  intro k hk
  rcases h.2 with ⟨rfl, _⟩ | ⟨g, cap, cur, rfl, hg, hh, _⟩
  · cases hk
  · cases hk
    exact ⟨hg, fun o ho => by rw [hh] at ho; cases ho; rfl⟩

/-- How a round's body may be left. -/
def roundQ (B n₀ lo hi : Nat) (I : Nat → World → Prop) (Ix : Code → Nat → World → Prop) (k : Nat) (W : World) : Exit → Act → World → Prop
  | .normal, _, W' => Kept B n₀ lo hi W W' ∧ I (k + 1) W'
  | .ret, _, W' => Kept B n₀ lo hi W W' ∧ Ix .ret k W'
  | .exit id, _, W' => Kept B n₀ lo hi W W' ∧ Ix (.exit id) k W'
  | .goto t, _, W' => Kept B n₀ lo hi W W' ∧ Ix (.goto t) k W'
  | .panic _, _, _ => False
  | .outgrown, _, _ => False

/-- The mark on the activation's deferred calls that a range over a function lays. -/
abbrev mark (D : Nat) : Deferred := { target := .collected D, args := #[] }

set_option maxHeartbeats 1000000 in
/-- 'for .. := range g { body }', g a value of an iterator that gives xs. -/
theorem wp_range {P : Program} {g : Operand} {ps : Array Tmp} {assign body : Code} {Q : Exit → Act → World → Prop} {a : Act} {w : World}
    {gf : Nat} {lb : Array Value} (hg : a.eval g = .func (.func gf) #[] lb) (eg : ∀ args w, (callFunc gf args).run P w = .ok (.enter gf args) w)
    {enc : Nat → Array Value} {n₀ lo hi : Nat} {N : Nat} (hseq : SeqI P gf lb enc n₀ lo hi N w) (hn : n₀ ≤ w.heap.size ∧ hi ≤ w.heap.size) (hps : ∀ k, (enc k).size = ps.size)
    (I : Nat → World → Prop) (Ix : Code → Nat → World → Prop) (hI : ∀ k, Stab w.heap.size (I k)) (hIx : ∀ c k, Stab w.heap.size (Ix c k)) (h0 : I 0 w)
    (hround : ∀ (l k : Nat) (W : World), k < N → I k W → w.heap.size ≤ l → l < W.heap.size → w.heap.size ≤ W.heap.size →
      assign.wpIn (Fence.wide.inRound l) 8 P (Exit.then (fun a₁ W1 => Kept w.heap.size n₀ lo hi W W1 ∧ ∀ W2, Turn l W1 W2 → body.wpIn (Fence.wide.inRound l) 8 P (roundQ w.heap.size n₀ lo hi I Ix k W2) a₁ W2) (fun _ _ _ => False))
        { tmps := (ps.zip (enc k)).foldl (fun t (p, v) => t.setIfInBounds p v) a.tmps, defers := [] } W)
    (hdone : ∀ (D : Nat) (W : World), w.heap.size ≤ D → I N W → W.heap[D]? = some (.deferred (some [])) → Q .normal { a with defers := mark D :: a.defers } W)
    (hstop : ∀ (D : Nat) (c : Code) (k : Nat) (W : World), w.heap.size ≤ D → k < N → Ix c k W → W.heap[D]? = some (.deferred (some [])) → c.wp P Q { a with defers := mark D :: a.defers } W) :
    (Code.rangeFunc g ps assign body).wp P Q a w := by
  rw [← wpIn_wide (n := 10)]
  refine wpIn_rangeFunc ?_
  intro fn hfn
  obtain ⟨rec, hrec⟩ : ∃ rec : LoopState → Option Code → Loop, rec = fun st pe => { state := st, pending := pe, fn, tmps := a.tmps, params := ps, assign, body, defers := w.heap.size } := ⟨_, rfl⟩
  obtain ⟨W1, hW1⟩ : ∃ W1, (w.alloc (.deferred (some []))).alloc (.loop (rec .ready none)) = W1 := ⟨_, rfl⟩
  have hL1 : W1.heap[w.heap.size + 1]? = some (.loop (rec .ready none)) := by
    rw [← hW1]; have := World.alloc_heap_new (w.alloc (.deferred (some []))) (.loop (rec .ready none)); rwa [World.size_alloc] at this
  have hK1 : W1.heap[w.heap.size]? = some (.deferred (some [])) := by
    rw [← hW1]; exact (Below.heap_alloc _ _ _ (by simp)).trans (World.alloc_heap_new w _)
  have hI1 : I 0 W1 := by rw [← hW1]; exact (hI 0).alloc _ ((hI 0).alloc _ h0)
  have hb1 : Below w.heap.size w W1 := by rw [← hW1]; exact ((Below.refl _ w).alloc (Nat.le_refl _) _).alloc (by simp) _
  have hs1 : W1.heap.size = w.heap.size + 1 + 1 := by rw [← hW1]; simp
  refine ⟨w.heap.size + 1, [mark w.heap.size], W1, { target := .fn (.func gf) lb, args := #[.func (.yield (w.heap.size + 1)) #[] #[]] }, W1, gf,
    #[.func (.yield (w.heap.size + 1)) #[] #[]] ++ lb, W1, ?_, ?_, ?_, ?_, fun _ => by omega, ?_⟩
  · rw [← hW1, hrec]; exact run_enterLoop_outer _ _ _ _ _
  · simp only [resolve, hg]
    simp [go_sem]
  · intro f' hf'; trivial
  · simp [invoke, go_sem, eg]
  · have hnw : ∀ {A : World} {row : Option Nat}, (∀ r, row = some r → W1.heap.size ≤ r ∧ ∃ o : Obj, A.heap[r]? = some o ∧ o.isWalk = true) → (∀ r, row = some r → w.heap.size ≤ r ∧ ∃ o : Obj, A.heap[r]? = some o ∧ o.isCells = false) :=
      fun hr r e => by obtain ⟨hB, o, ho, hw⟩ := hr r e; exact ⟨by omega, o, ho, Obj.not_cells_of_walk hw⟩
    refine (hseq (10 - 1) (w.heap.size + 1)
      (fun k W => I k W ∧ W.heap[w.heap.size + 1]? = some (.loop (rec .ready none)) ∧ W.heap[w.heap.size]? = some (.deferred (some [])))
      (fun k W => ∃ c, Ix c k W ∧ W.heap[w.heap.size + 1]? = some (.loop (rec .done (some c))) ∧ W.heap[w.heap.size]? = some (.deferred (some [])))
      W1 (by omega) hb1
      (fun k A B row hs hg' hr => ⟨hI k A B row hs.1 hg' (hnw hr), (grownBy_keeps hg' (fun r e => (hr r e).2) hs.2.1 rfl).trans hs.2.1, (grownBy_keeps hg' (fun r e => (hr r e).2) hs.2.2 rfl).trans hs.2.2⟩)
      (fun k A B row hs hg' hr => by
        obtain ⟨c, hc, hl, hk⟩ := hs
        exact ⟨c, hIx c k A B row hc hg' (hnw hr), (grownBy_keeps hg' (fun r e => (hr r e).2) hl rfl).trans hl, (grownBy_keeps hg' (fun r e => (hr r e).2) hk rfl).trans hk⟩)
      ?_ ⟨hI1, hL1, hK1⟩).mono ?_
    · -- one round
      rintro k hlen W ⟨hi', hl, hk⟩
      have hlt : w.heap.size + 1 < W.heap.size := (Array.getElem?_eq_some_iff.1 hl).1
      have hy := run_yield (P := P) (args := enc k) hl (by rw [hrec]; exact hps _)
      rw [hrec] at hy
      refine ⟨fn, _, assign, body, hy, roundIn_of_wpIn hfn ?_⟩
      clear hy
      refine wpIn_mono (hround _ k W hlen hi' (by omega) hlt (by omega)) ?_
      intro e a' Wa hpost
      cases e with
      | normal =>
        obtain ⟨hka, hbody⟩ := hpost
        have hla := hka.from_.same _ _ (by omega) hl rfl
        have hda := hka.from_.same _ _ (Nat.le_refl _) hk rfl
        have hlta : w.heap.size + 1 < Wa.heap.size := (Array.getElem?_eq_some_iff.1 hla).1
        refine ⟨_, run_beginRound hla (by rw [hrec]), ?_⟩
        have hl2 : (Wa.putObj (w.heap.size + 1) (.loop { rec .ready none with state := .busy })).heap[w.heap.size + 1]? = some (.loop { rec .ready none with state := .busy }) := World.putObj_heap_same hlta
        have hk2 : (Wa.putObj (w.heap.size + 1) (.loop { rec .ready none with state := .busy })).heap[w.heap.size]? = some (.deferred (some [])) := (World.putObj_heap_other (by omega)).trans hda
        have hw2 : Prot n₀ lo hi Wa (Wa.putObj (w.heap.size + 1) (.loop { rec .ready none with state := .busy })) := Prot.putObj _ _ _ (by omega)
        refine wpIn_mono (hbody _ (Turn.putObj hla rfl)) ?_
        have fin : ∀ (jump : Option Code) (W3 : World), KeepsFrom w.heap.size (Wa.putObj (w.heap.size + 1) (.loop { rec .ready none with state := .busy })) W3 →
            (Instr.endRound (w.heap.size + 1) jump).run P W3 = .ok (.bool jump.isNone) (W3.putObj (w.heap.size + 1) (.loop (rec (if jump.isNone then .ready else .done) jump))) ∧
            W3.heap[w.heap.size + 1]? = some (.loop { rec .ready none with state := .busy }) ∧
            (W3.putObj (w.heap.size + 1) (.loop (rec (if jump.isNone then .ready else .done) jump))).heap[w.heap.size + 1]? = some (.loop (rec (if jump.isNone then .ready else .done) jump)) ∧
            (W3.putObj (w.heap.size + 1) (.loop (rec (if jump.isNone then .ready else .done) jump))).heap[w.heap.size]? = some (.deferred (some [])) := fun jump W3 hk3 => by
          have hl3 := hk3.same _ _ (by omega) hl2 rfl
          have := run_endRound (P := P) jump hl3
          rw [hrec] at this ⊢
          exact ⟨this, by rw [hrec] at hl3; exact hl3, World.putObj_heap_same (Array.getElem?_eq_some_iff.1 hl3).1, (World.putObj_heap_other (by omega)).trans (hk3.same _ _ (Nat.le_refl _) hk2 rfl)⟩
        rintro e a3 W3 hp
        cases e with
        | normal =>
          obtain ⟨hk3, hi3⟩ := hp
          obtain ⟨hr, hl3, hl4, hk4⟩ := fin none W3 hk3.from_
          exact ⟨_, _, hr, .inl ⟨rfl, ⟨(hI _).putObj _ hi3 (by omega) hl3 rfl, hl4, hk4⟩, hka.prot.trans ((hw2.trans hk3.prot).trans (Prot.putObj _ _ _ (by omega)))⟩⟩
        | ret =>
          obtain ⟨hk3, hi3⟩ := hp
          obtain ⟨hr, hl3, hl4, hk4⟩ := fin (some .ret) W3 hk3.from_
          exact ⟨_, _, hr, .inr ⟨rfl, .ret, (hIx _ _).putObj _ hi3 (by omega) hl3 rfl, hl4, hk4⟩⟩
        | exit id =>
          obtain ⟨hk3, hi3⟩ := hp
          obtain ⟨hr, hl3, hl4, hk4⟩ := fin (some (.exit id)) W3 hk3.from_
          exact ⟨_, _, hr, .inr ⟨rfl, .exit id, (hIx _ _).putObj _ hi3 (by omega) hl3 rfl, hl4, hk4⟩⟩
        | goto t =>
          obtain ⟨hk3, hi3⟩ := hp
          obtain ⟨hr, hl3, hl4, hk4⟩ := fin (some (.goto t)) W3 hk3.from_
          exact ⟨_, _, hr, .inr ⟨rfl, .goto t, (hIx _ _).putObj _ hi3 (by omega) hl3 rfl, hl4, hk4⟩⟩
        | panic ch => exact hp.elim
        | outgrown => exact hp.elim
      | ret => exact hpost.elim
      | exit id => exact hpost.elim
      | goto t => exact hpost.elim
      | panic ch => exact hpost.elim
      | outgrown => exact hpost.elim
    · -- behind the iterator
      rintro e W2 ⟨⟨v, rfl⟩, (⟨hi', hl, hk⟩ | ⟨k, hkl, c, hi', hl, hk⟩)⟩
      · exact ⟨none, _, by have := run_endLoop (P := P) hl (by rw [hrec]; simp); rw [hrec] at this; exact this, hdone _ _ (Nat.le_refl _) ((hI _).putObj _ hi' (by omega) hl rfl) ((World.putObj_heap_other (by omega)).trans hk)⟩
      · exact ⟨some c, _, by have := run_endLoop (P := P) hl (by rw [hrec]; simp); rw [hrec] at this; exact this, wpIn_wide.2 (hstop _ c k _ (Nat.le_refl _) hkl ((hIx c k).putObj _ hi' (by omega) hl rfl) ((World.putObj_heap_other (by omega)).trans hk))⟩

/-- A function whose body holds a range over a function. -/
theorem calls_marks {P : Program} {f : FuncId} {fn : Func} {c : Code} {args : Array Value} {w : World} {R : Ending → World → Prop}
    (hf : P.funcs[f]? = some fn) (hb : fn.body = some c)
    (h : c.wp P (bodyPostM Fence.wide 10 P fn R) { tmps := args ++ Array.replicate (fn.ntmps - args.size) undef, defers := [] } w) : Calls P f args w R :=
  callsIn_wide.1 (callsIn_of_wp_marks (F := Fence.wide) (n := 10) hf hb trivial (wpIn_wide.2 h) rfl)

/-- Its return behind one such loop. -/
theorem ret_mark {P : Program} {fn : Func} {R : Ending → World → Prop} {tmps : Array Value} {w : World} {D : Nat} {e : Exit} (he : e = .ret ∨ e = .normal) (hK : w.heap[D]? = some (.deferred (some [])))
    (h : ∀ w', Turn D w w' → ∃ v, (results fn tmps).run P w' = .ok v w' ∧ R (.returned v) w') : bodyPostM Fence.wide 10 P fn R e { tmps, defers := [mark D] } w := by
  obtain ⟨v, hr, hR⟩ := h _ (Turn.putObj hK rfl)
  rcases he with rfl | rfl
  · exact ⟨by simp, .inl ⟨_, _, rfl, run_takeDeferred hK, ⟨v, hr, hR⟩⟩⟩
  · exact ⟨by simp, .inl ⟨_, _, rfl, run_takeDeferred hK, ⟨v, hr, hR⟩⟩⟩
/-- Its return on a way without such a loop. -/
theorem ret_plain {P : Program} {fn : Func} {R : Ending → World → Prop} {tmps : Array Value} {w : World} {v : Value} {e : Exit} (he : e = .ret ∨ e = .normal) (hr : (results fn tmps).run P w = .ok v w) (hR : R (.returned v) w) :
    bodyPostM Fence.wide 10 P fn R e { tmps, defers := [] } w := by
  rcases he with rfl | rfl
  · exact ⟨v, hr, hR⟩
  · exact ⟨v, hr, hR⟩
end Go.Proofs.Ytdgeinipdphoeaa
/- A range over a function whose iterator itself ranges over one: a contract for iterators ('SeqN') whose rounds keep whatever the iterator has made, and the caller's law. -/
namespace Go.Proofs.Ytdgeinipdphoeaa
set_option linter.unusedVariables false
set_option linter.unusedSimpArgs false
open Go.RowKit

/-- What a round keeps: what lies below n₀; lo to hi; what lies from B on. -/
structure ProtN (n₀ lo hi B : Nat) (W W' : World) : Prop where
  size : W.heap.size ≤ W'.heap.size
  low : ∀ k, k < n₀ → W'.heap[k]? = W.heap[k]?
  mid : ∀ k, lo ≤ k → k < hi → W'.heap[k]? = W.heap[k]?
  high : ∀ k, B ≤ k → k < W.heap.size → W'.heap[k]? = W.heap[k]?
theorem ProtN.refl (n₀ lo hi B : Nat) (W : World) : ProtN n₀ lo hi B W W := ⟨Nat.le_refl _, fun _ _ => rfl, fun _ _ _ => rfl, fun _ _ _ => rfl⟩
theorem ProtN.trans {n₀ lo hi B : Nat} {X Y Z : World} (h : ProtN n₀ lo hi B X Y) (k : ProtN n₀ lo hi B Y Z) : ProtN n₀ lo hi B X Z :=
  ⟨Nat.le_trans h.size k.size, fun i hi => (k.low i hi).trans (h.low i hi), fun i h1 h2 => (k.mid i h1 h2).trans (h.mid i h1 h2), fun i h1 h2 => (k.high i h1 (Nat.lt_of_lt_of_le h2 h.size)).trans (h.high i h1 h2)⟩
theorem ProtN.weaken {n₀ lo hi B B' : Nat} {X Y : World} (h : ProtN n₀ lo hi B X Y) (hB : B ≤ B') : ProtN n₀ lo hi B' X Y := ⟨h.size, h.low, h.mid, fun i h1 h2 => h.high i (Nat.le_trans hB h1) h2⟩
theorem ProtN.putObj {n₀ lo hi B : Nat} (W : World) (l : Nat) (o' : Obj) (hl : n₀ ≤ l ∧ hi ≤ l ∧ l < B) : ProtN n₀ lo hi B W (W.putObj l o') :=
  ⟨by simp, fun k hk => World.putObj_heap_other (by omega), fun k h1 h2 => World.putObj_heap_other (by omega), fun k h1 h2 => World.putObj_heap_other (by omega)⟩
theorem ProtN.prot {n₀ lo hi B : Nat} {X Y : World} (h : ProtN n₀ lo hi B X Y) : Prot n₀ lo hi X Y := ⟨h.size, h.low, h.mid⟩

/-- The contract of an iterator that gives 'enc 0' .. 'enc (N - 1)'; each round keeps what the iterator has made. -/
def SeqN (P : Program) (g : Nat) (lb : Array Value) (enc : Nat → Array Value) (n₀ lo hi : Nat) (N : Nat) (w : World) : Prop :=
  ∀ (n l : Nat) (J Jx : Nat → World → Prop) (W : World), Below w.heap.size w W → (∀ k, Stab W.heap.size (J k)) → (∀ k, Stab W.heap.size (Jx k)) →
    (∀ k, k < N → ∀ W1, W.heap.size ≤ W1.heap.size → J k W1 → YieldAt Fence.wide n P l (enc k) W1 fun e W' =>
      (e = .returned (.bool true) ∧ J (k + 1) W' ∧ ProtN n₀ lo hi W.heap.size W1 W') ∨ (e = .returned (.bool false) ∧ Jx k W' ∧ ProtN n₀ lo hi W.heap.size W1 W')) →
    J 0 W →
    Calls P g (#[.func (.yield l) #[] #[]] ++ lb) W fun e W' => (∃ v, e = .returned v) ∧ (J N W' ∨ ∃ k, k < N ∧ Jx k W')

/-- How a round's body may be left. -/
def roundQN (B n₀ lo hi : Nat) (I : Nat → World → Prop) (Ix : Code → Nat → World → Prop) (k : Nat) (W : World) : Exit → Act → World → Prop
  | .normal, _, W' => ProtN n₀ lo hi B W W' ∧ I (k + 1) W'
  | .ret, _, W' => ProtN n₀ lo hi B W W' ∧ Ix .ret k W'
  | .exit id, _, W' => ProtN n₀ lo hi B W W' ∧ Ix (.exit id) k W'
  | .goto t, _, W' => ProtN n₀ lo hi B W W' ∧ Ix (.goto t) k W'
  | .panic _, _, _ => False
  | .outgrown, _, _ => False

set_option maxHeartbeats 1000000 in
/-- 'for .. := range g { body }', g a value of an iterator that gives xs. -/
theorem wp_rangeN {P : Program} {g : Operand} {ps : Array Tmp} {assign body : Code} {Q : Exit → Act → World → Prop} {a : Act} {w : World}
    {gf : Nat} {lb : Array Value} (hg : a.eval g = .func (.func gf) #[] lb) (eg : ∀ args w, (callFunc gf args).run P w = .ok (.enter gf args) w)
    {enc : Nat → Array Value} {n₀ lo hi : Nat} {N : Nat} (hseq : SeqN P gf lb enc n₀ lo hi N w) (hn : n₀ ≤ w.heap.size ∧ hi ≤ w.heap.size) (hps : ∀ k, (enc k).size = ps.size)
    (I : Nat → World → Prop) (Ix : Code → Nat → World → Prop) (hI : ∀ k, Stab w.heap.size (I k)) (hIx : ∀ c k, Stab w.heap.size (Ix c k)) (h0 : I 0 w)
    (hround : ∀ (l k : Nat) (W : World), k < N → I k W → w.heap.size ≤ l → l < W.heap.size → w.heap.size ≤ W.heap.size →
      assign.wpIn (Fence.wide.inRound l) 8 P (Exit.then (fun a₁ W1 => ProtN n₀ lo hi w.heap.size W W1 ∧ ∀ W2, Turn l W1 W2 → body.wpIn (Fence.wide.inRound l) 8 P (roundQN w.heap.size n₀ lo hi I Ix k W2) a₁ W2) (fun _ _ _ => False))
        { tmps := (ps.zip (enc k)).foldl (fun t (p, v) => t.setIfInBounds p v) a.tmps, defers := [] } W)
    (hdone : ∀ (D : Nat) (W : World), w.heap.size ≤ D → I N W → W.heap[D]? = some (.deferred (some [])) → Q .normal { a with defers := mark D :: a.defers } W)
    (hstop : ∀ (D : Nat) (c : Code) (k : Nat) (W : World), w.heap.size ≤ D → k < N → Ix c k W → W.heap[D]? = some (.deferred (some [])) → c.wp P Q { a with defers := mark D :: a.defers } W) :
    (Code.rangeFunc g ps assign body).wp P Q a w := by
  rw [← wpIn_wide (n := 10)]
  refine wpIn_rangeFunc ?_
  intro fn hfn
  obtain ⟨rec, hrec⟩ : ∃ rec : LoopState → Option Code → Loop, rec = fun st pe => { state := st, pending := pe, fn, tmps := a.tmps, params := ps, assign, body, defers := w.heap.size } := ⟨_, rfl⟩
  obtain ⟨W1, hW1⟩ : ∃ W1, (w.alloc (.deferred (some []))).alloc (.loop (rec .ready none)) = W1 := ⟨_, rfl⟩
  have hL1 : W1.heap[w.heap.size + 1]? = some (.loop (rec .ready none)) := by
    rw [← hW1]; have := World.alloc_heap_new (w.alloc (.deferred (some []))) (.loop (rec .ready none)); rwa [World.size_alloc] at this
  have hK1 : W1.heap[w.heap.size]? = some (.deferred (some [])) := by
    rw [← hW1]; exact (Below.heap_alloc _ _ _ (by simp)).trans (World.alloc_heap_new w _)
  have hI1 : I 0 W1 := by rw [← hW1]; exact (hI 0).alloc _ ((hI 0).alloc _ h0)
  have hb1 : Below w.heap.size w W1 := by rw [← hW1]; exact ((Below.refl _ w).alloc (Nat.le_refl _) _).alloc (by simp) _
  have hs1 : W1.heap.size = w.heap.size + 1 + 1 := by rw [← hW1]; simp
  refine ⟨w.heap.size + 1, [mark w.heap.size], W1, { target := .fn (.func gf) lb, args := #[.func (.yield (w.heap.size + 1)) #[] #[]] }, W1, gf,
    #[.func (.yield (w.heap.size + 1)) #[] #[]] ++ lb, W1, ?_, ?_, ?_, ?_, fun _ => by omega, ?_⟩
  · rw [← hW1, hrec]; exact run_enterLoop_outer _ _ _ _ _
  · simp only [resolve, hg]
    simp [go_sem]
  · intro f' hf'; trivial
  · simp [invoke, go_sem, eg]
  · have hrow : ∀ {A : World} {row : Option Nat}, (∀ r, row = some r → W1.heap.size ≤ r ∧ ∃ o : Obj, A.heap[r]? = some o ∧ o.isCells = false) → (∀ r, row = some r → w.heap.size ≤ r ∧ ∃ o : Obj, A.heap[r]? = some o ∧ o.isCells = false) :=
      fun hr r e => by obtain ⟨hB, h⟩ := hr r e; exact ⟨by omega, h⟩
    have hstay : ∀ {A A' : World} {row : Option Nat} {k : Nat} {o : Obj}, A.grownBy A' row → (∀ r, row = some r → W1.heap.size ≤ r ∧ ∃ o : Obj, A.heap[r]? = some o ∧ o.isCells = false) → k < W1.heap.size → A.heap[k]? = some o → A'.heap[k]? = some o :=
      fun hg' hr hk ho => (hg'.block _ (Array.getElem?_eq_some_iff.1 ho).1 (fun e => by have := (hr _ e.symm).1; omega)).trans ho
    refine (callsIn_wide.2 (hseq 8 (w.heap.size + 1)
      (fun k W => I k W ∧ W.heap[w.heap.size + 1]? = some (.loop (rec .ready none)) ∧ W.heap[w.heap.size]? = some (.deferred (some [])))
      (fun k W => ∃ c, Ix c k W ∧ W.heap[w.heap.size + 1]? = some (.loop (rec .done (some c))) ∧ W.heap[w.heap.size]? = some (.deferred (some [])))
      W1 hb1
      (fun k A B row hs hg' hr => ⟨hI k A B row hs.1 hg' (hrow hr), hstay hg' hr (by omega) hs.2.1, hstay hg' hr (by omega) hs.2.2⟩)
      (fun k A B row hs hg' hr => by
        obtain ⟨c, hc, hl, hk⟩ := hs
        exact ⟨c, hIx c k A B row hc hg' (hrow hr), hstay hg' hr (by omega) hl, hstay hg' hr (by omega) hk⟩)
      ?_ ⟨hI1, hL1, hK1⟩)).mono ?_
    · -- one round
      rintro k hlen W hWs ⟨hi', hl, hk⟩
      have hlt : w.heap.size + 1 < W.heap.size := (Array.getElem?_eq_some_iff.1 hl).1
      have hy := run_yield (P := P) (args := enc k) hl (by rw [hrec]; exact hps _)
      rw [hrec] at hy
      refine ⟨fn, _, assign, body, hy, roundIn_of_wpIn hfn ?_⟩
      clear hy
      refine wpIn_mono (hround _ k W hlen hi' (by omega) hlt (by omega)) ?_
      intro e a' Wa hpost
      cases e with
      | normal =>
        obtain ⟨hka, hbody⟩ := hpost
        have hla := (hka.high _ (by omega) hlt).trans hl
        have hda := (hka.high _ (Nat.le_refl _) (by omega)).trans hk
        have hlta : w.heap.size + 1 < Wa.heap.size := (Array.getElem?_eq_some_iff.1 hla).1
        refine ⟨_, run_beginRound hla (by rw [hrec]), ?_⟩
        have hl2 : (Wa.putObj (w.heap.size + 1) (.loop { rec .ready none with state := .busy })).heap[w.heap.size + 1]? = some (.loop { rec .ready none with state := .busy }) := World.putObj_heap_same hlta
        have hk2 : (Wa.putObj (w.heap.size + 1) (.loop { rec .ready none with state := .busy })).heap[w.heap.size]? = some (.deferred (some [])) := (World.putObj_heap_other (by omega)).trans hda
        have hw2 : ProtN n₀ lo hi W1.heap.size Wa (Wa.putObj (w.heap.size + 1) (.loop { rec .ready none with state := .busy })) := ProtN.putObj _ _ _ (by omega)
        refine wpIn_mono (hbody _ (Turn.putObj hla rfl)) ?_
        have fin : ∀ (jump : Option Code) (W3 : World), ProtN n₀ lo hi w.heap.size (Wa.putObj (w.heap.size + 1) (.loop { rec .ready none with state := .busy })) W3 →
            (Instr.endRound (w.heap.size + 1) jump).run P W3 = .ok (.bool jump.isNone) (W3.putObj (w.heap.size + 1) (.loop (rec (if jump.isNone then .ready else .done) jump))) ∧
            W3.heap[w.heap.size + 1]? = some (.loop { rec .ready none with state := .busy }) ∧
            (W3.putObj (w.heap.size + 1) (.loop (rec (if jump.isNone then .ready else .done) jump))).heap[w.heap.size + 1]? = some (.loop (rec (if jump.isNone then .ready else .done) jump)) ∧
            (W3.putObj (w.heap.size + 1) (.loop (rec (if jump.isNone then .ready else .done) jump))).heap[w.heap.size]? = some (.deferred (some [])) := fun jump W3 hk3 => by
          have hl3 := (hk3.high _ (by omega) (Array.getElem?_eq_some_iff.1 hl2).1).trans hl2
          have := run_endRound (P := P) jump hl3
          rw [hrec] at this ⊢
          exact ⟨this, by rw [hrec] at hl3; exact hl3, World.putObj_heap_same (Array.getElem?_eq_some_iff.1 hl3).1, (World.putObj_heap_other (by omega)).trans ((hk3.high _ (Nat.le_refl _) (Array.getElem?_eq_some_iff.1 hk2).1).trans hk2)⟩
        rintro e a3 W3 hp
        cases e with
        | normal =>
          obtain ⟨hk3, hi3⟩ := hp
          obtain ⟨hr, hl3, hl4, hk4⟩ := fin none W3 hk3
          exact ⟨_, _, hr, .inl ⟨rfl, ⟨(hI _).putObj _ hi3 (by omega) hl3 rfl, hl4, hk4⟩, (hka.weaken (by omega)).trans ((hw2.trans (hk3.weaken (by omega))).trans (ProtN.putObj _ _ _ (by omega)))⟩⟩
        | ret =>
          obtain ⟨hk3, hi3⟩ := hp
          obtain ⟨hr, hl3, hl4, hk4⟩ := fin (some .ret) W3 hk3
          exact ⟨_, _, hr, .inr ⟨rfl, ⟨.ret, (hIx _ _).putObj _ hi3 (by omega) hl3 rfl, hl4, hk4⟩, (hka.weaken (by omega)).trans ((hw2.trans (hk3.weaken (by omega))).trans (ProtN.putObj _ _ _ (by omega)))⟩⟩
        | exit id =>
          obtain ⟨hk3, hi3⟩ := hp
          obtain ⟨hr, hl3, hl4, hk4⟩ := fin (some (.exit id)) W3 hk3
          exact ⟨_, _, hr, .inr ⟨rfl, ⟨.exit id, (hIx _ _).putObj _ hi3 (by omega) hl3 rfl, hl4, hk4⟩, (hka.weaken (by omega)).trans ((hw2.trans (hk3.weaken (by omega))).trans (ProtN.putObj _ _ _ (by omega)))⟩⟩
        | goto t =>
          obtain ⟨hk3, hi3⟩ := hp
          obtain ⟨hr, hl3, hl4, hk4⟩ := fin (some (.goto t)) W3 hk3
          exact ⟨_, _, hr, .inr ⟨rfl, ⟨.goto t, (hIx _ _).putObj _ hi3 (by omega) hl3 rfl, hl4, hk4⟩, (hka.weaken (by omega)).trans ((hw2.trans (hk3.weaken (by omega))).trans (ProtN.putObj _ _ _ (by omega)))⟩⟩
        | panic ch => exact hp.elim
        | outgrown => exact hp.elim
      | ret => exact hpost.elim
      | exit id => exact hpost.elim
      | goto t => exact hpost.elim
      | panic ch => exact hpost.elim
      | outgrown => exact hpost.elim
    · -- behind the iterator
      rintro e W2 ⟨⟨v, rfl⟩, (⟨hi', hl, hk⟩ | ⟨k, hkl, c, hi', hl, hk⟩)⟩
      · exact ⟨none, _, by have := run_endLoop (P := P) hl (by rw [hrec]; simp); rw [hrec] at this; exact this, hdone _ _ (Nat.le_refl _) ((hI _).putObj _ hi' (by omega) hl rfl) ((World.putObj_heap_other (by omega)).trans hk)⟩
      · exact ⟨some c, _, by have := run_endLoop (P := P) hl (by rw [hrec]; simp); rw [hrec] at this; exact this, wpIn_wide.2 (hstop _ c k _ (Nat.le_refl _) hkl ((hIx c k).putObj _ hi' (by omega) hl rfl) ((World.putObj_heap_other (by omega)).trans hk))⟩

end Go.Proofs.Ytdgeinipdphoeaa
/- Wide numbers: the iterators under the program's 'Sum'. -/
namespace Go.Proofs.Ytdgeinipdphoeaa
set_option linter.unusedVariables false
set_option linter.unusedSimpArgs false
open Go.ChangeShapes Go.WideShapes Go.ChangeAt Go.RowKit Go.Shelf
attribute [local go_sem] Oper.semAt_some

theorem roundIn_any {n m : Nat} {P : Program} {l l' : Nat} {f : FuncId} {tmps : Array Value} {assign body : Code} {w : World} {R : Ending → World → Prop} (h : RoundIn Fence.wide n P l f tmps assign body w R) : RoundIn (Fence.wide.inRound l') m P l f tmps assign body w R :=
  ⟨h.1, fun c cs _ => h.2 c cs (room_wide _)⟩
theorem callsIn_any {n : Nat} {P : Program} {l' : Nat} {f : FuncId} {args : Array Value} {w : World} {R : Ending → World → Prop} (h : Calls P f args w R) : CallsIn (Fence.wide.inRound l') n P f args w R :=
  ⟨trivial, (callsIn_wide (n := n)).2 h |>.2⟩
theorem Stab.below_step {B : Nat} {p : World → Prop} (h : Stab B p) {X Y : World} (hs : p X) (hb : Below X.heap.size X Y) : p Y :=
  h X Y none hs ⟨hb.os, hb.tape, hb.output, hb.size, fun i hi _ => hb.block i hi⟩ (fun r e => by cases e)

theorem values_any (ao : Option Addr) (N cap : Nat) (w : World) :
    Calls Try.prog 97 #[.slice ao N cap] w fun e w' => e = .returned (.func (.func 108) #[] #[.pointer (some ⟨w.heap.size, 0, none⟩)]) ∧ w' = w.alloc (.cells #[.slice ao N cap] 26) := by
  go_enter Try.func97, Try.ntmps97
  go_wp2
  go_ret
  exact ⟨rfl, rfl⟩
theorem numbers_any (ao : Option Addr) (N cap : Nat) (w : World) :
    Calls Try.prog 67 #[.slice ao N cap] w fun e w' => e = .returned (.func (.func 96) #[] #[.pointer (some ⟨w.heap.size, 0, none⟩)]) ∧ w' = w.alloc (.cells #[.slice ao N cap] 26) := by
  go_enter Try.func67, Try.ntmps67
  go_wp2
  go_ret
  exact ⟨rfl, rfl⟩

set_option maxRecDepth 100000 in
set_option maxHeartbeats 1000000 in
theorem values_seq (xs : List Int) (N : Nat) (ao : Option Addr) (cap b1 n₀ lo hi : Nat) (w : World) (hb1 : lo ≤ b1 ∧ b1 < hi) (hw : hi ≤ w.heap.size) (hN : N ≤ 1000000000)
    (c0 : w.cell? ⟨b1, 0, none⟩ = some (.slice ao N cap)) (hel : 0 < N → ∃ a o, ao = some ⟨a, o, none⟩ ∧ a < n₀ ∧ ∀ k, k < N → w.cell? ⟨a, o + k, none⟩ = some (.int .i64 (xs[k]?.getD 0))) :
    SeqN Try.prog 108 #[.pointer (some ⟨b1, 0, none⟩)] (fun k : Nat => #[Value.int .i64 (xs[k]?.getD 0)]) n₀ lo hi N w := by
  intro n l J Jx W hW hJ hJx hY h0
  have d0 := (hW.cell (p := ⟨b1, 0, none⟩) (by simp; omega)).trans c0
  have HE := hid hel
  clear c0 hel
  refine (callsIn_wide (n := n + 1)).1 (callsIn_of_wp Try.func108 rfl trivial ?_ rfl)
  simp only [Try.ntmps108, List.size_toArray, List.length_cons, List.length_nil, Nat.reduceAdd, Nat.reduceSub, Array.replicate_succ, Array.replicate_zero, List.push_toArray, List.append_toArray, List.nil_append, List.cons_append]
  gi_wp2
  gi_loopw [7] (fun tt wr => ∃ k : Nat, k ≤ N ∧ tt = .int .i64 k ∧ J k wr ∧ Prot n₀ lo hi W wr) (fun tt _ => N - (intOf tt).toNat)
  case atStart => exact ⟨0, Nat.zero_le _, rfl, h0, Prot.refl _ _ _ _⟩
  case round =>
    obtain ⟨k, hk, rfl, hJs, hP⟩ := hrel
    by_cases hlt : k < N
    · obtain ⟨a, o, rfl, ha, hc⟩ := HE.out (by omega)
      have e0 := hc k hlt
      have e1 := (hP.cell (b := a) (o := o + k) (.inl ha)).trans ((hW.cell (p := ⟨a, o + k, none⟩) (World.block_lt_of_cell? _ _ e0)).trans e0)
      obtain ⟨fn, tmps, assign, body, hy, hR⟩ := hY k hlt wr hP.size hJs
      (try dsimp only at hy)
      obtain ⟨y, hyy⟩ : ∃ y, xs[k]?.getD 0 = y := ⟨_, rfl⟩
      rw [hyy] at e1 hy
      clear hY hJ hJx hc e0 hyy
      gi_wp2
      refine hR.mono ?_
      rintro e W3 (⟨rfl, hJ3, hP3⟩ | ⟨rfl, hJx3, hP3⟩)
      · gi_wp2
        go_roundw
        case rel => exact ⟨k + 1, hlt, by go_num, hJ3, hP.trans hP3.prot⟩
        case measure => simp [intOf]; omega
      · gi_wp2
        refine bodyPost_ret (results_none rfl _ _ _) rfl ?_
        exact ⟨⟨_, rfl⟩, .inr ⟨k, hlt, hJx3⟩⟩
    · obtain rfl : k = N := by omega
      clear hY hJ hJx
      gi_wp2
      go_end0
      exact ⟨⟨_, rfl⟩, .inl hJs⟩

theorem w_wide : (Value.agg #[.int .i64 (hiW (0)), .int .u64 (loW (0))]) = Value.agg #[.int .i64 0, .int .u64 0] := by rfl

theorem Stab.mono {B B' : Nat} {p : World → Prop} (h : Stab B p) (hB : B ≤ B') : Stab B' p := fun X Y row hs hg hr => h X Y row hs hg fun r e => ⟨Nat.le_trans hB (hr r e).1, (hr r e).2⟩
theorem Stab.prot {n₀ lo hi B : Nat} {W : World} (h1 : n₀ ≤ B ∧ hi ≤ B) (h2 : n₀ ≤ W.heap.size) (h3 : hi ≤ W.heap.size) : Stab B (Prot n₀ lo hi W) := fun X Y row hs hg hr =>
  ⟨Nat.le_trans hs.size hg.size, fun k hk => (hg.block k (by have := hs.size; omega) (fun e => by have := (hr _ e.symm).1; omega)).trans (hs.low k hk),
    fun k a b => (hg.block k (by have := hs.size; omega) (fun e => by have := (hr _ e.symm).1; omega)).trans (hs.mid k a b)⟩

theorem ProtN.inner {n₀ lo hi B lo' hi' B' : Nat} {X Y Z : World} (hb : Below X.heap.size X Y) (h : ProtN n₀ lo hi B Y Z) (hl : n₀ ≤ X.heap.size) (h1 : B ≤ lo') (h2 : hi' ≤ X.heap.size) (h3 : B ≤ B') : ProtN n₀ lo' hi' B' X Z :=
  ⟨Nat.le_trans hb.size h.size, fun k hk => (h.low k hk).trans (hb.block k (by omega)), fun k a b => (h.high k (by omega) (by have := hb.size; omega)).trans (hb.block k (by omega)), fun k a b => (h.high k (by omega) (by have := hb.size; omega)).trans (hb.block k b)⟩
theorem Prot.outer {n₀ lo hi B : Nat} {W X Y Z : World} (h0 : Prot n₀ lo hi W X) (hb : Below X.heap.size X Y) (h : ProtN n₀ lo hi B Y Z) (hl : n₀ ≤ X.heap.size) (h2 : hi ≤ X.heap.size) : Prot n₀ lo hi W Z :=
  ⟨Nat.le_trans h0.size (Nat.le_trans hb.size h.size), fun k hk => (h.low k hk).trans ((hb.block k (by omega)).trans (h0.low k hk)), fun k a b => (h.mid k a b).trans ((hb.block k (by omega)).trans (h0.mid k a b))⟩

/-- What the inner loop keeps of the iterator's own. -/
def numI (J : Nat → World → Prop) (n₀ lo hi l : Nat) (W : World) (k : Nat) (X : World) : Prop :=
  J k X ∧ Prot n₀ lo hi W X ∧ ∃ T, X.heap[W.heap.size]? = some (.cells #[.func (.yield l) #[] #[]] T (0, 0))
def numX (Jx : Nat → World → Prop) (c : Code) (k : Nat) (X : World) : Prop := c = .exit 0 ∧ Jx k X

set_option maxRecDepth 100000 in
set_option maxHeartbeats 1000000 in
theorem numbers_seq (xs : List Int) (hx : Ints64 xs) (N : Nat) (hlen : xs.length = N) (ao : Option Addr) (cap b1 n₀ lo hi : Nat) (w : World) (hb1 : lo ≤ b1 ∧ b1 < hi) (hw : hi ≤ w.heap.size) (hn₀ : n₀ ≤ w.heap.size) (hN : N ≤ 1000000000)
    (c0 : w.cell? ⟨b1, 0, none⟩ = some (.slice ao N cap)) (hel : 0 < N → ∃ a o, ao = some ⟨a, o, none⟩ ∧ a < n₀ ∧ ∀ k, k < N → w.cell? ⟨a, o + k, none⟩ = some (.int .i64 (xs[k]?.getD 0))) :
    SeqN Try.prog 96 #[.pointer (some ⟨b1, 0, none⟩)] (fun k : Nat => #[(Value.agg #[.int .i64 (hiW (xs[k]?.getD 0)), .int .u64 (loW (xs[k]?.getD 0))])]) n₀ lo hi N w := by
  intro n l J Jx W hW hJ hJx hY h0
  have hsz := hW.size
  have d0 := (hW.cell (p := ⟨b1, 0, none⟩) (by simp; omega)).trans c0
  have hbW : b1 < W.heap.size := by omega
  have HE : Hid (0 < N → ∃ a o, ao = some ⟨a, o, none⟩ ∧ a < n₀ ∧ ∀ k, k < N → W.cell? ⟨a, o + k, none⟩ = some (.int .i64 (xs[k]?.getD 0))) := hid fun h => by
    obtain ⟨a, o, e, ha, hc⟩ := hel h
    exact ⟨a, o, e, ha, fun k hk => (hW.cell (p := ⟨a, o + k, none⟩) (World.block_lt_of_cell? _ _ (hc k hk))).trans (hc k hk)⟩
  clear c0 hel
  refine calls_marks Try.func96 rfl ?_
  simp only [Try.ntmps96, List.size_toArray, List.length_cons, List.length_nil, Nat.reduceAdd, Nat.reduceSub, Array.replicate_succ, Array.replicate_zero, List.push_toArray, List.append_toArray, List.nil_append, List.cons_append]
  go_wp2
  refine wp_scope_fwd ?_
  go_wp2
  refine wp_label ?_
  go_wp2_with (go_at_call 97; ((with_reducible refine (values_any _ _ _ _).mono ?_); rintro e w1 ⟨rfl, rfl⟩))
  refine wp_rangeN (gf := 108) (lb := #[.pointer (some ⟨W.heap.size + 1, 0, none⟩)]) rfl (enters_of Try.func108 (by kernel_rfl) rfl)
    (values_seq xs N ao cap (W.heap.size + 1) n₀ (W.heap.size + 1) (W.heap.size + 1 + 1) _ (by omega) (by simp) hN (by go_simp) ?hel)
    (by simp; omega) (fun _ => rfl) (numI J n₀ lo hi l W) (numX Jx) ?stab ?stabx ?start ?round ?done ?stop
  case hel =>
    intro h
    obtain ⟨a, o, e, ha, hc⟩ := HE.out h
    exact ⟨a, o, e, ha, fun k hk => ((((Below.refl _ W).new _).new _).cell (p := ⟨a, o + k, none⟩) (World.block_lt_of_cell? _ _ (hc k hk))).trans (hc k hk)⟩
  case stab => exact fun k => Stab.and ((hJ k).mono (by simp; omega)) (Stab.and (Stab.prot (by simp; omega) (by omega) (by omega)) (Stab.ex fun T => Stab.block))
  case stabx => exact fun c k => Stab.and (Stab.pure _) ((hJx k).mono (by simp; omega))
  case start =>
    refine ⟨(hJ 0).alloc _ ((hJ 0).alloc _ h0), ⟨by simp; omega, fun k hk => ?_, fun k h1 h2 => ?_⟩, _, by (simp (disch := first | omega | (simp only [World.size_alloc, World.size_setCell, World.size_drew]; done) | (simp only [World.size_alloc, World.size_setCell, World.size_drew]; omega)) only [heap_at, heap_past, heap_set_other, heap_set_same]); rfl⟩
    · (simp (disch := first | omega | (simp only [World.size_alloc, World.size_setCell, World.size_drew]; done) | (simp only [World.size_alloc, World.size_setCell, World.size_drew]; omega)) only [heap_at, heap_past, heap_set_other, heap_set_same])
    · (simp (disch := first | omega | (simp only [World.size_alloc, World.size_setCell, World.size_drew]; done) | (simp only [World.size_alloc, World.size_setCell, World.size_drew]; omega)) only [heap_at, heap_past, heap_set_other, heap_set_same])
  case done =>
    intro D X hD hI hK
    go_wp2
    simp only [World.size_alloc] at hD
    refine ret_mark (.inr rfl) hK fun w' hT => ?_
    exact ⟨_, by simp only [results, Try.results96]; go_simp; try rfl, ⟨_, rfl⟩, .inl ((hJ N).turn hI.1 hT (by omega))⟩
  case stop =>
    intro D c k X hD hk hX hK
    obtain ⟨rfl, hX⟩ := hX
    go_wp2
    simp only [World.size_alloc] at hD
    refine ret_mark (.inr rfl) hK fun w' hT => ?_
    exact ⟨_, by simp only [results, Try.results96]; go_simp; try rfl, ⟨_, rfl⟩, .inr ⟨k, hk, (hJx k).turn hX hT (by omega)⟩⟩
  case round =>
    intro l' k X hkN hI hl hlt hX
    obtain ⟨hJs, hP, T, hbox⟩ := hI
    gi_wp2
    refine ⟨ProtN.refl _ _ _ _ _, fun W2 hT => ?_⟩
    simp only [World.size_alloc] at hl hX
    have hJ2 := (hJ k).turn hJs hT (by omega)
    have hbox2 := (hT.block (lt_of_block hbox) (by omega)).trans hbox
    have hP2 : Prot n₀ lo hi W W2 := ⟨by rw [hT.size]; omega, fun j hj => (hT.block (by omega) (by omega)).trans (hP.low j hj), fun j h1 h2 => (hT.block (by omega) (by omega)).trans (hP.mid j h1 h2)⟩
    have hcb := cell_of_one hbox2
    have hkl : k < xs.length := by omega
    have hg : xs[k]?.getD 0 = xs[k] := by simp [hkl]
    have HO := hid (fun w => of_any xs[k] (by rw [← hg]; exact hx k hkl) w)
    have hT2 := hT.size
    gi_wp2
    have hm : Try.prog.follows .mixedOrders = true := by kernel_rfl
    refine wpIn_region_any hm ?_
    change wpAnyIn _ _ _ _ _ _ _ _ _ (World.drew _)
    refine wpAnyIn_ready (rs := [0, 1]) (by kernel_rfl) (by simp) (AllReadyIn.cons rfl (fun K hK => ?_) (AllReadyIn.cons rfl (fun K hK => ?_) (AllReadyIn.nil)))
    · go_simp
      refine hK _ _ ?_
      clear hK K
      refine wpAnyIn_ready (rs := [1]) (by kernel_rfl) (by simp) (AllReadyIn.cons rfl (fun K hK => ?_) (AllReadyIn.nil))
      go_simp
      refine hK _ _ ?_
      clear hK K
      refine wpAnyIn_ready (rs := [2]) (by kernel_rfl) (by simp) (AllReadyIn.cons rfl (fun K hK => ?_) (AllReadyIn.nil))
      go_simp
      refine ⟨trivial, (callsIn_any (HO.out _)).mono ?_⟩
      rintro e w3 ⟨rfl, hb3⟩
      refine hK _ _ ?_
      clear hK K
      have hB := ((Below.refl W2.heap.size W2).drew).step hb3
      refine wpAnyIn_ready (rs := [3]) (by kernel_rfl) (by simp) (AllReadyIn.cons rfl (fun K hK => ?_) (AllReadyIn.nil))
      have hJ3 := (hJ k).below_step hJ2 hB
      obtain ⟨fn, tmps, assign, body, hy, hR⟩ := hY k hkN w3 (by have := hP2.size; have := hB.size; omega) hJ3
      (try dsimp only at hy)
      rw [hg] at hy
      go_simp
      refine roundIn_any (hR.mono ?_)
      rintro e W4 (⟨rfl, hJ4, hP4⟩ | ⟨rfl, hJx4, hP4⟩)
      · have hS4 := hP4.size; have hS3 := hB.size
        refine hK _ _ ?_
        clear hK K
        refine wpAnyIn_ready (rs := [4]) (by kernel_rfl) (by simp) (AllReadyIn.cons rfl (fun K hK => ?_) (AllReadyIn.nil))
        go_simp
        refine hK _ _ ?_
        clear hK K
        refine wpAnyIn_done (by kernel_rfl) ?_ _
        gi_wp2
        exact ⟨(ProtN.inner hB hP4 (by omega) (by omega) (by omega) (by simp only [World.size_alloc]; omega)), hJ4, Prot.outer hP2 hB hP4 (by omega) (by omega), T, (hP4.high _ (Nat.le_refl _) (by omega)).trans ((hB.block _ (by omega)).trans hbox2)⟩
      · have hS4 := hP4.size; have hS3 := hB.size
        refine hK _ _ ?_
        clear hK K
        refine wpAnyIn_ready (rs := [4]) (by kernel_rfl) (by simp) (AllReadyIn.cons rfl (fun K hK => ?_) (AllReadyIn.nil))
        go_simp
        refine hK _ _ ?_
        clear hK K
        refine wpAnyIn_done (by kernel_rfl) ?_ _
        gi_wp2
        exact ⟨(ProtN.inner hB hP4 (by omega) (by omega) (by omega) (by simp only [World.size_alloc]; omega)), rfl, hJx4⟩
    · go_simp
      refine hK _ _ ?_
      clear hK K
      refine wpAnyIn_ready (rs := [0, 2]) (by kernel_rfl) (by simp) (AllReadyIn.cons rfl (fun K hK => ?_) (AllReadyIn.cons rfl (fun K hK => ?_) (AllReadyIn.nil)))
      · go_simp
        refine hK _ _ ?_
        clear hK K
        refine wpAnyIn_ready (rs := [2]) (by kernel_rfl) (by simp) (AllReadyIn.cons rfl (fun K hK => ?_) (AllReadyIn.nil))
        go_simp
        refine ⟨trivial, (callsIn_any (HO.out _)).mono ?_⟩
        rintro e w3 ⟨rfl, hb3⟩
        refine hK _ _ ?_
        clear hK K
        have hB := ((Below.refl W2.heap.size W2).drew).step hb3
        refine wpAnyIn_ready (rs := [3]) (by kernel_rfl) (by simp) (AllReadyIn.cons rfl (fun K hK => ?_) (AllReadyIn.nil))
        have hJ3 := (hJ k).below_step hJ2 hB
        obtain ⟨fn, tmps, assign, body, hy, hR⟩ := hY k hkN w3 (by have := hP2.size; have := hB.size; omega) hJ3
        (try dsimp only at hy)
        rw [hg] at hy
        go_simp
        refine roundIn_any (hR.mono ?_)
        rintro e W4 (⟨rfl, hJ4, hP4⟩ | ⟨rfl, hJx4, hP4⟩)
        · have hS4 := hP4.size; have hS3 := hB.size
          refine hK _ _ ?_
          clear hK K
          refine wpAnyIn_ready (rs := [4]) (by kernel_rfl) (by simp) (AllReadyIn.cons rfl (fun K hK => ?_) (AllReadyIn.nil))
          go_simp
          refine hK _ _ ?_
          clear hK K
          refine wpAnyIn_done (by kernel_rfl) ?_ _
          gi_wp2
          exact ⟨(ProtN.inner hB hP4 (by omega) (by omega) (by omega) (by simp only [World.size_alloc]; omega)), hJ4, Prot.outer hP2 hB hP4 (by omega) (by omega), T, (hP4.high _ (Nat.le_refl _) (by omega)).trans ((hB.block _ (by omega)).trans hbox2)⟩
        · have hS4 := hP4.size; have hS3 := hB.size
          refine hK _ _ ?_
          clear hK K
          refine wpAnyIn_ready (rs := [4]) (by kernel_rfl) (by simp) (AllReadyIn.cons rfl (fun K hK => ?_) (AllReadyIn.nil))
          go_simp
          refine hK _ _ ?_
          clear hK K
          refine wpAnyIn_done (by kernel_rfl) ?_ _
          gi_wp2
          exact ⟨(ProtN.inner hB hP4 (by omega) (by omega) (by omega) (by simp only [World.size_alloc]; omega)), rfl, hJx4⟩
      · go_simp
        refine ⟨trivial, (callsIn_any (HO.out _)).mono ?_⟩
        rintro e w3 ⟨rfl, hb3⟩
        refine hK _ _ ?_
        clear hK K
        have hB := ((Below.refl W2.heap.size W2).drew).step hb3
        refine wpAnyIn_ready (rs := [0]) (by kernel_rfl) (by simp) (AllReadyIn.cons rfl (fun K hK => ?_) (AllReadyIn.nil))
        have hc3 := cell_step hcb hB
        go_simp
        refine hK _ _ ?_
        clear hK K
        refine wpAnyIn_ready (rs := [3]) (by kernel_rfl) (by simp) (AllReadyIn.cons rfl (fun K hK => ?_) (AllReadyIn.nil))
        have hJ3 := (hJ k).below_step hJ2 hB
        obtain ⟨fn, tmps, assign, body, hy, hR⟩ := hY k hkN w3 (by have := hP2.size; have := hB.size; omega) hJ3
        (try dsimp only at hy)
        rw [hg] at hy
        go_simp
        refine roundIn_any (hR.mono ?_)
        rintro e W4 (⟨rfl, hJ4, hP4⟩ | ⟨rfl, hJx4, hP4⟩)
        · have hS4 := hP4.size; have hS3 := hB.size
          refine hK _ _ ?_
          clear hK K
          refine wpAnyIn_ready (rs := [4]) (by kernel_rfl) (by simp) (AllReadyIn.cons rfl (fun K hK => ?_) (AllReadyIn.nil))
          go_simp
          refine hK _ _ ?_
          clear hK K
          refine wpAnyIn_done (by kernel_rfl) ?_ _
          gi_wp2
          exact ⟨(ProtN.inner hB hP4 (by omega) (by omega) (by omega) (by simp only [World.size_alloc]; omega)), hJ4, Prot.outer hP2 hB hP4 (by omega) (by omega), T, (hP4.high _ (Nat.le_refl _) (by omega)).trans ((hB.block _ (by omega)).trans hbox2)⟩
        · have hS4 := hP4.size; have hS3 := hB.size
          refine hK _ _ ?_
          clear hK K
          refine wpAnyIn_ready (rs := [4]) (by kernel_rfl) (by simp) (AllReadyIn.cons rfl (fun K hK => ?_) (AllReadyIn.nil))
          go_simp
          refine hK _ _ ?_
          clear hK K
          refine wpAnyIn_done (by kernel_rfl) ?_ _
          gi_wp2
          exact ⟨(ProtN.inner hB hP4 (by omega) (by omega) (by omega) (by simp only [World.size_alloc]; omega)), rfl, hJx4⟩
end Go.Proofs.Ytdgeinipdphoeaa
/- Wide numbers: the program's 'Sum'. -/
namespace Go.Proofs.Ytdgeinipdphoeaa
set_option linter.unusedVariables false
set_option linter.unusedSimpArgs false
open Go.ChangeShapes Go.WideShapes Go.ChangeAt Go.RowKit Go.Shelf
attribute [local go_sem] Oper.semAt_some

theorem ProtN.below {n₀ lo hi B : Nat} {X Y : World} (hb : Below X.heap.size X Y) (h1 : n₀ ≤ X.heap.size) (h2 : hi ≤ X.heap.size) : ProtN n₀ lo hi B X Y :=
  ⟨hb.size, fun k hk => hb.block k (by omega), fun k a b => hb.block k (by omega), fun k a b => hb.block k b⟩
theorem ProtN.setCell {n₀ lo hi B : Nat} {X Y : World} (h : ProtN n₀ lo hi B X Y) {p : Addr} (h1 : n₀ ≤ p.block) (h2 : p.block < lo ∨ hi ≤ p.block) (h3 : p.block < B) (u : Value) : ProtN n₀ lo hi B X (Y.setCell p u) :=
  h.trans ⟨by simp [World.setCell], fun k hk => Below.heap_setCell Y p u k (by omega), fun k a b => Below.heap_setCell Y p u k (by omega), fun k a b => Below.heap_setCell Y p u k (by omega)⟩

def sumJ (xs : List Int) (w : World) (k : Nat) (X : World) : Prop :=
  X.heap[w.heap.size + 1]? = some (.cells #[.int .i64 (hiW (sumI (xs.take k))), .int .u64 (loW (sumI (xs.take k)))] 58 (0, 0)) ∧ X.heap[w.heap.size]? = some (.cells #[.int .i64 0, .int .u64 0] 58 (0, 0)) ∧ Below w.heap.size w X

set_option maxRecDepth 100000 in
set_option maxHeartbeats 1000000 in
theorem sum_any (v : Value) (xs : List Int) (w : World) (hv : IntsAt w v xs) (hl : xs.length ≤ 1000000000) (hx : Ints64 xs) :
    Calls Try.prog 35 #[v] w fun e w' => e = .returned ((Value.agg #[.int .i64 (hiW (sumI xs)), .int .u64 (loW (sumI xs))])) ∧ Below w.heap.size w w' := by
  obtain ⟨ao, cap, rfl, hA⟩ := hv
  obtain ⟨N, hN⟩ : ∃ N, xs.length = N := ⟨_, rfl⟩
  rw [hN] at hA hl ⊢
  have HA : Hid (∀ o1 o2 o3 : Obj, 0 < N → ∃ a o, ao = some ⟨a, o, none⟩ ∧ a < w.heap.size ∧ ∀ k, k < N → (((w.alloc o1).alloc o2).alloc o3).cell? ⟨a, o + k, none⟩ = some (.int .i64 (xs[k]?.getD 0))) := hid fun o1 o2 o3 h => by
    obtain ⟨a, o, e, hc⟩ := hA h
    exact ⟨a, o, e, World.block_lt_of_cell? _ _ (hc 0 h), fun k hk => cell_step (hc k hk) ((((Below.refl _ w).new _).new _).new _)⟩
  clear hA
  refine calls_marks Try.func35 rfl ?_
  simp only [Try.ntmps35, List.size_toArray, List.length_cons, List.length_nil, Nat.reduceAdd, Nat.reduceSub, Array.replicate_succ, Array.replicate_zero, List.push_toArray, List.append_toArray, List.nil_append, List.cons_append]
  go_wp2_with (go_at_call 67; ((with_reducible refine (numbers_any _ _ _ _).mono ?_); rintro e w1 ⟨rfl, rfl⟩))
  refine wp_rangeN (gf := 96) (lb := #[.pointer (some ⟨w.heap.size + 1 + 1, 0, none⟩)]) rfl (enters_of Try.func96 (by kernel_rfl) rfl)
    (numbers_seq xs hx N hN ao cap (w.heap.size + 1 + 1) w.heap.size (w.heap.size + 1 + 1) (w.heap.size + 1 + 1 + 1) _ (by omega) (by simp) (by simp; omega) hl (by go_simp) (HA.out _ _ _))
    (by simp; omega) (fun _ => rfl) (sumJ xs w) (fun _ _ _ => False) ?stab ?stabx ?start ?round ?done ?stop
  case stab => exact fun k => Stab.and Stab.block (Stab.and Stab.block (Stab.below (Nat.le_refl _) (by simp; omega)))
  case stabx => exact fun c k => Stab.pure _
  case start => exact ⟨by (simp (disch := first | omega | (simp only [World.size_alloc, World.size_setCell, World.size_drew]; done) | (simp only [World.size_alloc, World.size_setCell, World.size_drew]; omega)) only [heap_at, heap_past, heap_set_other, heap_set_same]); rfl, by (simp (disch := first | omega | (simp only [World.size_alloc, World.size_setCell, World.size_drew]; done) | (simp only [World.size_alloc, World.size_setCell, World.size_drew]; omega)) only [heap_at, heap_past, heap_set_other, heap_set_same]), by (repeat' (first | (with_reducible exact Below.refl _ _) | (with_reducible assumption) | (with_reducible refine Below.new ?_ _) | (with_reducible refine Below.alloc ?_ ?_ _) | (with_reducible refine Below.drew ?_) | (with_reducible refine Below.drewN ?_ _) | (with_reducible refine Below.setCell ?_ ?_ _) | (refine Below.step ?_ (by assumption)) | go_size))⟩
  case done =>
    intro D X hD hI hK
    obtain ⟨hB, hR, hbel⟩ := hI
    have ht : xs.take N = xs := by rw [← hN, List.take_length]
    rw [ht] at hB
    obtain ⟨c0, c1, g0, g1, b1⟩ := two_is hB
    obtain ⟨r0, r1, q0, q1, b2⟩ := two_is hR
    simp only [World.size_alloc] at hD
    go_wp2
    have hK' : ((X.setCell ⟨w.heap.size, 0, none⟩ (.int .i64 (hiW (sumI xs)))).setCell ⟨w.heap.size, 1, none⟩ (.int .u64 (loW (sumI xs)))).heap[D]? = some (.deferred (some [])) := by
      rw [heap_set_other (by omega), heap_set_other (by omega)]; exact hK
    have hR' := two_set (u := .int .i64 (hiW (sumI xs))) (v := .int .u64 (loW (sumI xs))) hR
    refine ret_mark (.inl rfl) hK' fun w' hT => ?_
    obtain ⟨y0, y1, _, _, _⟩ := two_is ((hT.block (lt_of_block hR') (by omega)).trans hR')
    refine ⟨_, by simp only [results, Try.results35]; go_simp; try rfl, rfl, ?_⟩
    exact (Stab.below (Nat.le_refl _) (Nat.le_refl _)).turn ((hbel.setCell (by simp) _).setCell (by simp) _) hT (by omega)
  case stop =>
    intro D c k X hD hk hX hK
    exact hX.elim
  case round =>
    intro l' k X hkN hI hl2 hlt hX
    obtain ⟨hB, hR, hbel⟩ := hI
    simp only [World.size_alloc] at hl2 hX
    gi_wp2
    refine ⟨ProtN.below ((Below.refl _ X).new _) (by omega) (by omega), fun W2 hT => ?_⟩
    have hkl : k < xs.length := by omega
    have hg : xs[k]?.getD 0 = xs[k] := by simp [hkl]
    have hsk : sumI (xs.take (k + 1)) = sumI (xs.take k) + xs[k] := by rw [sumI_take hkl, hg]
    have HS := hid hsk
    clear hsk
    have hT2 := hT.size
    simp only [World.size_alloc] at hT2
    have hB2 := (hT.block (by simp; omega) (by omega)).trans ((heap_past (by omega)).trans hB)
    have hR2 := (hT.block (by simp; omega) (by omega)).trans ((heap_past (by omega)).trans hR)
    have hV2 := (hT.block (k := X.heap.size) (by simp) (by omega)).trans (heap_at rfl)
    have hbel2 : Below w.heap.size w W2 := (Stab.below (Nat.le_refl _) (Nat.le_refl _)).turn (hbel.new _) hT (by omega)
    obtain ⟨c0, c1, g0, g1, b1⟩ := two_is hB2
    obtain ⟨v0, v1, _, _, b2⟩ := two_is hV2
    gi_wp2
    refine ⟨trivial, (callsIn_any (all_two (sumI (xs.take k)) xs[k] (X.heap.size + 1) 2 _ (by go_simp) (by go_simp) (by go_simp) (by go_simp))).mono ?_⟩
    rintro e w3 ⟨rfl, hb3⟩
    have hz3 := hb3.size
    simp only [World.size_alloc] at hz3
    have hB3 := (hb3.block (w.heap.size + 1) (by simp; omega)).trans ((heap_past (by omega)).trans hB2)
    have hR3 := (hb3.block w.heap.size (by simp; omega)).trans ((heap_past (by omega)).trans hR2)
    have hbel3 : Below w.heap.size w w3 := (hbel2.new _).step hb3
    have hP3 : ProtN w.heap.size (w.heap.size + 1 + 1) (w.heap.size + 1 + 1 + 1) (w.heap.size + 1 + 1 + 1) W2 w3 := ProtN.below (((Below.refl _ W2).new _).step hb3) (by omega) (by omega)
    obtain ⟨d0, d1, f0, f1, b3⟩ := two_is hB3
    gi_wp2
    refine ⟨((hP3.setCell (p := ⟨w.heap.size + 1, 0, none⟩) (by simp) (by simp) (by simp) _).setCell (p := ⟨w.heap.size + 1, 1, none⟩) (by simp) (by simp) (by simp) _).weaken (by simp), ?_, ?_, (hbel3.setCell (by simp) _).setCell (by simp) _⟩
    · rw [HS.out]; exact two_set hB3
    · rw [heap_set_other (by simp), heap_set_other (by simp)]; exact hR3
end Go.Proofs.Ytdgeinipdphoeaa
