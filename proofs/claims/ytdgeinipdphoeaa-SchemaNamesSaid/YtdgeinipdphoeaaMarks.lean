/- A function that holds a range over a function within a loop: it leaves with one mark for each round. And what a round that writes into a strings.Builder keeps. -/
import Derived.Test.YtdgeinipdphoeaaSeqW
import Derived.Test.YtdgeinipdphoeaaBld
namespace Go.Proofs.Ytdgeinipdphoeaa
set_option linter.unusedVariables false
set_option linter.unusedSimpArgs false
open Go.RowKit

/-- Blocks of collected calls, none of them taken. -/
structure Marked (lo : Nat) (Ds : List Nat) (w : World) : Prop where
  nodup : Ds.Nodup
  low : ∀ D ∈ Ds, lo ≤ D
  at_ : ∀ D ∈ Ds, w.heap[D]? = some (.deferred (some []))
theorem Marked.nil (lo : Nat) (w : World) : Marked lo [] w := ⟨List.nodup_nil, fun _ h => (by cases h), fun _ h => (by cases h)⟩
theorem Marked.lt {lo : Nat} {Ds : List Nat} {w : World} (h : Marked lo Ds w) : ∀ D ∈ Ds, D < w.heap.size := fun D hD => (Array.getElem?_eq_some_iff.1 (h.at_ D hD)).1
theorem Marked.cons {lo D : Nat} {Ds : List Nat} {w : World} (h : Marked lo Ds w) (hl : lo ≤ D) (hn : D ∉ Ds) (hD : w.heap[D]? = some (.deferred (some []))) : Marked lo (D :: Ds) w :=
  ⟨List.nodup_cons.2 ⟨hn, h.nodup⟩, fun x hx => by rcases List.mem_cons.1 hx with rfl | hx; exact hl; exact h.low x hx, fun x hx => by rcases List.mem_cons.1 hx with rfl | hx; exact hD; exact h.at_ x hx⟩

/-- The world behind the taking of all marks. -/
structure Turns (lo : Nat) (w w' : World) : Prop where
  os : w'.os = w.os
  tape : w'.tape = w.tape
  output : w'.output = w.output
  size : w'.heap.size = w.heap.size
  low : ∀ k, k < lo → w'.heap[k]? = w.heap[k]?
theorem Turns.refl (lo : Nat) (w : World) : Turns lo w w := ⟨rfl, rfl, rfl, rfl, fun _ _ => rfl⟩
theorem Turns.below {n₀ lo : Nat} {w₀ w w' : World} (h : Turns lo w w') (hb : Below n₀ w₀ w) (hl : n₀ ≤ lo) : Below n₀ w₀ w' :=
  ⟨h.os.trans hb.os, h.tape.trans hb.tape, h.output.trans hb.output, by rw [h.size]; exact hb.size, fun k hk => (h.low k (by omega)).trans (hb.block k hk)⟩

theorem leaves_marks {P : Program} {fn : Func} {tmps : Array Value} {R : Ending → World → Prop} {lo : Nat} {v : Value} : ∀ (Ds : List Nat) (w : World), Marked lo Ds w →
    (∀ w', Turns lo w w' → (results fn tmps).run P w' = .ok v w' ∧ R (.returned v) w') → LeavesInM Fence.wide 10 P fn tmps R (Ds.map mark) .returning w
  | [], w, _, h => by
    obtain ⟨hr, hR⟩ := h w (Turns.refl _ _)
    exact ⟨v, hr, hR⟩
  | D :: Ds, w, hm, h => by
    have hD := hm.at_ D (by simp)
    have hlo := hm.low D (by simp)
    obtain ⟨hn, hnd⟩ := List.nodup_cons.1 hm.nodup
    refine ⟨by simp, .inl ⟨_, _, rfl, run_takeDeferred hD, leaves_marks Ds _ ⟨hnd, fun x hx => hm.low x (by simp [hx]), fun x hx => (World.putObj_heap_other (fun e => hn (by subst e; exact hx))).trans (hm.at_ x (by simp [hx]))⟩ fun w' hT => h w' ?_⟩⟩
    exact ⟨hT.os, hT.tape, hT.output, by rw [hT.size]; simp, fun k hk => (hT.low k hk).trans (World.putObj_heap_other (by omega))⟩
/-- Its return behind many such loops. -/
theorem ret_marks {P : Program} {fn : Func} {R : Ending → World → Prop} {tmps : Array Value} {w : World} {lo : Nat} {Ds : List Nat} {v : Value} {e : Exit} (he : e = .ret ∨ e = .normal) (hm : Marked lo Ds w)
    (h : ∀ w', Turns lo w w' → (results fn tmps).run P w' = .ok v w' ∧ R (.returned v) w') : bodyPostM Fence.wide 10 P fn R e { tmps, defers := Ds.map mark } w := by
  rcases he with rfl | rfl
  · exact leaves_marks Ds w hm h
  · exact leaves_marks Ds w hm h

theorem Stab.marked {B lo : Nat} {Ds : List Nat} (h : ∀ D ∈ Ds, D < B) : Stab B (Marked lo Ds) := fun W W' row hs hg hr =>
  ⟨hs.nodup, hs.low, fun D hD => (hg.block D (hs.lt D hD) (fun e => by have := (hr D e.symm).1; have := h D hD; omega)).trans (hs.at_ D hD)⟩
theorem Stab.or {B : Nat} {p q : World → Prop} (hp : Stab B p) (hq : Stab B q) : Stab B (fun W => p W ∨ q W) := fun W W' row hs hg hr => hs.imp (fun h => hp W W' row h hg hr) (fun h => hq W W' row h hg hr)
theorem Stab.bld {B base b : Nat} {bs : List Value} : Stab B (Bld base b bs) :=
  Stab.or (Stab.and (Stab.pure _) (Stab.ex fun v => Stab.and Stab.block (Stab.and Stab.row (Stab.pure _)))) (Stab.and (Stab.pure _) (Stab.ex fun v => Stab.and Stab.block (Stab.and Stab.row (Stab.pure _))))
/-- A store into a box of another type leaves a builder as it was. -/
theorem Bld.box {base b d : Nat} {bs : List Value} {w : World} {z u : Value} {t : TypeId} (h : Bld base b bs w) (hd : w.heap[d]? = some (.cells #[z] t (0, 0))) (ht : t ≠ 5) (hbd : d ≠ b) : Bld base b bs (w.setCell ⟨d, 0, none⟩ u) := by
  have key : ∀ p, BldAt base b p bs w → BldAt base b p bs (w.setCell ⟨d, 0, none⟩ u) := fun p ⟨h1, v, h2, h3, h4⟩ =>
    ⟨h1, v, (heap_set_other (fun e => hbd e.symm)).trans h2, ownsRow_setCell_other h3 (Lib.ownBlock_ne h3 hd ht) _, h4⟩
  exact h.imp (key _) (key _)
end Go.Proofs.Ytdgeinipdphoeaa
