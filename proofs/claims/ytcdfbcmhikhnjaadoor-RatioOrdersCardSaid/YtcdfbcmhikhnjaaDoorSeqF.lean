/- A range over a function whose iterator never ends by itself: the caller's invariant is impossible behind N rounds. -/
import Derived.Test.YtcdfbcmhikhnjaaDoorSeq
namespace Go.Proofs.YtcdfbcmhikhnjaaDoor
set_option linter.unusedVariables false
set_option linter.unusedSimpArgs false
open Go.RowKit

/-- As 'SeqI', for an iterator without end. -/
def SeqF (P : Program) (g : Nat) (lb : Array Value) (enc : Nat → Array Value) (n₀ lo hi : Nat) (N : Nat) (w : World) : Prop :=
  ∀ (n l : Nat) (J Jx : Nat → World → Prop) (W : World), 1 ≤ n → Below w.heap.size w W → (∀ k, Abide W.heap.size (J k)) → (∀ k, Abide W.heap.size (Jx k)) →
    (∀ k, k < N → ∀ W1, J k W1 → YieldAt Fence.wide (n - 1) P l (enc k) W1 fun e W' =>
      (e = .returned (.bool true) ∧ J (k + 1) W' ∧ Prot n₀ lo hi W1 W') ∨ (e = .returned (.bool false) ∧ Jx k W')) →
    (∀ W', ¬ J N W') → J 0 W →
    CallsIn Fence.wide n P g (#[.func (.yield l) #[] #[]] ++ lb) W fun e W' => (∃ v, e = .returned v) ∧ ∃ k, k < N ∧ Jx k W'
set_option maxHeartbeats 1000000 in
/-- 'for .. := range g { body }', g a value of an iterator that gives xs. -/
theorem wp_rangeF {P : Program} {g : Operand} {ps : Array Tmp} {assign body : Code} {Q : Exit → Act → World → Prop} {a : Act} {w : World}
    {gf : Nat} {lb : Array Value} (hg : a.eval g = .func (.func gf) #[] lb) (eg : ∀ args w, (callFunc gf args).run P w = .ok (.enter gf args) w)
    {enc : Nat → Array Value} {n₀ lo hi : Nat} {N : Nat} (hseq : SeqF P gf lb enc n₀ lo hi N w) (hn : n₀ ≤ w.heap.size ∧ hi ≤ w.heap.size) (hps : ∀ k, (enc k).size = ps.size)
    (I : Nat → World → Prop) (Ix : Code → Nat → World → Prop) (hI : ∀ k, Stab w.heap.size (I k)) (hIx : ∀ c k, Stab w.heap.size (Ix c k)) (hNF : ∀ W, ¬ I N W) (h0 : I 0 w)
    (hround : ∀ (l k : Nat) (W : World), k < N → I k W → w.heap.size ≤ l → l < W.heap.size → w.heap.size ≤ W.heap.size →
      assign.wpIn (Fence.wide.inRound l) 8 P (Exit.then (fun a₁ W1 => Kept w.heap.size n₀ lo hi W W1 ∧ ∀ W2, Turn l W1 W2 → body.wpIn (Fence.wide.inRound l) 8 P (roundQ w.heap.size n₀ lo hi I Ix k W2) a₁ W2) (fun _ _ _ => False))
        { tmps := (ps.zip (enc k)).foldl (fun t (p, v) => t.setIfInBounds p v) a.tmps, defers := [] } W)
    (hstop : ∀ (D : Nat) (c : Code) (k : Nat) (W : World), w.heap.size ≤ D → k < N → Ix c k W → W.heap[D]? = some (.deferred (some [])) → c.wp P Q { a with defers := mark D :: a.defers } W) :
    (Code.rangeFunc g ps assign body).wp P Q a w := by
  rw [← wpIn_wide (n := 10)]
  refine wpIn_rangeFunc ?_
  intro fn hfn
  obtain ⟨rec, hrec⟩ : ∃ rec : LoopState → Option Code → Loop, rec = fun st pe => { state := st, pending := pe, fn, tmps := a.tmps, params := ps, assign, body, defers := w.heap.size } := ⟨_, rfl⟩
  obtain ⟨W1, hW1⟩ : ∃ W1, (w.alloc (.deferred (some []))).alloc (.loop (rec .ready none)) = W1 := ⟨_, rfl⟩
  have hL1 : W1.heap[w.heap.size + 1]? = some (.loop (rec .ready none)) := by
    rw [← hW1]; have := World.alloc_heap_new (w.alloc (.deferred (some []))) (.loop (rec .ready none)); rwa [World.size_alloc] at this
  have hK1 : W1.heap[w.heap.size]? = some (.deferred (some [])) := by
    rw [← hW1]; exact (Below.heap_alloc _ _ _ (by simp)).trans (World.alloc_heap_new w _)
  have hI1 : I 0 W1 := by rw [← hW1]; exact (hI 0).alloc _ ((hI 0).alloc _ h0)
  have hb1 : Below w.heap.size w W1 := by rw [← hW1]; exact ((Below.refl _ w).alloc (Nat.le_refl _) _).alloc (by simp) _
  have hs1 : W1.heap.size = w.heap.size + 1 + 1 := by rw [← hW1]; simp
  refine ⟨w.heap.size + 1, [mark w.heap.size], W1, { target := .fn (.func gf) lb, args := #[.func (.yield (w.heap.size + 1)) #[] #[]] }, W1, gf,
    #[.func (.yield (w.heap.size + 1)) #[] #[]] ++ lb, W1, ?_, ?_, ?_, ?_, fun _ => by omega, ?_⟩
  · rw [← hW1, hrec]; exact run_enterLoop_outer _ _ _ _ _
  · simp only [resolve, hg]
    simp [go_sem]
  · intro f' hf'; trivial
  · simp [invoke, go_sem, eg]
  · have hnw : ∀ {A : World} {row : Option Nat}, (∀ r, row = some r → W1.heap.size ≤ r ∧ ∃ o : Obj, A.heap[r]? = some o ∧ o.isWalk = true) → (∀ r, row = some r → w.heap.size ≤ r ∧ ∃ o : Obj, A.heap[r]? = some o ∧ o.isCells = false) :=
      fun hr r e => by obtain ⟨hB, o, ho, hw⟩ := hr r e; exact ⟨by omega, o, ho, Obj.not_cells_of_walk hw⟩
    refine (hseq (10 - 1) (w.heap.size + 1)
      (fun k W => I k W ∧ W.heap[w.heap.size + 1]? = some (.loop (rec .ready none)) ∧ W.heap[w.heap.size]? = some (.deferred (some [])))
      (fun k W => ∃ c, Ix c k W ∧ W.heap[w.heap.size + 1]? = some (.loop (rec .done (some c))) ∧ W.heap[w.heap.size]? = some (.deferred (some [])))
      W1 (by omega) hb1
      (fun k A B row hs hg' hr => ⟨hI k A B row hs.1 hg' (hnw hr), (grownBy_keeps hg' (fun r e => (hr r e).2) hs.2.1 rfl).trans hs.2.1, (grownBy_keeps hg' (fun r e => (hr r e).2) hs.2.2 rfl).trans hs.2.2⟩)
      (fun k A B row hs hg' hr => by
        obtain ⟨c, hc, hl, hk⟩ := hs
        exact ⟨c, hIx c k A B row hc hg' (hnw hr), (grownBy_keeps hg' (fun r e => (hr r e).2) hl rfl).trans hl, (grownBy_keeps hg' (fun r e => (hr r e).2) hk rfl).trans hk⟩)
      ?_ (fun W h => hNF W h.1) ⟨hI1, hL1, hK1⟩).mono ?_
    · -- one round
      rintro k hlen W ⟨hi', hl, hk⟩
      have hlt : w.heap.size + 1 < W.heap.size := (Array.getElem?_eq_some_iff.1 hl).1
      have hy := run_yield (P := P) (args := enc k) hl (by rw [hrec]; exact hps _)
      rw [hrec] at hy
      refine ⟨fn, _, assign, body, hy, roundIn_of_wpIn hfn ?_⟩
      clear hy
      refine wpIn_mono (hround _ k W hlen hi' (by omega) hlt (by omega)) ?_
      intro e a' Wa hpost
      cases e with
      | normal =>
        obtain ⟨hka, hbody⟩ := hpost
        have hla := hka.from_.same _ _ (by omega) hl rfl
        have hda := hka.from_.same _ _ (Nat.le_refl _) hk rfl
        have hlta : w.heap.size + 1 < Wa.heap.size := (Array.getElem?_eq_some_iff.1 hla).1
        refine ⟨_, run_beginRound hla (by rw [hrec]), ?_⟩
        have hl2 : (Wa.putObj (w.heap.size + 1) (.loop { rec .ready none with state := .busy })).heap[w.heap.size + 1]? = some (.loop { rec .ready none with state := .busy }) := World.putObj_heap_same hlta
        have hk2 : (Wa.putObj (w.heap.size + 1) (.loop { rec .ready none with state := .busy })).heap[w.heap.size]? = some (.deferred (some [])) := (World.putObj_heap_other (by omega)).trans hda
        have hw2 : Prot n₀ lo hi Wa (Wa.putObj (w.heap.size + 1) (.loop { rec .ready none with state := .busy })) := Prot.putObj _ _ _ (by omega)
        refine wpIn_mono (hbody _ (Turn.putObj hla rfl)) ?_
        have fin : ∀ (jump : Option Code) (W3 : World), KeepsFrom w.heap.size (Wa.putObj (w.heap.size + 1) (.loop { rec .ready none with state := .busy })) W3 →
            (Instr.endRound (w.heap.size + 1) jump).run P W3 = .ok (.bool jump.isNone) (W3.putObj (w.heap.size + 1) (.loop (rec (if jump.isNone then .ready else .done) jump))) ∧
            W3.heap[w.heap.size + 1]? = some (.loop { rec .ready none with state := .busy }) ∧
            (W3.putObj (w.heap.size + 1) (.loop (rec (if jump.isNone then .ready else .done) jump))).heap[w.heap.size + 1]? = some (.loop (rec (if jump.isNone then .ready else .done) jump)) ∧
            (W3.putObj (w.heap.size + 1) (.loop (rec (if jump.isNone then .ready else .done) jump))).heap[w.heap.size]? = some (.deferred (some [])) := fun jump W3 hk3 => by
          have hl3 := hk3.same _ _ (by omega) hl2 rfl
          have := run_endRound (P := P) jump hl3
          rw [hrec] at this ⊢
          exact ⟨this, by rw [hrec] at hl3; exact hl3, World.putObj_heap_same (Array.getElem?_eq_some_iff.1 hl3).1, (World.putObj_heap_other (by omega)).trans (hk3.same _ _ (Nat.le_refl _) hk2 rfl)⟩
        rintro e a3 W3 hp
        cases e with
        | normal =>
          obtain ⟨hk3, hi3⟩ := hp
          obtain ⟨hr, hl3, hl4, hk4⟩ := fin none W3 hk3.from_
          exact ⟨_, _, hr, .inl ⟨rfl, ⟨(hI _).putObj _ hi3 (by omega) hl3 rfl, hl4, hk4⟩, hka.prot.trans ((hw2.trans hk3.prot).trans (Prot.putObj _ _ _ (by omega)))⟩⟩
        | ret =>
          obtain ⟨hk3, hi3⟩ := hp
          obtain ⟨hr, hl3, hl4, hk4⟩ := fin (some .ret) W3 hk3.from_
          exact ⟨_, _, hr, .inr ⟨rfl, .ret, (hIx _ _).putObj _ hi3 (by omega) hl3 rfl, hl4, hk4⟩⟩
        | exit id =>
          obtain ⟨hk3, hi3⟩ := hp
          obtain ⟨hr, hl3, hl4, hk4⟩ := fin (some (.exit id)) W3 hk3.from_
          exact ⟨_, _, hr, .inr ⟨rfl, .exit id, (hIx _ _).putObj _ hi3 (by omega) hl3 rfl, hl4, hk4⟩⟩
        | goto t =>
          obtain ⟨hk3, hi3⟩ := hp
          obtain ⟨hr, hl3, hl4, hk4⟩ := fin (some (.goto t)) W3 hk3.from_
          exact ⟨_, _, hr, .inr ⟨rfl, .goto t, (hIx _ _).putObj _ hi3 (by omega) hl3 rfl, hl4, hk4⟩⟩
        | panic ch => exact hp.elim
        | outgrown => exact hp.elim
      | ret => exact hpost.elim
      | exit id => exact hpost.elim
      | goto t => exact hpost.elim
      | panic ch => exact hpost.elim
      | outgrown => exact hpost.elim
    · -- behind the iterator
      rintro e W2 ⟨⟨v, rfl⟩, ⟨k, hkl, c, hi', hl, hk⟩⟩
      exact ⟨some c, _, by have := run_endLoop (P := P) hl (by rw [hrec]; simp); rw [hrec] at this; exact this, wpIn_wide.2 (hstop _ c k _ (Nat.le_refl _) hkl ((hIx c k).putObj _ hi' (by omega) hl rfl) ((World.putObj_heap_other (by omega)).trans hk))⟩
end Go.Proofs.YtcdfbcmhikhnjaaDoor
