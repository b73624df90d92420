/- A range over a function whose iterator itself ranges over one: a contract for iterators ('SeqN') whose rounds keep whatever the iterator has made, and the caller's law. -/
import Derived.Test.YtcdfbcmhikhnjaaDoorSeq
namespace Go.Proofs.YtcdfbcmhikhnjaaDoor
set_option linter.unusedVariables false
set_option linter.unusedSimpArgs false
open Go.RowKit

/-- What a round keeps: what lies below n₀; lo to hi; what lies from B on. -/
structure ProtN (n₀ lo hi B : Nat) (W W' : World) : Prop where
  size : W.heap.size ≤ W'.heap.size
  low : ∀ k, k < n₀ → W'.heap[k]? = W.heap[k]?
  mid : ∀ k, lo ≤ k → k < hi → W'.heap[k]? = W.heap[k]?
  high : ∀ k, B ≤ k → k < W.heap.size → W'.heap[k]? = W.heap[k]?
theorem ProtN.refl (n₀ lo hi B : Nat) (W : World) : ProtN n₀ lo hi B W W := ⟨Nat.le_refl _, fun _ _ => rfl, fun _ _ _ => rfl, fun _ _ _ => rfl⟩
theorem ProtN.trans {n₀ lo hi B : Nat} {X Y Z : World} (h : ProtN n₀ lo hi B X Y) (k : ProtN n₀ lo hi B Y Z) : ProtN n₀ lo hi B X Z :=
  ⟨Nat.le_trans h.size k.size, fun i hi => (k.low i hi).trans (h.low i hi), fun i h1 h2 => (k.mid i h1 h2).trans (h.mid i h1 h2), fun i h1 h2 => (k.high i h1 (Nat.lt_of_lt_of_le h2 h.size)).trans (h.high i h1 h2)⟩
theorem ProtN.weaken {n₀ lo hi B B' : Nat} {X Y : World} (h : ProtN n₀ lo hi B X Y) (hB : B ≤ B') : ProtN n₀ lo hi B' X Y := ⟨h.size, h.low, h.mid, fun i h1 h2 => h.high i (Nat.le_trans hB h1) h2⟩
theorem ProtN.putObj {n₀ lo hi B : Nat} (W : World) (l : Nat) (o' : Obj) (hl : n₀ ≤ l ∧ hi ≤ l ∧ l < B) : ProtN n₀ lo hi B W (W.putObj l o') :=
  ⟨by simp, fun k hk => World.putObj_heap_other (by omega), fun k h1 h2 => World.putObj_heap_other (by omega), fun k h1 h2 => World.putObj_heap_other (by omega)⟩
theorem ProtN.prot {n₀ lo hi B : Nat} {X Y : World} (h : ProtN n₀ lo hi B X Y) : Prot n₀ lo hi X Y := ⟨h.size, h.low, h.mid⟩

/-- The contract of an iterator that gives 'enc 0' .. 'enc (N - 1)'; each round keeps what the iterator has made. -/
def SeqN (P : Program) (g : Nat) (lb : Array Value) (enc : Nat → Array Value) (n₀ lo hi : Nat) (N : Nat) (w : World) : Prop :=
  ∀ (n l : Nat) (J Jx : Nat → World → Prop) (W : World), Below w.heap.size w W → (∀ k, Stab W.heap.size (J k)) → (∀ k, Stab W.heap.size (Jx k)) →
    (∀ k, k < N → ∀ W1, W.heap.size ≤ W1.heap.size → J k W1 → YieldAt Fence.wide n P l (enc k) W1 fun e W' =>
      (e = .returned (.bool true) ∧ J (k + 1) W' ∧ ProtN n₀ lo hi W.heap.size W1 W') ∨ (e = .returned (.bool false) ∧ Jx k W' ∧ ProtN n₀ lo hi W.heap.size W1 W')) →
    J 0 W →
    Calls P g (#[.func (.yield l) #[] #[]] ++ lb) W fun e W' => (∃ v, e = .returned v) ∧ (J N W' ∨ ∃ k, k < N ∧ Jx k W')

/-- How a round's body may be left. -/
def roundQN (B n₀ lo hi : Nat) (I : Nat → World → Prop) (Ix : Code → Nat → World → Prop) (k : Nat) (W : World) : Exit → Act → World → Prop
  | .normal, _, W' => ProtN n₀ lo hi B W W' ∧ I (k + 1) W'
  | .ret, _, W' => ProtN n₀ lo hi B W W' ∧ Ix .ret k W'
  | .exit id, _, W' => ProtN n₀ lo hi B W W' ∧ Ix (.exit id) k W'
  | .goto t, _, W' => ProtN n₀ lo hi B W W' ∧ Ix (.goto t) k W'
  | .panic _, _, _ => False
  | .outgrown, _, _ => False

set_option maxHeartbeats 1000000 in
/-- 'for .. := range g { body }', g a value of an iterator that gives xs. -/
theorem wp_rangeN {P : Program} {g : Operand} {ps : Array Tmp} {assign body : Code} {Q : Exit → Act → World → Prop} {a : Act} {w : World}
    {gf : Nat} {lb : Array Value} (hg : a.eval g = .func (.func gf) #[] lb) (eg : ∀ args w, (callFunc gf args).run P w = .ok (.enter gf args) w)
    {enc : Nat → Array Value} {n₀ lo hi : Nat} {N : Nat} (hseq : SeqN P gf lb enc n₀ lo hi N w) (hn : n₀ ≤ w.heap.size ∧ hi ≤ w.heap.size) (hps : ∀ k, (enc k).size = ps.size)
    (I : Nat → World → Prop) (Ix : Code → Nat → World → Prop) (hI : ∀ k, Stab w.heap.size (I k)) (hIx : ∀ c k, Stab w.heap.size (Ix c k)) (h0 : I 0 w)
    (hround : ∀ (l k : Nat) (W : World), k < N → I k W → w.heap.size ≤ l → l < W.heap.size → w.heap.size ≤ W.heap.size →
      assign.wpIn (Fence.wide.inRound l) 8 P (Exit.then (fun a₁ W1 => ProtN n₀ lo hi w.heap.size W W1 ∧ ∀ W2, Turn l W1 W2 → body.wpIn (Fence.wide.inRound l) 8 P (roundQN w.heap.size n₀ lo hi I Ix k W2) a₁ W2) (fun _ _ _ => False))
        { tmps := (ps.zip (enc k)).foldl (fun t (p, v) => t.setIfInBounds p v) a.tmps, defers := [] } W)
    (hdone : ∀ (D : Nat) (W : World), w.heap.size ≤ D → I N W → W.heap[D]? = some (.deferred (some [])) → Q .normal { a with defers := mark D :: a.defers } W)
    (hstop : ∀ (D : Nat) (c : Code) (k : Nat) (W : World), w.heap.size ≤ D → k < N → Ix c k W → W.heap[D]? = some (.deferred (some [])) → c.wp P Q { a with defers := mark D :: a.defers } W) :
    (Code.rangeFunc g ps assign body).wp P Q a w := by
  rw [← wpIn_wide (n := 10)]
  refine wpIn_rangeFunc ?_
  intro fn hfn
  obtain ⟨rec, hrec⟩ : ∃ rec : LoopState → Option Code → Loop, rec = fun st pe => { state := st, pending := pe, fn, tmps := a.tmps, params := ps, assign, body, defers := w.heap.size } := ⟨_, rfl⟩
  obtain ⟨W1, hW1⟩ : ∃ W1, (w.alloc (.deferred (some []))).alloc (.loop (rec .ready none)) = W1 := ⟨_, rfl⟩
  have hL1 : W1.heap[w.heap.size + 1]? = some (.loop (rec .ready none)) := by
    rw [← hW1]; have := World.alloc_heap_new (w.alloc (.deferred (some []))) (.loop (rec .ready none)); rwa [World.size_alloc] at this
  have hK1 : W1.heap[w.heap.size]? = some (.deferred (some [])) := by
    rw [← hW1]; exact (Below.heap_alloc _ _ _ (by simp)).trans (World.alloc_heap_new w _)
  have hI1 : I 0 W1 := by rw [← hW1]; exact (hI 0).alloc _ ((hI 0).alloc _ h0)
  have hb1 : Below w.heap.size w W1 := by rw [← hW1]; exact ((Below.refl _ w).alloc (Nat.le_refl _) _).alloc (by simp) _
  have hs1 : W1.heap.size = w.heap.size + 1 + 1 := by rw [← hW1]; simp
  refine ⟨w.heap.size + 1, [mark w.heap.size], W1, { target := .fn (.func gf) lb, args := #[.func (.yield (w.heap.size + 1)) #[] #[]] }, W1, gf,
    #[.func (.yield (w.heap.size + 1)) #[] #[]] ++ lb, W1, ?_, ?_, ?_, ?_, fun _ => by omega, ?_⟩
  · rw [← hW1, hrec]; exact run_enterLoop_outer _ _ _ _ _
  · simp only [resolve, hg]
    simp [go_sem]
  · intro f' hf'; trivial
  · simp [invoke, go_sem, eg]
  · have hrow : ∀ {A : World} {row : Option Nat}, (∀ r, row = some r → W1.heap.size ≤ r ∧ ∃ o : Obj, A.heap[r]? = some o ∧ o.isCells = false) → (∀ r, row = some r → w.heap.size ≤ r ∧ ∃ o : Obj, A.heap[r]? = some o ∧ o.isCells = false) :=
      fun hr r e => by obtain ⟨hB, h⟩ := hr r e; exact ⟨by omega, h⟩
    have hstay : ∀ {A A' : World} {row : Option Nat} {k : Nat} {o : Obj}, A.grownBy A' row → (∀ r, row = some r → W1.heap.size ≤ r ∧ ∃ o : Obj, A.heap[r]? = some o ∧ o.isCells = false) → k < W1.heap.size → A.heap[k]? = some o → A'.heap[k]? = some o :=
      fun hg' hr hk ho => (hg'.block _ (Array.getElem?_eq_some_iff.1 ho).1 (fun e => by have := (hr _ e.symm).1; omega)).trans ho
    refine (callsIn_wide.2 (hseq 8 (w.heap.size + 1)
      (fun k W => I k W ∧ W.heap[w.heap.size + 1]? = some (.loop (rec .ready none)) ∧ W.heap[w.heap.size]? = some (.deferred (some [])))
      (fun k W => ∃ c, Ix c k W ∧ W.heap[w.heap.size + 1]? = some (.loop (rec .done (some c))) ∧ W.heap[w.heap.size]? = some (.deferred (some [])))
      W1 hb1
      (fun k A B row hs hg' hr => ⟨hI k A B row hs.1 hg' (hrow hr), hstay hg' hr (by omega) hs.2.1, hstay hg' hr (by omega) hs.2.2⟩)
      (fun k A B row hs hg' hr => by
        obtain ⟨c, hc, hl, hk⟩ := hs
        exact ⟨c, hIx c k A B row hc hg' (hrow hr), hstay hg' hr (by omega) hl, hstay hg' hr (by omega) hk⟩)
      ?_ ⟨hI1, hL1, hK1⟩)).mono ?_
    · -- one round
      rintro k hlen W hWs ⟨hi', hl, hk⟩
      have hlt : w.heap.size + 1 < W.heap.size := (Array.getElem?_eq_some_iff.1 hl).1
      have hy := run_yield (P := P) (args := enc k) hl (by rw [hrec]; exact hps _)
      rw [hrec] at hy
      refine ⟨fn, _, assign, body, hy, roundIn_of_wpIn hfn ?_⟩
      clear hy
      refine wpIn_mono (hround _ k W hlen hi' (by omega) hlt (by omega)) ?_
      intro e a' Wa hpost
      cases e with
      | normal =>
        obtain ⟨hka, hbody⟩ := hpost
        have hla := (hka.high _ (by omega) hlt).trans hl
        have hda := (hka.high _ (Nat.le_refl _) (by omega)).trans hk
        have hlta : w.heap.size + 1 < Wa.heap.size := (Array.getElem?_eq_some_iff.1 hla).1
        refine ⟨_, run_beginRound hla (by rw [hrec]), ?_⟩
        have hl2 : (Wa.putObj (w.heap.size + 1) (.loop { rec .ready none with state := .busy })).heap[w.heap.size + 1]? = some (.loop { rec .ready none with state := .busy }) := World.putObj_heap_same hlta
        have hk2 : (Wa.putObj (w.heap.size + 1) (.loop { rec .ready none with state := .busy })).heap[w.heap.size]? = some (.deferred (some [])) := (World.putObj_heap_other (by omega)).trans hda
        have hw2 : ProtN n₀ lo hi W1.heap.size Wa (Wa.putObj (w.heap.size + 1) (.loop { rec .ready none with state := .busy })) := ProtN.putObj _ _ _ (by omega)
        refine wpIn_mono (hbody _ (Turn.putObj hla rfl)) ?_
        have fin : ∀ (jump : Option Code) (W3 : World), ProtN n₀ lo hi w.heap.size (Wa.putObj (w.heap.size + 1) (.loop { rec .ready none with state := .busy })) W3 →
            (Instr.endRound (w.heap.size + 1) jump).run P W3 = .ok (.bool jump.isNone) (W3.putObj (w.heap.size + 1) (.loop (rec (if jump.isNone then .ready else .done) jump))) ∧
            W3.heap[w.heap.size + 1]? = some (.loop { rec .ready none with state := .busy }) ∧
            (W3.putObj (w.heap.size + 1) (.loop (rec (if jump.isNone then .ready else .done) jump))).heap[w.heap.size + 1]? = some (.loop (rec (if jump.isNone then .ready else .done) jump)) ∧
            (W3.putObj (w.heap.size + 1) (.loop (rec (if jump.isNone then .ready else .done) jump))).heap[w.heap.size]? = some (.deferred (some [])) := fun jump W3 hk3 => by
          have hl3 := (hk3.high _ (by omega) (Array.getElem?_eq_some_iff.1 hl2).1).trans hl2
          have := run_endRound (P := P) jump hl3
          rw [hrec] at this ⊢
          exact ⟨this, by rw [hrec] at hl3; exact hl3, World.putObj_heap_same (Array.getElem?_eq_some_iff.1 hl3).1, (World.putObj_heap_other (by omega)).trans ((hk3.high _ (Nat.le_refl _) (Array.getElem?_eq_some_iff.1 hk2).1).trans hk2)⟩
        rintro e a3 W3 hp
        cases e with
        | normal =>
          obtain ⟨hk3, hi3⟩ := hp
          obtain ⟨hr, hl3, hl4, hk4⟩ := fin none W3 hk3
          exact ⟨_, _, hr, .inl ⟨rfl, ⟨(hI _).putObj _ hi3 (by omega) hl3 rfl, hl4, hk4⟩, (hka.weaken (by omega)).trans ((hw2.trans (hk3.weaken (by omega))).trans (ProtN.putObj _ _ _ (by omega)))⟩⟩
        | ret =>
          obtain ⟨hk3, hi3⟩ := hp
          obtain ⟨hr, hl3, hl4, hk4⟩ := fin (some .ret) W3 hk3
          exact ⟨_, _, hr, .inr ⟨rfl, ⟨.ret, (hIx _ _).putObj _ hi3 (by omega) hl3 rfl, hl4, hk4⟩, (hka.weaken (by omega)).trans ((hw2.trans (hk3.weaken (by omega))).trans (ProtN.putObj _ _ _ (by omega)))⟩⟩
        | exit id =>
          obtain ⟨hk3, hi3⟩ := hp
          obtain ⟨hr, hl3, hl4, hk4⟩ := fin (some (.exit id)) W3 hk3
          exact ⟨_, _, hr, .inr ⟨rfl, ⟨.exit id, (hIx _ _).putObj _ hi3 (by omega) hl3 rfl, hl4, hk4⟩, (hka.weaken (by omega)).trans ((hw2.trans (hk3.weaken (by omega))).trans (ProtN.putObj _ _ _ (by omega)))⟩⟩
        | goto t =>
          obtain ⟨hk3, hi3⟩ := hp
          obtain ⟨hr, hl3, hl4, hk4⟩ := fin (some (.goto t)) W3 hk3
          exact ⟨_, _, hr, .inr ⟨rfl, ⟨.goto t, (hIx _ _).putObj _ hi3 (by omega) hl3 rfl, hl4, hk4⟩, (hka.weaken (by omega)).trans ((hw2.trans (hk3.weaken (by omega))).trans (ProtN.putObj _ _ _ (by omega)))⟩⟩
        | panic ch => exact hp.elim
        | outgrown => exact hp.elim
      | ret => exact hpost.elim
      | exit id => exact hpost.elim
      | goto t => exact hpost.elim
      | panic ch => exact hpost.elim
      | outgrown => exact hpost.elim
    · -- behind the iterator
      rintro e W2 ⟨⟨v, rfl⟩, (⟨hi', hl, hk⟩ | ⟨k, hkl, c, hi', hl, hk⟩)⟩
      · exact ⟨none, _, by have := run_endLoop (P := P) hl (by rw [hrec]; simp); rw [hrec] at this; exact this, hdone _ _ (Nat.le_refl _) ((hI _).putObj _ hi' (by omega) hl rfl) ((World.putObj_heap_other (by omega)).trans hk)⟩
      · exact ⟨some c, _, by have := run_endLoop (P := P) hl (by rw [hrec]; simp); rw [hrec] at this; exact this, wpIn_wide.2 (hstop _ c k _ (Nat.le_refl _) hkl ((hIx c k).putObj _ hi' (by omega) hl rfl) ((World.putObj_heap_other (by omega)).trans hk))⟩

end Go.Proofs.YtcdfbcmhikhnjaaDoor
