/- A region that draws its order, of three kinds of operations: some that read what is the same in each world of a class (they are taken first), some that come in one order and keep the class, some that come in one order behind all those that read: one walk. -/
import Derived.Test.YtdgeinipdphoeaaBase
import Derived.OrdersHeld
import Derived.StillTail
namespace Go
section
variable {P : Program} {ops : Array Oper} {Q : Exit → Act → World → Prop} {md : Region.Mode} {S : World → Prop} {E : Nat → Bool}

/-- Does one wait for another, directly or through others? -/
def needsB (md : Region.Mode) (ops : Array Oper) : Nat → Nat → Nat → Bool
  | 0, _, _ => false
  | f + 1, j, i => match ops[j]? with
    | none => false
    | some oj => oj.after.any fun e => Region.binds md e && (e.on == i || needsB md ops f e.on i)
def ClosedL (md : Region.Mode) (ops : Array Oper) (listed : Array Bool) : Prop := ∀ j oj, ops[j]? = some oj → listed.getD j false = true → ∀ e ∈ oj.after, Region.binds md e = true → listed.getD e.on false = true
theorem ClosedL.set {listed : Array Bool} {i : Nat} (h : ClosedL md ops listed) (hi : i ∈ Region.ready md ops listed) : ClosedL md ops (listed.setIfInBounds i true) := by
  obtain ⟨_, oi, hoi, hall⟩ := mem_ready.1 hi
  intro j oj hj hl e he hb
  by_cases hij : i = j
  · subst hij
    have : oj = oi := Option.some.inj (hj.symm.trans hoi)
    subst this
    exact getD_set_true (hall e he hb)
  · rw [getD_set_ne false hij] at hl
    exact getD_set_true (h j oj hj hl e he hb)
theorem needs_listed {listed : Array Bool} {i : Nat} (hcl : ClosedL md ops listed) : ∀ (f j : Nat), needsB md ops f j i = true → (∀ oj, ops[j]? = some oj → ∀ e ∈ oj.after, Region.binds md e = true → listed.getD e.on false = true) → listed.getD i false = true
  | 0, _, h, _ => by simp [needsB] at h
  | f + 1, j, h, ha => by
    unfold needsB at h
    split at h
    · cases h
    · rename_i oj hoj
      obtain ⟨e, he, hb⟩ := Array.any_eq_true'.1 h
      simp only [Bool.and_eq_true, Bool.or_eq_true, beq_iff_eq] at hb
      have hl := ha oj hoj e he hb.1
      rcases hb.2 with h2 | h2
      · rw [← h2]; exact hl
      · exact needs_listed hcl f e.on h2 (fun ok hk e' he' hb' => hcl e.on ok hk hl e' he' hb')

/-- One of those numbers? -/
def exE (EX : List Nat) (j : Nat) : Bool := EX.contains j
/-- Whatever order is picked; behind each operation that is not of E the class holds. -/
def wpMix (P : Program) (md : Region.Mode) (ops : Array Oper) (Q : Exit → Act → World → Prop) (S : World → Prop) (E : Nat → Bool) : Nat → Array Bool → Act → World → Prop
  | 0, listed, a, w => Region.ready md ops listed = [] ∧ Q .normal a w
  | fuel + 1, listed, a, w =>
    (Region.ready md ops listed = [] → Q .normal a w) ∧
    ∀ i ∈ Region.ready md ops listed, wpOp P ops Q i (fun a' w' => (E i = false → S w') ∧ wpMix P md ops Q S E fuel (listed.setIfInBounds i true) a' w') a w
theorem wpAny_of_some : ∀ (fuel : Nat) (listed : Array Bool) (a : Act) (w : World), wpMix P md ops Q S E fuel listed a w → wpAny P md ops Q fuel listed a w
  | 0, _, _, _, h => h
  | fuel + 1, _, _, _, h => ⟨h.1, fun i hi => wpOp_mono (fun a' w' h' => wpAny_of_some fuel _ a' w' h'.2) (h.2 i hi)⟩
theorem wp_region_some {id : Nat} {l : List Oper} {a : Act} {w : World} (S : World → Prop) (EX : List Nat) (hm : P.follows .mixedOrders = true)
    (h : wpMix P .any l.toArray Q S (exE EX) l.length (Array.replicate l.length false) a w.drew) : (Code.region id l.toArray true).wp P Q a w :=
  wp_region_any hm (wpAny_of_some (S := S) (E := exE EX) _ _ _ _ (by simpa using h))

theorem wpMix_first {i : Nat} {oi : Oper} {v : Value} {T : World → Prop} (hi : ops[i]? = some oi) (hsel : ∀ (j : Nat) (o : Oper) cs b, ops[j]? = some o → o.op ≠ .select cs b)
    (hQ : ∀ c a w, Q (.panic c) (a.put oi.dst v) w → Q (.panic c) a w) (hTS : ∀ w, T w → E i = false → S w) (hST : ∀ w, S w → T w) :
    ∀ (fuel : Nat) (listed : Array Bool) (a : Act) (w : World), ClosedL md ops listed → ((∀ w, T w) ∨ ∀ j, E j = true → listed.getD j false = true ∨ ∃ f, needsB md ops f j i = true) →
      (∀ j oj, ops[j]? = some oj → j ≠ i → listed.getD j true = false → (∀ e ∈ oj.after, Region.binds md e = true → e.on ≠ i) → oi.apart ops oj = true) →
      i ∈ Region.ready md ops listed → YieldsIf P ops T oi v a → T w →
      wpMix P md ops Q S E fuel (listed.setIfInBounds i true) (a.put oi.dst v) w → wpMix P md ops Q S E (fuel + 1) listed a w := by
  intro fuel
  induction fuel with
  | zero =>
    intro listed a w _ _ _ hr hy hS H
    refine ⟨fun h => (by rw [h] at hr; cases hr), fun j hj => ?_⟩
    by_cases hji : j = i
    · subst hji; exact hy.wpOp hi hS ⟨hTS w hS, H⟩
    · have := ready_mono hj hji
      rw [H.1] at this
      cases this
  | succ fuel ih =>
    intro listed a w hcl hET hfree hr hy hS H
    refine ⟨fun h => (by rw [h] at hr; cases hr), fun j hj => ?_⟩
    by_cases hji : j = i
    · subst hji; exact hy.wpOp hi hS ⟨hTS w hS, H⟩
    · have h1 := H.2 j (ready_mono hj hji)
      obtain ⟨hjun, oj, hoj, hall⟩ := mem_ready.1 hj
      have hun : listed.getD i false = false := getD_both (mem_ready.1 hr).1
      have hnot : ∀ e ∈ oj.after, Region.binds md e = true → e.on ≠ i := fun e he hb heq => by
        have h1 := hall e he hb
        rw [heq, hun] at h1
        cases h1
      have h2 := wpOp_putIf hoj (hfree j oj hoj hji hjun hnot) (fun cs b => hsel i oi cs b hi) (fun cs b => hsel j oj cs b hoj) hQ hy h1
      have hfree' : ∀ k ok, ops[k]? = some ok → k ≠ i → (listed.setIfInBounds j true).getD k true = false →
          (∀ e ∈ ok.after, Region.binds md e = true → e.on ≠ i) → oi.apart ops ok = true := fun k ok hk hki hun hno => by
        refine hfree k ok hk hki ?_ hno
        by_cases hjk : j = k
        · subst hjk; exact hjun
        · rw [getD_set_ne true hjk] at hun; exact hun
      have hTw : ∀ w', (E j = false → S w') → T w' := fun w' hw' => by
        rcases hET with h | h
        · exact h w'
        · cases hEj : E j with
          | false => exact hST w' (hw' hEj)
          | true =>
            rcases h j hEj with h | ⟨f, h⟩
            · rw [getD_both hjun] at h; cases h
            · have h3 := needs_listed hcl f j h (fun ok hk e he hb => by
                have : ok = oj := Option.some.inj (hk.symm.trans hoj)
                subst this
                exact hall e he hb)
              rw [hun] at h3
              cases h3
      refine wpOp_mono (fun a' w' h3 => ⟨h3.2.1, ih (listed.setIfInBounds j true) a' w' (hcl.set hj) (hET.imp_right fun h k hk => (h k hk).imp_left getD_set_true) hfree' (ready_mono hr (Ne.symm hji)) h3.1 (hTw w' h3.2.1) ?_⟩) h2
      rw [Array.setIfInBounds_comm _ _ hji]
      exact h3.2.2

def closedB (md : Region.Mode) (ops : Array Oper) (listed : Array Bool) : Bool :=
  (List.range ops.size).all fun j => !listed.getD j false || match ops[j]? with
    | some oj => oj.after.all fun e => !Region.binds md e || listed.getD e.on false
    | none => true
theorem closedB_spec {listed : Array Bool} (h : closedB md ops listed = true) : ClosedL md ops listed := by
  intro j oj hj hl e he hb
  unfold closedB at h
  rw [List.all_eq_true] at h
  have h1 := h j (List.mem_range.2 (Array.getElem?_eq_some_iff.1 hj).1)
  simp only [hj, hl, Bool.not_true, Bool.false_or] at h1
  have := Array.all_eq_true_iff_forall_mem.1 h1 e he
  simpa [hb] using this
/-- One that reads what is the same in each world of the class; those of EX wait for it. -/
theorem wpMix_take {EX : List Nat} {i : Nat} {oi : Oper} {v : Value} {fuel : Nat} {listed : Array Bool} {a : Act} {w : World} (hi : ops[i]? = some oi)
    (hB : (Region.noSelect ops && (closedB md ops listed && (Region.free md ops listed i && ((Region.ready md ops listed).contains i && EX.all fun j => listed.getD j false || needsB md ops ops.size j i)))) = true)
    (hQ : ∀ c a w, Q (.panic c) (a.put oi.dst v) w → Q (.panic c) a w) (hy : YieldsIf P ops S oi v a) (hS : S w)
    (h : wpMix P md ops Q S (exE EX) fuel (listed.setIfInBounds i true) (a.put oi.dst v) w) : wpMix P md ops Q S (exE EX) (fuel + 1) listed a w := by
  simp only [Bool.and_eq_true] at hB
  obtain ⟨hs, hc, hf, hr, hE⟩ := hB
  refine wpMix_first (T := S) hi (Region.noSelect_spec hs) hQ (fun _ h _ => h) (fun _ h => h) fuel listed a w (closedB_spec hc) (.inr fun j hj => ?_) (Region.free_spec hi hf) (by simpa using hr) hy hS h
  have := List.all_eq_true.1 hE j (by simpa [exE] using hj)
  rw [Bool.or_eq_true] at this
  exact this.imp_right fun h => ⟨_, h⟩
/-- One that looks at no world; it is of EX. -/
theorem wpMix_free {EX : List Nat} {i : Nat} {oi : Oper} {v : Value} {fuel : Nat} {listed : Array Bool} {a : Act} {w : World} (hi : ops[i]? = some oi)
    (hB : (Region.noSelect ops && (closedB md ops listed && (Region.free md ops listed i && ((Region.ready md ops listed).contains i && EX.contains i)))) = true)
    (hQ : ∀ c a w, Q (.panic c) (a.put oi.dst v) w → Q (.panic c) a w) (hy : YieldsIf P ops (fun _ => True) oi v a)
    (h : wpMix P md ops Q S (exE EX) fuel (listed.setIfInBounds i true) (a.put oi.dst v) w) : wpMix P md ops Q S (exE EX) (fuel + 1) listed a w := by
  simp only [Bool.and_eq_true] at hB
  obtain ⟨hs, hc, hf, hr, hE⟩ := hB
  exact wpMix_first (T := fun _ => True) hi (Region.noSelect_spec hs) hQ (fun _ _ h => by unfold exE at h; rw [hE] at h; cases h) (fun _ _ => trivial) fuel listed a w (closedB_spec hc) (.inl fun _ => trivial) (Region.free_spec hi hf) (by simpa using hr) hy trivial h
/-- The operations at some places. -/
def opsAt (l : List Oper) (T : List Nat) : List Oper := T.flatMap fun t => (l.drop t).take 1
/-- The next one is the only one that may come up, and keeps the class. -/
def NextS (P : Program) (md : Region.Mode) (ops : Array Oper) (Q : Exit → Act → World → Prop) (S : World → Prop) (E : Nat → Bool) (fuel : Nat) (listed : Array Bool) : Exit → Act → World → Prop
  | .normal, a, w => S w ∧ wpMix P md ops Q S E fuel listed a w
  | e, a, w => Q e a w
theorem opsAt_one {l : List Oper} {t : Nat} {o : Oper} (h : l.toArray[t]? = some o) : opsAt l [t] = [o] := by
  have h2 : l[t]? = some o := by simpa using h
  obtain ⟨hlt, he⟩ := List.getElem?_eq_some_iff.1 h2
  unfold opsAt
  rw [List.flatMap_cons, List.flatMap_nil, List.append_nil, List.drop_eq_getElem_cons hlt, List.take_succ_cons, List.take_zero, he]
theorem wpOp_of_list {l : List Oper} {t : Nat} {a : Act} {w : World} {Q' : Exit → Act → World → Prop} (ht : t < l.length) (hp : ∀ e a w, e ≠ .normal → Q' e a w → Q e a w) (hlo : LetsOut Q' → LetsOut Q)
    (h : wpList P l.toArray Q' (opsAt l [t]) a w) : wpOp P l.toArray Q t (Q' .normal) a w := by
  have h0 : l.toArray[t]? = some l[t] := by simp [ht]
  rw [opsAt_one h0] at h
  unfold wpOp
  simp only [h0]
  have h' : (if Region.wanted l[t] (yielded l.toArray a.tmps) then l[t].wp P a w (wpList P l.toArray Q' []) Q' ∨ (l[t].asks P a w ∧ LetsOut Q') else wpList P l.toArray Q' [] (a.put l[t].dst undef) w) := h
  split
  · rename_i hw
    rw [if_pos hw] at h'
    rcases h' with h' | ⟨h1, h2⟩
    · refine .inl ?_
      unfold Oper.wp at *
      generalize (execOp a.eval l[t]).run P w = r at *
      cases r with
      | ok n w' =>
        cases n <;> simp only [Oper.upon] at h' ⊢
        case value u => exact h'
        case skip => exact h'
        case defer d => exact h'
        case enter f args =>
          refine Calls.mono h' fun e w'' he => ?_
          cases e with
          | returned u => exact he
          | panicked c => exact hp _ _ _ (by simp) he
          | outgrown => exact hlo he
        case row row args => exact Rows.mono h' fun u w'' he => he
      | halt x w' =>
        cases x <;> simp only [Oper.upon] at h' ⊢
        case panic u => exact hp _ _ _ (by simp) h'
    · exact .inr ⟨h1, hlo h2⟩
  · rename_i hw
    rw [if_neg hw] at h'
    exact h'
theorem wpMix_next {EX : List Nat} {l : List Oper} {t fuel : Nat} {listed : Array Bool} {a : Act} {w : World} (hB : (decide (t < l.length) && (Region.ready md l.toArray listed == [t])) = true)
    (h : wpList P l.toArray (NextS P md l.toArray Q S (exE EX) fuel (listed.setIfInBounds t true)) (opsAt l [t]) a w) : wpMix P md l.toArray Q S (exE EX) (fuel + 1) listed a w := by
  simp only [Bool.and_eq_true, decide_eq_true_eq, beq_iff_eq] at hB
  obtain ⟨ht, hr⟩ := hB
  refine ⟨fun h0 => (by rw [hr] at h0; cases h0), fun i hi => ?_⟩
  rw [hr] at hi
  obtain rfl : i = t := by simpa using hi
  refine wpOp_mono (fun a' w' h' => ⟨fun _ => h'.1, h'.2⟩) (wpOp_of_list (Q := Q) (Q' := NextS P md l.toArray Q S (exE EX) fuel (listed.setIfInBounds i true)) ht (fun e a w hne h => ?_) (fun ⟨a, w, h⟩ => ⟨a, w, h⟩) h)
  cases e <;> first | exact absurd rfl hne | exact h
/-- The rest comes in one order. -/
def restB (md : Region.Mode) (l : List Oper) : List Nat → Array Bool → Bool
  | [], listed => Region.ready md l.toArray listed == []
  | t :: T, listed => decide (t < l.length) && (Region.ready md l.toArray listed == [t]) && restB md l T (listed.setIfInBounds t true)
theorem wpAny_rest {l : List Oper} : ∀ (T : List Nat) (listed : Array Bool) (a : Act) (w : World), restB md l T listed = true → wpList P l.toArray Q (opsAt l T) a w → wpAny P md l.toArray Q T.length listed a w
  | [], listed, a, w, hB, h => ⟨by simpa [restB] using hB, h⟩
  | t :: T, listed, a, w, hB, h => by
    simp only [restB, Bool.and_eq_true, decide_eq_true_eq, beq_iff_eq] at hB
    obtain ⟨⟨ht, hr⟩, hB⟩ := hB
    refine ⟨fun h0 => (by rw [hr] at h0; cases h0), fun i hi => ?_⟩
    rw [hr] at hi
    obtain rfl : i = t := by simpa using hi
    have h0 : l.toArray[i]? = some l[i] := by simp [ht]
    have e : opsAt l (i :: T) = l[i] :: opsAt l T := by
      have := opsAt_one h0
      unfold opsAt at this ⊢
      simp only [List.flatMap_cons, List.flatMap_nil, List.append_nil] at this ⊢
      rw [this]; rfl
    rw [e] at h
    have h' : (if Region.wanted l[i] (yielded l.toArray a.tmps) then l[i].wp P a w (wpList P l.toArray Q (opsAt l T)) Q ∨ (l[i].asks P a w ∧ LetsOut Q) else wpList P l.toArray Q (opsAt l T) (a.put l[i].dst undef) w) := h
    have h2 : wpOp P l.toArray Q i (wpList P l.toArray Q (opsAt l T)) a w := by
      unfold wpOp
      simp only [h0]
      exact h'
    exact wpOp_mono (fun a' w' h3 => wpAny_rest T _ a' w' hB h3) h2
theorem wpMix_of_any {EX : List Nat} : ∀ (fuel : Nat) (listed : Array Bool) (a : Act) (w : World), (∀ j, ops[j]? ≠ none → listed.getD j true = false → EX.contains j = true) → wpAny P md ops Q fuel listed a w → wpMix P md ops Q S (exE EX) fuel listed a w
  | 0, _, _, _, _, h => h
  | fuel + 1, listed, a, w, hE, h => ⟨h.1, fun i hi => by
    have hri := mem_ready.1 hi
    refine wpOp_mono (fun a' w' h' => ⟨fun he => ?_, wpMix_of_any fuel _ a' w' (fun j hj hl => hE j hj ?_) h'⟩) (h.2 i hi)
    · obtain ⟨hl, oi, hoi, _⟩ := hri
      have := hE i (by rw [hoi]; simp) hl
      unfold exE at he
      rw [this] at he
      cases he
    · by_cases hij : i = j
      · subst hij
        exact hri.1
      · rwa [getD_set_ne true hij] at hl⟩
theorem wpMix_rest {EX : List Nat} {l : List Oper} {fuel : Nat} {listed : Array Bool} {a : Act} {w : World} (T : List Nat) (hB : (restB md l T listed && ((T.length == fuel) && (List.range l.length).all fun j => listed.getD j true || EX.contains j)) = true)
    (h : wpList P l.toArray Q (opsAt l T) a w) : wpMix P md l.toArray Q S (exE EX) fuel listed a w := by
  simp only [Bool.and_eq_true, beq_iff_eq] at hB
  obtain ⟨h1, h2, h3⟩ := hB
  subst h2
  refine wpMix_of_any _ _ _ _ (fun j hj hl => ?_) (wpAny_rest T listed a w h1 h)
  have hlt : j < l.length := by
    rcases Nat.lt_or_ge j l.length with h | h
    · exact h
    · exact absurd (by simp [h]) hj
  have := List.all_eq_true.1 h3 j (List.mem_range.2 hlt)
  rw [hl, Bool.false_or] at this
  exact this
end
end Go
