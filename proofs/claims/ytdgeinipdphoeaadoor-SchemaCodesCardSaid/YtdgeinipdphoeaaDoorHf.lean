/- Texts joined: SchL, Mixed, SchN, BldS, VarE, SchO, SchP. -/
import Derived.Test.YtdgeinipdphoeaaDoorHe
import Derived.Test.YtdgeinipdphoeaaDoorHa
import Derived.OrdersHeld
import Derived.StillTail
import Derived.Test.YtdgeinipdphoeaaDoorHc
import Derived.Lib.AppendStr
import Derived.Lib.UnsafeStr
/- What the laws cut: values of at most ten, texts. -/
namespace Go.Proofs.YtdgeinipdphoeaaDoor
set_option linter.unusedVariables false
set_option linter.unusedSimpArgs false
set_option maxRecDepth 100000
open Go.ChangeShapes Go.WideShapes Go.ChangeAt Go.RowKit

def cutS (n : Nat) (s : ByteArray) : ByteArray := s.extract 0 (min s.size n)
theorem cutS_size (n : Nat) (s : ByteArray) : (cutS n s).size ≤ n := by unfold cutS; rw [ByteArray.size_extract]; omega
theorem cutS_is (n : Nat) (s : ByteArray) : s.extract 0 (min (s.size : Int) (n : Int)).toNat = cutS n s := by
  unfold cutS
  rw [show (min (s.size : Int) (n : Int)).toNat = min s.size n by omega]
def valCut (v : ValD) : ValD := ⟨cutS 110 v.s, v.nl⟩
def valsCut (l : List ValD) : List ValD := (l.take 10).map valCut
theorem info_val : (Tryd.prog.info? 41).map (fun i => (i.zero, i.size, i.bytes)) = some (some (.agg #[.string { data := #[] }, .bool false]), 2, 24) := by kernel_rfl

set_option maxHeartbeats 2000000 in
theorem vals_any (v : Value) (l : List ValD) (w : World) (hv : ValsSl w v l) (hl : ∀ v ∈ l, v.s.size ≤ 9223372036854775807) :
    Calls Tryd.prog 15 #[v] w fun e w' => ∃ v', e = .returned v' ∧ w'.ownsRow w.heap.size 41 2 v' (valsCut l).length ((valsCut l).flatMap ValD.cells) ∧ Below w.heap.size w w' := by
  obtain ⟨i0, hi, hiz0, hiz1, hiz2⟩ := info_parts info_val
  obtain ⟨ao, cap, rfl, h1, h2, h3, hA⟩ := ValsSl.parts hv
  have HA := hid hA
  have HZ := hid (fun i (hi : i < l.length) => hl l[i] (List.getElem_mem hi))
  clear hl
  obtain ⟨N, hN⟩ : ∃ N, min l.length 10 = N := ⟨_, rfl⟩
  have HN := hid hN
  have HLn : Hid ((valsCut l).length = N) := by unfold Hid; rw [← hN]; simp [valsCut, Nat.min_comm]
  rw [HLn.out]
  have HT : Hid (∀ k (hk : k < l.length), k < N → ((l.take (k + 1)).map valCut).flatMap ValD.cells = ((l.take k).map valCut).flatMap ValD.cells ++ [.string (cutS 110 l[k].s), .bool l[k].nl]) := fun k hk _ => by
    rw [List.take_succ_eq_append_getElem hk, List.map_append, List.flatMap_append]
    rfl
  obtain ⟨R, hR⟩ : ∃ R, (valsCut l).flatMap ValD.cells = R := ⟨_, rfl⟩
  rw [hR]
  have HE : Hid (((l.take N).map valCut).flatMap ValD.cells = R) := by
    unfold Hid
    rw [← hR]
    unfold valsCut
    congr 2
    rw [← hN]
    by_cases h : l.length ≤ 10
    · rw [List.take_of_length_le (by omega), List.take_of_length_le h]
    · rw [show min l.length 10 = 10 by omega]
  clear hA hv HLn hR
  unfold maxLen at h2
  obtain ⟨L, hL⟩ : ∃ L, l.length = L := ⟨_, rfl⟩
  have HL := hid hL
  have hN10 : N ≤ 10 := by omega
  have hNL : N ≤ L := by omega
  have hcase : N = L ∨ N = 10 := by omega
  have HCS := hid hcase
  rw [hL] at h1 ⊢
  clear hL hN hcase
  go_enter Tryd.func15, Tryd.ntmps15
  go_wp2
  go_loopw [3, 4] (fun o i wr => ∃ k : Nat, k ≤ N ∧ i = .int .i64 k ∧ wr.ownsRow w.heap.size 41 2 o k (((l.take k).map valCut).flatMap ValD.cells) ∧ Below w.heap.size w wr) (fun _ i _ => N - (intOf i).toNat)
  case atStart => exact ⟨0, Nat.zero_le _, rfl, by simpa using World.ownsRow_nil _ _ _ _, Below.refl _ _⟩
  case round =>
    obtain ⟨k, hk, rfl, hown, hbel⟩ := hrel
    by_cases hkN : k < N
    · have hlen : k < l.length := by rw [HL.out]; omega
      obtain ⟨b, off, rfl, hc⟩ := HA.out (by omega)
      obtain ⟨c1, c2⟩ := hc k hlen
      have hblt : b < w.heap.size := World.block_lt_of_cell? _ _ c1
      have d1 := cell_step c1 hbel
      have d2 := cell_step c2 hbel
      have hz := HZ.out k hlen
      have ht := HT.out k hlen hkN
      generalize l[k].s = s at *
      generalize l[k].nl = bl at *
      have HT2 := hid ht; have HB := hid hbel; have HO := hid hown
      clear ht hbel hown hc c1 c2
      have g1 : (0 : Int) ≤ (k : Int) := Int.natCast_nonneg _
      have g2 : (k : Int) < (L : Int) := by omega
      have g3 : k < L := by omega
      have g4 : k < 10 := by omega
      obtain ⟨W0, hW0⟩ : ∃ W0, wr = W0 := ⟨_, rfl⟩
      rw [hW0] at HB HO d1 d2 ⊢
      clear hW0
      have im := ite_min
      have q1 : (0 : Int) ≤ min (s.size : Int) 110 := by omega
      have q2 : min (s.size : Int) 110 ≤ (s.size : Int) := by omega
      have q3 : s.extract 0 (min (s.size : Int) 110).toNat = cutS 110 s := cutS_is 110 s
      go_wp2
      go_region_held3 (fun w' => w'.cell? ⟨b, off + k * 2, none⟩ = some (.string s) ∧ w'.cell? ⟨b, off + k * 2 + 1, none⟩ = some (.bool bl)) (first | exact ⟨e0, e1⟩ | go_keep) ((first
        | (refine step_append_sl _ (by rfl) _ _ _ (by rfl) w.heap.size 41 i0 (.agg #[.string { data := #[] }, .bool false]) 2 24 Tryd.underlying25 hi hiz0 hiz1 hiz2 rfl (by decide) _ k _ (by rfl) ((HO.out.alloc _).drew) (.slice (some ⟨W0.heap.size, 0, none⟩) 1 1) 1 [.string (cutS 110 s), .bool bl] (by rfl) ((SlAt.new W0 #[.string (cutS 110 s), .bool bl] 41).drew) (by simp [Value.oneCell']) (by unfold maxLen; omega) (by omega) (by have := HB.out.size; go_size) ?_; intro v1 w1 hown1 hgrow1 hb1; have e0 : w1.cell? ⟨b, off + k * 2, none⟩ = some (.string s) := own_far ((HO.out.alloc _).drew) hgrow1 hblt (by go_simp); have e1 : w1.cell? ⟨b, off + k * 2 + 1, none⟩ = some (.bool bl) := own_far ((HO.out.alloc _).drew) hgrow1 hblt (by go_simp); have hB1 : Below w.heap.size w w1 := own_below ((HO.out.alloc _).drew) hgrow1 (by have := HB.out; (repeat' (first | (with_reducible exact Below.refl _ _) | (with_reducible assumption) | (with_reducible refine Below.new ?_ _) | (with_reducible refine Below.alloc ?_ ?_ _) | (with_reducible refine Below.drew ?_) | (with_reducible refine Below.drewN ?_ _) | (with_reducible refine Below.setCell ?_ ?_ _) | (refine Below.step ?_ (by assumption)) | go_size))) (Nat.le_refl _))))
      have hown2 : w1.ownsRow w.heap.size 41 2 v1 (k + 1) (((l.take (k + 1)).map valCut).flatMap ValD.cells) := by rw [HT2.out]; exact hown1
      have HO2 := hid hown2; have HB2 := hid hB1
      clear hown1 hown2 hgrow1 hb1 hB1
      go_wp2
      go_roundw
      case rel => exact ⟨k + 1, by omega, by go_num, HO2.out, HB2.out⟩
      case measure => simp [intOf]; omega
    · obtain rfl : k = N := by omega
      rw [HE.out] at hown
      have HO := hid hown; have HB := hid hbel
      clear hown hbel
      rcases HCS.out with h | h
      · subst h
        go_wp2
        go_ret
        exact ⟨u3, rfl, HO.out, HB.out⟩
      · subst h
        by_cases h10 : L = 10
        · subst h10
          go_wp2
          go_ret
          exact ⟨u3, rfl, HO.out, HB.out⟩
        · have h11 : 10 < L := by omega
          clear h10
          go_wp2
          go_ret
          exact ⟨u3, rfl, HO.out, HB.out⟩
end Go.Proofs.YtdgeinipdphoeaaDoor
/- A region that draws its order, of three kinds of operations: some that read what is the same in each world of a class (they are taken first), some that come in one order and keep the class, some that come in one order behind all those that read: one walk. -/
namespace Go
section
variable {P : Program} {ops : Array Oper} {Q : Exit → Act → World → Prop} {md : Region.Mode} {S : World → Prop} {E : Nat → Bool}

/-- Does one wait for another, directly or through others? -/
def needsB (md : Region.Mode) (ops : Array Oper) : Nat → Nat → Nat → Bool
  | 0, _, _ => false
  | f + 1, j, i => match ops[j]? with
    | none => false
    | some oj => oj.after.any fun e => Region.binds md e && (e.on == i || needsB md ops f e.on i)
def ClosedL (md : Region.Mode) (ops : Array Oper) (listed : Array Bool) : Prop := ∀ j oj, ops[j]? = some oj → listed.getD j false = true → ∀ e ∈ oj.after, Region.binds md e = true → listed.getD e.on false = true
theorem ClosedL.set {listed : Array Bool} {i : Nat} (h : ClosedL md ops listed) (hi : i ∈ Region.ready md ops listed) : ClosedL md ops (listed.setIfInBounds i true) := by
  obtain ⟨_, oi, hoi, hall⟩ := mem_ready.1 hi
  intro j oj hj hl e he hb
  by_cases hij : i = j
  · subst hij
    have : oj = oi := Option.some.inj (hj.symm.trans hoi)
    subst this
    exact getD_set_true (hall e he hb)
  · rw [getD_set_ne false hij] at hl
    exact getD_set_true (h j oj hj hl e he hb)
theorem needs_listed {listed : Array Bool} {i : Nat} (hcl : ClosedL md ops listed) : ∀ (f j : Nat), needsB md ops f j i = true → (∀ oj, ops[j]? = some oj → ∀ e ∈ oj.after, Region.binds md e = true → listed.getD e.on false = true) → listed.getD i false = true
  | 0, _, h, _ => by simp [needsB] at h
  | f + 1, j, h, ha => by
    unfold needsB at h
    split at h
    · cases h
    · rename_i oj hoj
      obtain ⟨e, he, hb⟩ := Array.any_eq_true'.1 h
      simp only [Bool.and_eq_true, Bool.or_eq_true, beq_iff_eq] at hb
      have hl := ha oj hoj e he hb.1
      rcases hb.2 with h2 | h2
      · rw [← h2]; exact hl
      · exact needs_listed hcl f e.on h2 (fun ok hk e' he' hb' => hcl e.on ok hk hl e' he' hb')

/-- One of those numbers? -/
def exE (EX : List Nat) (j : Nat) : Bool := EX.contains j
/-- Whatever order is picked; behind each operation that is not of E the class holds. -/
def wpMix (P : Program) (md : Region.Mode) (ops : Array Oper) (Q : Exit → Act → World → Prop) (S : World → Prop) (E : Nat → Bool) : Nat → Array Bool → Act → World → Prop
  | 0, listed, a, w => Region.ready md ops listed = [] ∧ Q .normal a w
  | fuel + 1, listed, a, w =>
    (Region.ready md ops listed = [] → Q .normal a w) ∧
    ∀ i ∈ Region.ready md ops listed, wpOp P ops Q i (fun a' w' => (E i = false → S w') ∧ wpMix P md ops Q S E fuel (listed.setIfInBounds i true) a' w') a w
theorem wpAny_of_some : ∀ (fuel : Nat) (listed : Array Bool) (a : Act) (w : World), wpMix P md ops Q S E fuel listed a w → wpAny P md ops Q fuel listed a w
  | 0, _, _, _, h => h
  | fuel + 1, _, _, _, h => ⟨h.1, fun i hi => wpOp_mono (fun a' w' h' => wpAny_of_some fuel _ a' w' h'.2) (h.2 i hi)⟩
theorem wp_region_some {id : Nat} {l : List Oper} {a : Act} {w : World} (S : World → Prop) (EX : List Nat) (hm : P.follows .mixedOrders = true)
    (h : wpMix P .any l.toArray Q S (exE EX) l.length (Array.replicate l.length false) a w.drew) : (Code.region id l.toArray true).wp P Q a w :=
  wp_region_any hm (wpAny_of_some (S := S) (E := exE EX) _ _ _ _ (by simpa using h))

theorem wpMix_first {i : Nat} {oi : Oper} {v : Value} {T : World → Prop} (hi : ops[i]? = some oi) (hsel : ∀ (j : Nat) (o : Oper) cs b, ops[j]? = some o → o.op ≠ .select cs b)
    (hQ : ∀ c a w, Q (.panic c) (a.put oi.dst v) w → Q (.panic c) a w) (hTS : ∀ w, T w → E i = false → S w) (hST : ∀ w, S w → T w) :
    ∀ (fuel : Nat) (listed : Array Bool) (a : Act) (w : World), ClosedL md ops listed → ((∀ w, T w) ∨ ∀ j, E j = true → listed.getD j false = true ∨ ∃ f, needsB md ops f j i = true) →
      (∀ j oj, ops[j]? = some oj → j ≠ i → listed.getD j true = false → (∀ e ∈ oj.after, Region.binds md e = true → e.on ≠ i) → oi.apart ops oj = true) →
      i ∈ Region.ready md ops listed → YieldsIf P ops T oi v a → T w →
      wpMix P md ops Q S E fuel (listed.setIfInBounds i true) (a.put oi.dst v) w → wpMix P md ops Q S E (fuel + 1) listed a w := by
  intro fuel
  induction fuel with
  | zero =>
    intro listed a w _ _ _ hr hy hS H
    refine ⟨fun h => (by rw [h] at hr; cases hr), fun j hj => ?_⟩
    by_cases hji : j = i
    · subst hji; exact hy.wpOp hi hS ⟨hTS w hS, H⟩
    · have := ready_mono hj hji
      rw [H.1] at this
      cases this
  | succ fuel ih =>
    intro listed a w hcl hET hfree hr hy hS H
    refine ⟨fun h => (by rw [h] at hr; cases hr), fun j hj => ?_⟩
    by_cases hji : j = i
    · subst hji; exact hy.wpOp hi hS ⟨hTS w hS, H⟩
    · have h1 := H.2 j (ready_mono hj hji)
      obtain ⟨hjun, oj, hoj, hall⟩ := mem_ready.1 hj
      have hun : listed.getD i false = false := getD_both (mem_ready.1 hr).1
      have hnot : ∀ e ∈ oj.after, Region.binds md e = true → e.on ≠ i := fun e he hb heq => by
        have h1 := hall e he hb
        rw [heq, hun] at h1
        cases h1
      have h2 := wpOp_putIf hoj (hfree j oj hoj hji hjun hnot) (fun cs b => hsel i oi cs b hi) (fun cs b => hsel j oj cs b hoj) hQ hy h1
      have hfree' : ∀ k ok, ops[k]? = some ok → k ≠ i → (listed.setIfInBounds j true).getD k true = false →
          (∀ e ∈ ok.after, Region.binds md e = true → e.on ≠ i) → oi.apart ops ok = true := fun k ok hk hki hun hno => by
        refine hfree k ok hk hki ?_ hno
        by_cases hjk : j = k
        · subst hjk; exact hjun
        · rw [getD_set_ne true hjk] at hun; exact hun
      have hTw : ∀ w', (E j = false → S w') → T w' := fun w' hw' => by
        rcases hET with h | h
        · exact h w'
        · cases hEj : E j with
          | false => exact hST w' (hw' hEj)
          | true =>
            rcases h j hEj with h | ⟨f, h⟩
            · rw [getD_both hjun] at h; cases h
            · have h3 := needs_listed hcl f j h (fun ok hk e he hb => by
                have : ok = oj := Option.some.inj (hk.symm.trans hoj)
                subst this
                exact hall e he hb)
              rw [hun] at h3
              cases h3
      refine wpOp_mono (fun a' w' h3 => ⟨h3.2.1, ih (listed.setIfInBounds j true) a' w' (hcl.set hj) (hET.imp_right fun h k hk => (h k hk).imp_left getD_set_true) hfree' (ready_mono hr (Ne.symm hji)) h3.1 (hTw w' h3.2.1) ?_⟩) h2
      rw [Array.setIfInBounds_comm _ _ hji]
      exact h3.2.2

def closedB (md : Region.Mode) (ops : Array Oper) (listed : Array Bool) : Bool :=
  (List.range ops.size).all fun j => !listed.getD j false || match ops[j]? with
    | some oj => oj.after.all fun e => !Region.binds md e || listed.getD e.on false
    | none => true
theorem closedB_spec {listed : Array Bool} (h : closedB md ops listed = true) : ClosedL md ops listed := by
  intro j oj hj hl e he hb
  unfold closedB at h
  rw [List.all_eq_true] at h
  have h1 := h j (List.mem_range.2 (Array.getElem?_eq_some_iff.1 hj).1)
  simp only [hj, hl, Bool.not_true, Bool.false_or] at h1
  have := Array.all_eq_true_iff_forall_mem.1 h1 e he
  simpa [hb] using this
/-- One that reads what is the same in each world of the class; those of EX wait for it. -/
theorem wpMix_take {EX : List Nat} {i : Nat} {oi : Oper} {v : Value} {fuel : Nat} {listed : Array Bool} {a : Act} {w : World} (hi : ops[i]? = some oi)
    (hB : (Region.noSelect ops && (closedB md ops listed && (Region.free md ops listed i && ((Region.ready md ops listed).contains i && EX.all fun j => listed.getD j false || needsB md ops ops.size j i)))) = true)
    (hQ : ∀ c a w, Q (.panic c) (a.put oi.dst v) w → Q (.panic c) a w) (hy : YieldsIf P ops S oi v a) (hS : S w)
    (h : wpMix P md ops Q S (exE EX) fuel (listed.setIfInBounds i true) (a.put oi.dst v) w) : wpMix P md ops Q S (exE EX) (fuel + 1) listed a w := by
  simp only [Bool.and_eq_true] at hB
  obtain ⟨hs, hc, hf, hr, hE⟩ := hB
  refine wpMix_first (T := S) hi (Region.noSelect_spec hs) hQ (fun _ h _ => h) (fun _ h => h) fuel listed a w (closedB_spec hc) (.inr fun j hj => ?_) (Region.free_spec hi hf) (by simpa using hr) hy hS h
  have := List.all_eq_true.1 hE j (by simpa [exE] using hj)
  rw [Bool.or_eq_true] at this
  exact this.imp_right fun h => ⟨_, h⟩
/-- One that looks at no world; it is of EX. -/
theorem wpMix_free {EX : List Nat} {i : Nat} {oi : Oper} {v : Value} {fuel : Nat} {listed : Array Bool} {a : Act} {w : World} (hi : ops[i]? = some oi)
    (hB : (Region.noSelect ops && (closedB md ops listed && (Region.free md ops listed i && ((Region.ready md ops listed).contains i && EX.contains i)))) = true)
    (hQ : ∀ c a w, Q (.panic c) (a.put oi.dst v) w → Q (.panic c) a w) (hy : YieldsIf P ops (fun _ => True) oi v a)
    (h : wpMix P md ops Q S (exE EX) fuel (listed.setIfInBounds i true) (a.put oi.dst v) w) : wpMix P md ops Q S (exE EX) (fuel + 1) listed a w := by
  simp only [Bool.and_eq_true] at hB
  obtain ⟨hs, hc, hf, hr, hE⟩ := hB
  exact wpMix_first (T := fun _ => True) hi (Region.noSelect_spec hs) hQ (fun _ _ h => by unfold exE at h; rw [hE] at h; cases h) (fun _ _ => trivial) fuel listed a w (closedB_spec hc) (.inl fun _ => trivial) (Region.free_spec hi hf) (by simpa using hr) hy trivial h
/-- The operations at some places. -/
def opsAt (l : List Oper) (T : List Nat) : List Oper := T.flatMap fun t => (l.drop t).take 1
/-- The next one is the only one that may come up, and keeps the class. -/
def NextS (P : Program) (md : Region.Mode) (ops : Array Oper) (Q : Exit → Act → World → Prop) (S : World → Prop) (E : Nat → Bool) (fuel : Nat) (listed : Array Bool) : Exit → Act → World → Prop
  | .normal, a, w => S w ∧ wpMix P md ops Q S E fuel listed a w
  | e, a, w => Q e a w
theorem opsAt_one {l : List Oper} {t : Nat} {o : Oper} (h : l.toArray[t]? = some o) : opsAt l [t] = [o] := by
  have h2 : l[t]? = some o := by simpa using h
  obtain ⟨hlt, he⟩ := List.getElem?_eq_some_iff.1 h2
  unfold opsAt
  rw [List.flatMap_cons, List.flatMap_nil, List.append_nil, List.drop_eq_getElem_cons hlt, List.take_succ_cons, List.take_zero, he]
theorem wpOp_of_list {l : List Oper} {t : Nat} {a : Act} {w : World} {Q' : Exit → Act → World → Prop} (ht : t < l.length) (hp : ∀ e a w, e ≠ .normal → Q' e a w → Q e a w) (hlo : LetsOut Q' → LetsOut Q)
    (h : wpList P l.toArray Q' (opsAt l [t]) a w) : wpOp P l.toArray Q t (Q' .normal) a w := by
  have h0 : l.toArray[t]? = some l[t] := by simp [ht]
  rw [opsAt_one h0] at h
  unfold wpOp
  simp only [h0]
  have h' : (if Region.wanted l[t] (yielded l.toArray a.tmps) then l[t].wp P a w (wpList P l.toArray Q' []) Q' ∨ (l[t].asks P a w ∧ LetsOut Q') else wpList P l.toArray Q' [] (a.put l[t].dst undef) w) := h
  split
  · rename_i hw
    rw [if_pos hw] at h'
    rcases h' with h' | ⟨h1, h2⟩
    · refine .inl ?_
      unfold Oper.wp at *
      generalize (execOp a.eval l[t]).run P w = r at *
      cases r with
      | ok n w' =>
        cases n <;> simp only [Oper.upon] at h' ⊢
        case value u => exact h'
        case skip => exact h'
        case defer d => exact h'
        case enter f args =>
          refine Calls.mono h' fun e w'' he => ?_
          cases e with
          | returned u => exact he
          | panicked c => exact hp _ _ _ (by simp) he
          | outgrown => exact hlo he
        case row row args => exact Rows.mono h' fun u w'' he => he
      | halt x w' =>
        cases x <;> simp only [Oper.upon] at h' ⊢
        case panic u => exact hp _ _ _ (by simp) h'
    · exact .inr ⟨h1, hlo h2⟩
  · rename_i hw
    rw [if_neg hw] at h'
    exact h'
theorem wpMix_next {EX : List Nat} {l : List Oper} {t fuel : Nat} {listed : Array Bool} {a : Act} {w : World} (hB : (decide (t < l.length) && (Region.ready md l.toArray listed == [t])) = true)
    (h : wpList P l.toArray (NextS P md l.toArray Q S (exE EX) fuel (listed.setIfInBounds t true)) (opsAt l [t]) a w) : wpMix P md l.toArray Q S (exE EX) (fuel + 1) listed a w := by
  simp only [Bool.and_eq_true, decide_eq_true_eq, beq_iff_eq] at hB
  obtain ⟨ht, hr⟩ := hB
  refine ⟨fun h0 => (by rw [hr] at h0; cases h0), fun i hi => ?_⟩
  rw [hr] at hi
  obtain rfl : i = t := by simpa using hi
  refine wpOp_mono (fun a' w' h' => ⟨fun _ => h'.1, h'.2⟩) (wpOp_of_list (Q := Q) (Q' := NextS P md l.toArray Q S (exE EX) fuel (listed.setIfInBounds i true)) ht (fun e a w hne h => ?_) (fun ⟨a, w, h⟩ => ⟨a, w, h⟩) h)
  cases e <;> first | exact absurd rfl hne | exact h
/-- One of some comes next. -/
theorem wpMix_pick {EX : List Nat} {l : List Oper} {fuel : Nat} {listed : Array Bool} {a : Act} {w : World} (T : List Nat) (hB : ((T.all fun t => decide (t < l.length)) && (Region.ready md l.toArray listed == T)) = true)
    (h : ∀ t ∈ T, wpList P l.toArray (NextS P md l.toArray Q S (exE EX) fuel (listed.setIfInBounds t true)) (opsAt l [t]) a w) (hT : T ≠ []) : wpMix P md l.toArray Q S (exE EX) (fuel + 1) listed a w := by
  simp only [Bool.and_eq_true, List.all_eq_true, decide_eq_true_eq, beq_iff_eq] at hB
  obtain ⟨ht, hr⟩ := hB
  refine ⟨fun h0 => absurd (hr.symm.trans h0) hT, fun i hi => ?_⟩
  rw [hr] at hi
  refine wpOp_mono (fun a' w' h' => ⟨fun _ => h'.1, h'.2⟩) (wpOp_of_list (Q := Q) (Q' := NextS P md l.toArray Q S (exE EX) fuel (listed.setIfInBounds i true)) (ht i hi) (fun e a w hne h => ?_) (fun ⟨a, w, h⟩ => ⟨a, w, h⟩) (h i hi))
  cases e <;> first | exact absurd rfl hne | exact h
theorem pick_two {P : Nat → Prop} {a b : Nat} (h1 : P a) (h2 : P b) : ∀ t ∈ [a, b], P t := by
  intro t ht
  simp only [List.mem_cons, List.not_mem_nil, or_false] at ht
  rcases ht with rfl | rfl
  · exact h1
  · exact h2
theorem pick_three {P : Nat → Prop} {a b c : Nat} (h1 : P a) (h2 : P b) (h3 : P c) : ∀ t ∈ [a, b, c], P t := by
  intro t ht
  simp only [List.mem_cons, List.not_mem_nil, or_false] at ht
  rcases ht with rfl | rfl | rfl
  · exact h1
  · exact h2
  · exact h3
/-- The rest comes in one order. -/
def restB (md : Region.Mode) (l : List Oper) : List Nat → Array Bool → Bool
  | [], listed => Region.ready md l.toArray listed == []
  | t :: T, listed => decide (t < l.length) && (Region.ready md l.toArray listed == [t]) && restB md l T (listed.setIfInBounds t true)
theorem wpAny_rest {l : List Oper} : ∀ (T : List Nat) (listed : Array Bool) (a : Act) (w : World), restB md l T listed = true → wpList P l.toArray Q (opsAt l T) a w → wpAny P md l.toArray Q T.length listed a w
  | [], listed, a, w, hB, h => ⟨by simpa [restB] using hB, h⟩
  | t :: T, listed, a, w, hB, h => by
    simp only [restB, Bool.and_eq_true, decide_eq_true_eq, beq_iff_eq] at hB
    obtain ⟨⟨ht, hr⟩, hB⟩ := hB
    refine ⟨fun h0 => (by rw [hr] at h0; cases h0), fun i hi => ?_⟩
    rw [hr] at hi
    obtain rfl : i = t := by simpa using hi
    have h0 : l.toArray[i]? = some l[i] := by simp [ht]
    have e : opsAt l (i :: T) = l[i] :: opsAt l T := by
      have := opsAt_one h0
      unfold opsAt at this ⊢
      simp only [List.flatMap_cons, List.flatMap_nil, List.append_nil] at this ⊢
      rw [this]; rfl
    rw [e] at h
    have h' : (if Region.wanted l[i] (yielded l.toArray a.tmps) then l[i].wp P a w (wpList P l.toArray Q (opsAt l T)) Q ∨ (l[i].asks P a w ∧ LetsOut Q) else wpList P l.toArray Q (opsAt l T) (a.put l[i].dst undef) w) := h
    have h2 : wpOp P l.toArray Q i (wpList P l.toArray Q (opsAt l T)) a w := by
      unfold wpOp
      simp only [h0]
      exact h'
    exact wpOp_mono (fun a' w' h3 => wpAny_rest T _ a' w' hB h3) h2
theorem wpMix_of_any {EX : List Nat} : ∀ (fuel : Nat) (listed : Array Bool) (a : Act) (w : World), (∀ j, ops[j]? ≠ none → listed.getD j true = false → EX.contains j = true) → wpAny P md ops Q fuel listed a w → wpMix P md ops Q S (exE EX) fuel listed a w
  | 0, _, _, _, _, h => h
  | fuel + 1, listed, a, w, hE, h => ⟨h.1, fun i hi => by
    have hri := mem_ready.1 hi
    refine wpOp_mono (fun a' w' h' => ⟨fun he => ?_, wpMix_of_any fuel _ a' w' (fun j hj hl => hE j hj ?_) h'⟩) (h.2 i hi)
    · obtain ⟨hl, oi, hoi, _⟩ := hri
      have := hE i (by rw [hoi]; simp) hl
      unfold exE at he
      rw [this] at he
      cases he
    · by_cases hij : i = j
      · subst hij
        exact hri.1
      · rwa [getD_set_ne true hij] at hl⟩
theorem wpMix_rest {EX : List Nat} {l : List Oper} {fuel : Nat} {listed : Array Bool} {a : Act} {w : World} (T : List Nat) (hB : (restB md l T listed && ((T.length == fuel) && (List.range l.length).all fun j => listed.getD j true || EX.contains j)) = true)
    (h : wpList P l.toArray Q (opsAt l T) a w) : wpMix P md l.toArray Q S (exE EX) fuel listed a w := by
  simp only [Bool.and_eq_true, beq_iff_eq] at hB
  obtain ⟨h1, h2, h3⟩ := hB
  subst h2
  refine wpMix_of_any _ _ _ _ (fun j hj hl => ?_) (wpAny_rest T listed a w h1 h)
  have hlt : j < l.length := by
    rcases Nat.lt_or_ge j l.length with h | h
    · exact h
    · exact absurd (by simp [h]) hj
  have := List.all_eq_true.1 h3 j (List.mem_range.2 hlt)
  rw [hl, Bool.false_or] at this
  exact this
end
end Go
/- What the laws cut: a row; some texts. -/
namespace Go.Proofs.YtdgeinipdphoeaaDoor
set_option linter.unusedVariables false
set_option linter.unusedSimpArgs false
set_option maxRecDepth 100000
open Go.ChangeShapes Go.WideShapes Go.ChangeAt Go.RowKit

theorem cell_new {w : World} {a : Addr} {v : Value} (h : w.cell? a = some v) (o : Obj) : (w.alloc o).cell? a = some v := (World.cell?_alloc_lt w o a (World.block_lt_of_cell? _ _ h)).trans h
theorem row_far {w : World} {base b o : Nat} {e : TypeId} {size : Nat} {v : Value} {n : Nat} {xs : List Value} (h : w.ownsRow base e size v n xs) (hb : b < base) {u : Value} : (w.setCell ⟨b, o, none⟩ u).ownsRow base e size v n xs := by
  refine ⟨h.1, ?_⟩
  rcases h.2 with h2 | ⟨g, cap, cur, hv, hg, hh, r⟩
  · exact .inl h2
  · exact .inr ⟨g, cap, cur, hv, hg, (heap_set_other (by omega)).trans hh, r⟩
theorem row_below {w w' : World} {base : Nat} {e : TypeId} {size : Nat} {v : Value} {n : Nat} {xs : List Value} (h : w.ownsRow base e size v n xs) (hb : Below w.heap.size w w') : w'.ownsRow base e size v n xs :=
  h.kept (row := none) ⟨hb.os, hb.tape, hb.output, hb.size, fun i hi _ => hb.block i hi⟩ (by cases v.ownBlock <;> simp)
theorem set3 {w : World} {b : Nat} {x y z x' y' z' : Value} {T : TypeId} (h : w.heap[b]? = some (.cells #[x, y, z] T (0, 0))) : (((w.setCell ⟨b, 0, none⟩ x').setCell ⟨b, 1, none⟩ y').setCell ⟨b, 2, none⟩ z').heap[b]? = some (.cells #[x', y', z'] T (0, 0)) := by
  have := blk_set (o := 2) (v := z') (blk_set (o := 1) (v := y') (blk_set (o := 0) (v := x') h))
  simpa using this
theorem set3_other {w : World} {b c : Nat} {x' y' z' : Value} {o : Obj} (h : w.heap[c]? = some o) (hne : c ≠ b) : (((w.setCell ⟨b, 0, none⟩ x').setCell ⟨b, 1, none⟩ y').setCell ⟨b, 2, none⟩ z').heap[c]? = some o :=
  (heap_set_other hne).trans ((heap_set_other hne).trans ((heap_set_other hne).trans h))
theorem row_far3 {w : World} {base b : Nat} {e : TypeId} {size : Nat} {v : Value} {n : Nat} {xs : List Value} (h : w.ownsRow base e size v n xs) (hb : b < base) {x' y' z' : Value} : (((w.setCell ⟨b, 0, none⟩ x').setCell ⟨b, 1, none⟩ y').setCell ⟨b, 2, none⟩ z').ownsRow base e size v n xs :=
  row_far (row_far (row_far h hb) hb) hb
theorem below3 {w0 w : World} {b : Nat} (h : Below w0.heap.size w0 w) (hb : w0.heap.size ≤ b) {x' y' z' : Value} : Below w0.heap.size w0 (((w.setCell ⟨b, 0, none⟩ x').setCell ⟨b, 1, none⟩ y').setCell ⟨b, 2, none⟩ z') :=
  Below.setCell (Below.setCell (Below.setCell h hb _) hb _) hb _
theorem three_at {w : World} {b : Nat} {x y z : Value} {t : TypeId} (h : w.heap[b]? = some (.cells #[x, y, z] t (0, 0))) : w.cell? ⟨b, 0, none⟩ = some x ∧ w.cell? ⟨b, 1, none⟩ = some y ∧ w.cell? ⟨b, 2, none⟩ = some z ∧ w.frozen? ⟨b, 0, none⟩ = false ∧ w.frozen? ⟨b, 1, none⟩ = false ∧ w.frozen? ⟨b, 2, none⟩ = false := by
  unfold World.cell? World.frozen?
  rw [h]
  simp
theorem blk_below {w w' : World} {b : Nat} {o : Obj} (h : w.heap[b]? = some o) (hb : Below w.heap.size w w') : w'.heap[b]? = some o := (hb.block b (blk_lt h)).trans h
set_option maxHeartbeats 2000000 in
theorem fewRow_some (vd : Value) (an : Option Addr) (n cn : Nat) (t : Int) (l : List ValD) (w : World) (hv : ValsSl w vd l) (hl : ∀ v ∈ l, v.s.size ≤ 9223372036854775807) (h1 : n ≤ cn) (h2 : cn ≤ maxLen) (h3 : an = none → cn = 0) :
    Calls Tryd.prog 7 #[.agg #[.int .i64 t, vd, .slice an n cn]] w fun e w' => ∃ v', e = .returned (.agg #[.int .i64 t, v', .slice an (min n 10) cn]) ∧ w'.ownsRow (w.heap.size + 1 + 1) 41 2 v' (valsCut l).length ((valsCut l).flatMap ValD.cells) ∧ Below w.heap.size w w' := by
  obtain ⟨ad, cd, rfl, hcd, hcd2, _⟩ := SlAt.shape hv
  have HV := hid (fun W (h : Below w.heap.size w W) => vals_any _ l W (hv.below h) hl)
  clear hv
  unfold maxLen at h2
  obtain ⟨M, hM⟩ : ∃ M, min n 10 = M := ⟨_, rfl⟩
  have hM2 : (min (n : Int) 10).toNat = M := by omega
  have hML : M ≤ n := by omega
  rw [hM]
  have HM := hid hM
  clear hM
  generalize (valsCut l).length = N at *
  generalize (valsCut l).flatMap ValD.cells = R at *
  generalize l.length = L at *
  have im := ite_min
  have q1 : (0 : Int) ≤ min (n : Int) 10 := by omega
  have q2 : min (n : Int) 10 ≤ (cn : Int) := by omega
  have q3 : min (n : Int) 10 ≤ (n : Int) := by omega
  go_enter Tryd.func7, Tryd.ntmps7
  go_wp2
  have hS0 : (fun w' : World => w'.cell? ⟨w.heap.size, 0, none⟩ = some (.int .i64 t) ∧ w'.cell? ⟨w.heap.size, 1, none⟩ = some (.slice ad L cd) ∧ w'.cell? ⟨w.heap.size, 2, none⟩ = some (.slice an n cn)) ((w.alloc (.cells #[.int .i64 t, .slice ad L cd, .slice an n cn] 28)).alloc (.cells #[.int .i64 0, .slice none 0 0, .slice none 0 0] 28)).drew := ⟨by go_simp, by go_simp, by go_simp⟩
  refine wp_region_some (fun w' : World => w'.cell? ⟨w.heap.size, 0, none⟩ = some (.int .i64 t) ∧ w'.cell? ⟨w.heap.size, 1, none⟩ = some (.slice ad L cd) ∧ w'.cell? ⟨w.heap.size, 2, none⟩ = some (.slice an n cn)) [12, 13] (by kernel_rfl) ?_
  (refine wpMix_take (i := 0) (v := ?_) rfl (by kernel_rfl) (fun _ _ _ h => h) (Or.inl ⟨by rfl, ?_⟩) hS0 ?_; rotate_left 1; (focus (intro w hSw; (try dsimp only at hSw); go_simp; try (with_reducible rfl))); (try simp only [Act.put, List.setIfInBounds_toArray, List.set_cons_zero, List.set_cons_succ]))
  (refine wpMix_take (i := 1) (v := ?_) rfl (by kernel_rfl) (fun _ _ _ h => h) (Or.inl ⟨by rfl, ?_⟩) hS0 ?_; rotate_left 1; (focus (intro w hSw; (try dsimp only at hSw); go_simp; try (with_reducible rfl))); (try simp only [Act.put, List.setIfInBounds_toArray, List.set_cons_zero, List.set_cons_succ]))
  (refine wpMix_take (i := 2) (v := ?_) rfl (by kernel_rfl) (fun _ _ _ h => h) (Or.inl ⟨by rfl, ?_⟩) hS0 ?_; rotate_left 1; (focus (intro w hSw; (try dsimp only at hSw); go_simp; try (with_reducible rfl))); (try simp only [Act.put, List.setIfInBounds_toArray, List.set_cons_zero, List.set_cons_succ]))
  (refine wpMix_take (i := 3) (v := ?_) rfl (by kernel_rfl) (fun _ _ _ h => h) (Or.inl ⟨by rfl, ?_⟩) hS0 ?_; rotate_left 1; (focus (intro w hSw; (try dsimp only at hSw); go_simp; try (with_reducible rfl))); (try simp only [Act.put, List.setIfInBounds_toArray, List.set_cons_zero, List.set_cons_succ]))
  (refine wpMix_take (i := 5) (v := ?_) rfl (by kernel_rfl) (fun _ _ _ h => h) (Or.inl ⟨by rfl, ?_⟩) hS0 ?_; rotate_left 1; (focus (intro w hSw; (try dsimp only at hSw); go_simp; try (with_reducible rfl))); (try simp only [Act.put, List.setIfInBounds_toArray, List.set_cons_zero, List.set_cons_succ]))
  (refine wpMix_take (i := 6) (v := ?_) rfl (by kernel_rfl) (fun _ _ _ h => h) (Or.inl ⟨by rfl, ?_⟩) hS0 ?_; rotate_left 1; (focus (intro w hSw; (try dsimp only at hSw); go_simp; try (with_reducible rfl))); (try simp only [Act.put, List.setIfInBounds_toArray, List.set_cons_zero, List.set_cons_succ]))
  (refine wpMix_take (i := 7) (v := ?_) rfl (by kernel_rfl) (fun _ _ _ h => h) (Or.inl ⟨by rfl, ?_⟩) hS0 ?_; rotate_left 1; (focus (intro w hSw; (try dsimp only at hSw); go_simp; try (with_reducible rfl))); (try simp only [Act.put, List.setIfInBounds_toArray, List.set_cons_zero, List.set_cons_succ]))
  (refine wpMix_take (i := 8) (v := ?_) rfl (by kernel_rfl) (fun _ _ _ h => h) (Or.inl ⟨by rfl, ?_⟩) hS0 ?_; rotate_left 1; (focus (intro w hSw; (try dsimp only at hSw); go_simp; try (with_reducible rfl))); (try simp only [Act.put, List.setIfInBounds_toArray, List.set_cons_zero, List.set_cons_succ]))
  (refine wpMix_take (i := 9) (v := ?_) rfl (by kernel_rfl) (fun _ _ _ h => h) (Or.inl ⟨by rfl, ?_⟩) hS0 ?_; rotate_left 1; (focus (intro w hSw; (try dsimp only at hSw); go_simp; try (with_reducible rfl))); (try simp only [Act.put, List.setIfInBounds_toArray, List.set_cons_zero, List.set_cons_succ]))
  (refine wpMix_take (i := 10) (v := ?_) rfl (by kernel_rfl) (fun _ _ _ h => h) (Or.inl ⟨by rfl, ?_⟩) hS0 ?_; rotate_left 1; (focus (intro w hSw; (try dsimp only at hSw); go_simp; try (with_reducible rfl))); (try simp only [Act.put, List.setIfInBounds_toArray, List.set_cons_zero, List.set_cons_succ]))
  (refine wpMix_take (i := 11) (v := ?_) rfl (by kernel_rfl) (fun _ _ _ h => h) (Or.inl ⟨by rfl, ?_⟩) hS0 ?_; rotate_left 1; (focus (intro w hSw; (try dsimp only at hSw); go_simp; try (with_reducible rfl))); (try simp only [Act.put, List.setIfInBounds_toArray, List.set_cons_zero, List.set_cons_succ]))
  refine wpMix_next (t := 4) (by kernel_rfl) ?_
  simp only [opsAt, List.flatMap_cons, List.flatMap_nil, List.take_succ_cons, List.take_zero, List.drop_succ_cons, List.drop_zero, List.append_nil, List.cons_append, List.nil_append]
  go_wp2_with (go_at_call 15; go_loud ((with_reducible refine (HV.out _ (by (repeat' (first | (with_reducible exact Below.refl _ _) | (with_reducible assumption) | (with_reducible refine Below.new ?_ _) | (with_reducible refine Below.alloc ?_ ?_ _) | (with_reducible refine Below.drew ?_) | (with_reducible refine Below.drewN ?_ _) | (with_reducible refine Below.setCell ?_ ?_ _) | (refine Below.step ?_ (by assumption)) | go_size)))).mono ?_); rintro e w1 ⟨v', rfl, hown, hb1⟩; obtain ⟨hc1, hf1, hk1, hz1⟩ := bcell3 hb1; (try simp only [World.size_alloc, World.size_drew] at hz1); have : w.heap.size < w1.heap.size := (by omega); have : w.heap.size + 1 < w1.heap.size := (by omega); have s0 := cell_step hS0.1 hb1; have s1 := cell_step hS0.2.1 hb1; have s2 := cell_step hS0.2.2 hb1))
  refine ⟨⟨s0, s1, s2⟩, ?_⟩
  refine wpMix_rest [12, 13] (by kernel_rfl) ?_
  simp only [opsAt, List.flatMap_cons, List.flatMap_nil, List.take_succ_cons, List.take_zero, List.drop_succ_cons, List.drop_zero, List.append_nil, List.cons_append, List.nil_append]
  obtain ⟨a1, c1, rfl⟩ : ∃ ao cap, v' = .slice ao N cap := by
    obtain ⟨ao, cap, h, _⟩ := SlAt.shape (SlAt.own hown)
    exact ⟨ao, cap, h⟩
  go_wp2
  ((show bodyPost _ _ _ _ _ _); refine bodyPost_ret (by simp only [results, Tryd.results7]; go_simp; try rfl) rfl ?_)
  refine ⟨_, rfl, ?_, by (repeat' (first | (with_reducible exact Below.refl _ _) | (with_reducible assumption) | (with_reducible refine Below.new ?_ _) | (with_reducible refine Below.alloc ?_ ?_ _) | (with_reducible refine Below.drew ?_) | (with_reducible refine Below.drewN ?_ _) | (with_reducible refine Below.setCell ?_ ?_ _) | (refine Below.step ?_ (by assumption)) | go_size))⟩
  repeat (refine row_far ?_ (by omega))
  exact hown.base_le (by simp)
/-- The first of some numbers. -/
theorem IntsSl.take {w : World} {an : Option Addr} {cn : Nat} {xs : List Int} (h : IntsSl w (.slice an xs.length cn) xs) (k : Nat) : IntsSl w (.slice an (min xs.length k) cn) (xs.take k) := by
  have h2 := SlAt.take h (k := min xs.length k) (Nat.min_le_left _ _)
  have e : (xs.take k).length = min xs.length k := by rw [List.length_take, Nat.min_comm]
  unfold IntsSl
  rw [e, List.map_take]
  rw [Nat.mul_one] at h2
  by_cases hk : k ≤ xs.length
  · rw [Nat.min_eq_right hk] at h2 ⊢
    exact h2
  · rw [Nat.min_eq_left (by omega)] at h2 ⊢
    rw [List.take_of_length_le (by simp)] at h2
    rw [List.take_of_length_le (by simp; omega)]
    exact h2
theorem fewRow_any (vd vn : Value) (t : Int) (l : List ValD) (xs : List Int) (w : World) (hv : ValsSl w vd l) (hl : ∀ v ∈ l, v.s.size ≤ 9223372036854775807) (hn : IntsSl w vn xs) :
    Calls Tryd.prog 7 #[.agg #[.int .i64 t, vd, vn]] w fun e w' => ∃ v1 v2, e = .returned (.agg #[.int .i64 t, v1, v2]) ∧ w'.ownsRow (w.heap.size + 1 + 1) 41 2 v1 (valsCut l).length ((valsCut l).flatMap ValD.cells) ∧ (∀ w0, IntsSl w0 vn xs → IntsSl w0 v2 (xs.take 10)) ∧ Below w.heap.size w w' := by
  obtain ⟨an, cn, rfl, h1, h2, h3⟩ := SlAt.shape hn
  exact (fewRow_some vd an xs.length cn t l w hv hl h1 h2 h3).mono fun e w' ⟨v', h1, h2, h3⟩ => ⟨v', _, h1, h2, fun w0 h0 => IntsSl.take h0 10, h3⟩

theorem txt5_snoc {ss : List ByteArray} {k : Nat} (hk : k < ss.length) : strsV ((ss.take (k + 1)).map (cutS 110)) = strsV ((ss.take k).map (cutS 110)) ++ [.string (cutS 110 ss[k])] := by
  rw [List.take_succ_eq_append_getElem hk, List.map_append]
  unfold strsV
  rw [List.map_append]
  rfl
end Go.Proofs.YtdgeinipdphoeaaDoor
/- strings.Builder, as this program has it: WriteString. -/
namespace Go.Proofs.YtdgeinipdphoeaaDoor
set_option linter.unusedVariables false
set_option linter.unusedSimpArgs false
open Go.ChangeShapes Go.WideShapes Go.ChangeAt Go.RowKit

set_option maxHeartbeats 1000000 in
set_option maxRecDepth 100000 in
theorem writeString_any (B b : Nat) (bs : List Value) (s : ByteArray) (w : World) (h : Bld B b bs w) (hlen : bs.length + s.size ≤ 140737488355328) (hBw : B ≤ w.heap.size) :
    Calls Tryd.prog 16 #[.pointer (some ⟨b, 0, none⟩), .string s] w fun e w' => e = .returned (.tuple #[.int .i64 (s.size : Int), .nilIface]) ∧ BldAt B b (.pointer (some ⟨b, 0, none⟩)) (bs ++ Lib.strCells s) w' ∧ Below B w w' ∧ Others b w w' := by
  obtain ⟨i0, hi, hz0, hz1, hz2⟩ := info_parts info_u8
  go_enter Tryd.func16, Tryd.ntmps16
  go_wp2_with (go_at_call 36; refine (copyCheck_any B b bs _ h).mono ?_)
  rintro e w1 ⟨rfl, h1, hb1, hk1⟩
  obtain ⟨hB, v, hbk, hown, hne⟩ := h1
  have c0 : w1.cell? ⟨b, 0, none⟩ = some (.pointer (some ⟨b, 0, none⟩)) := by rw [Lib.cell_of_heap hbk]; rfl
  have c1 : w1.cell? ⟨b, 1, none⟩ = some v := by rw [Lib.cell_of_heap hbk]; rfl
  have hz := hb1.size
  have hlt : b < w1.heap.size := lt_of_block hbk
  go_wp2_with (at_builtin; go_loud (refine Lib.wpList_append_own_string _ rfl _ _ 45 9 rfl B 5 i0 Tryd.underlying45 Tryd.underlying9 hi hz0 hz1 hz2 _ _ _ rfl hown s rfl (by unfold maxLen; omega) (by omega) (by omega) ?_))
  intro v' w2 hown' hgrow hnil
  have hb2 : w2.heap[b]? = some (.cells #[.pointer (some ⟨b, 0, none⟩), v] 47 (0, 0)) := by
    rw [hgrow.block b (by omega) (fun e => hne e.symm)]
    exact hbk
  have d0 : w2.cell? ⟨b, 0, none⟩ = some (.pointer (some ⟨b, 0, none⟩)) := by rw [Lib.cell_of_heap hb2]; rfl
  have d1 : w2.cell? ⟨b, 1, none⟩ = some v := by rw [Lib.cell_of_heap hb2]; rfl
  have f1 : w2.frozen? ⟨b, 1, none⟩ = false := Lib.frozen_of_heap hb2 1
  have hk2 : Others b w w2 := hk1.grown hgrow (row_is hown)
  have hbB : Below B w w2 := hb1.grown hgrow (by omega) (fun r e => (hown.lt r e).1)
  have hbl : (bs ++ Lib.strCells s).length = bs.length + s.size := by rw [List.length_append, Lib.strCells_length]
  have hown2 : w2.ownsRow B 5 1 v' (bs ++ Lib.strCells s).length (bs ++ Lib.strCells s) := by rw [hbl]; exact hown'
  obtain ⟨ao, cap, rfl⟩ := hown'.shape
  clear hown hown' hbk hbl h hgrow hnil
  go_wp2
  go_ret2
  exact ⟨rfl, Lib.BuilderAt.put hB hb2 hown2 (by decide), hbB.setCell hB _, hk2.setCell _ rfl _⟩
theorem bld_below {B b : Nat} {p : Value} {bs : List Value} {w w' : World} (h : BldAt B b p bs w) (hb : Below w.heap.size w w') : BldAt B b p bs w' := by
  obtain ⟨h1, v, hbk, hown, hne⟩ := h
  exact ⟨h1, v, (hb.block b (lt_of_block hbk)).trans hbk, hown.kept (row := none) ⟨hb.os, hb.tape, hb.output, hb.size, fun i hi _ => hb.block i hi⟩ (by cases v.ownBlock <;> simp), hne⟩
theorem Bld.below {B b : Nat} {bs : List Value} {w w' : World} (h : Bld B b bs w) (hb : Below w.heap.size w w') : Bld B b bs w' := by
  rcases h with h | h
  · exact .inl (bld_below h hb)
  · exact .inr (bld_below h hb)
/-- A new one. -/
theorem Bld.new (w : World) : Bld w.heap.size w.heap.size [] (w.alloc (.cells #[.pointer none, .slice none 0 0] 47)) :=
  .inl ⟨Nat.le_refl _, _, heap_at rfl, World.ownsRow_nil _ _ _ _, by simp [Value.ownBlock]⟩
/-- Cells below what the builder may have. -/
theorem cell_low {B b o : Nat} {v : Value} {w w' : World} (h : w.cell? ⟨b, o, none⟩ = some v) (hb : Below B w w') (hlt : b < B) : w'.cell? ⟨b, o, none⟩ = some v := (hb.cell (p := ⟨b, o, none⟩) hlt).trans h
theorem str_join (P : List UInt8) (s : ByteArray) : Lib.strCells (({ data := P.toArray } : ByteArray) ++ s) = Lib.byteCells (P ++ s.data.toList) := by
  rw [Lib.strCells_eq, ByteArray.data_append]
  simp
theorem size_join (P : List UInt8) (s : ByteArray) : (({ data := P.toArray } : ByteArray) ++ s).size = P.length + s.size := by
  rw [ByteArray.size_append]; rfl
end Go.Proofs.YtdgeinipdphoeaaDoor
/- Varints: the program's 'Put'. -/
namespace Go.Proofs.YtdgeinipdphoeaaDoor
set_option linter.unusedVariables false
set_option linter.unusedSimpArgs false
open Go.ChangeShapes Go.WideShapes Go.ChangeAt Go.RowKit Go.Shelf

set_option maxRecDepth 100000 in
theorem put1_any (n : Nat) (hn : n ≤ 18446744073709551615) (w : World) :
    Calls Tryd.prog 17 #[.int .u64 (n : Int)] w fun e w' => e = .returned (strV (putB n)) ∧ Below w.heap.size w w' := by
  have HP := hid (fun (W : World) (h : NumsAt W (some ⟨w.heap.size, 0, none⟩) [n]) => put_any [n] (fun m hm => by simp at hm; omega) (by simp) (some ⟨w.heap.size, 0, none⟩) 1 1 rfl W h)
  have he := hid (show putsB [n] = putB n by simp [putsB])
  have hnum : NumsAt (w.alloc (.cells #[.int .u64 (n : Int)] 53)) (some ⟨w.heap.size, 0, none⟩) [n] := fun _ => ⟨w.heap.size, 0, rfl, fun j hj => by
    simp at hj
    subst hj
    simp⟩
  go_enter Tryd.func17, Tryd.ntmps17
  go_wp2_with (go_at_call 37; (refine (HP.out _ hnum).mono ?_); rintro e w1 ⟨rfl, hb1⟩)
  rw [he.out]
  ((show bodyPost _ _ _ _ _ _); refine bodyPost_ret (by simp only [results, Tryd.results17]; go_simp; try rfl) rfl ?_)
  exact ⟨rfl, by (repeat' (first | (with_reducible exact Below.refl _ _) | (with_reducible assumption) | (with_reducible refine Below.new ?_ _) | (with_reducible refine Below.alloc ?_ ?_ _) | (with_reducible refine Below.drew ?_) | (with_reducible refine Below.drewN ?_ _) | (with_reducible refine Below.setCell ?_ ?_ _) | (refine Below.step ?_ (by assumption)) | go_size))⟩
end Go.Proofs.YtdgeinipdphoeaaDoor
/- Schemas: the program's 'Encode'. -/
namespace Go.Proofs.YtdgeinipdphoeaaDoor
set_option linter.unusedVariables false
set_option linter.unusedSimpArgs false
set_option maxRecDepth 100000
open Go.ChangeShapes Go.WideShapes Go.ChangeAt Go.RowKit

/-- A value's bytes. -/
def valE (v : ValD) : List UInt8 := putB (if v.nl then 0 else v.s.size + 1) ++ v.s.data.toList
def numE (n : Int) : List UInt8 := putB (turnV n).toNat
/-- A row's bytes. -/
def rowE (t : Int) (l : List ValD) (xs : List Int) : List UInt8 := putB t.toNat ++ l.flatMap valE ++ xs.flatMap numE
theorem valE_le (v : ValD) (h : v.s.size ≤ 100) : (valE v).length ≤ 110 := by
  unfold valE
  have : (putB (if v.nl then 0 else v.s.size + 1)).length ≤ 10 := putB_ten (by split <;> omega)
  simp only [List.length_append, Array.length_toList]
  show _ + v.s.size ≤ _
  omega
theorem vals_le (l : List ValD) (h : ∀ v ∈ l, v.s.size ≤ 100) : (l.flatMap valE).length ≤ l.length * 110 := by
  induction l with
  | nil => simp
  | cons v l ih =>
    have h1 := valE_le v (h v (by simp))
    have h2 := ih (fun u hu => h u (by simp [hu]))
    simp only [List.flatMap_cons, List.length_append, List.length_cons]
    omega
theorem nums_le (xs : List Int) (h : ∀ n ∈ xs, -9223372036854775808 ≤ n ∧ n ≤ 9223372036854775807) : (xs.flatMap numE).length ≤ xs.length * 10 := by
  induction xs with
  | nil => simp
  | cons n xs ih =>
    have h1 : (numE n).length ≤ 10 := putB_ten (by have := turnV_is (h n (by simp)); omega)
    have h2 := ih (fun u hu => h u (by simp [hu]))
    simp only [List.flatMap_cons, List.length_append, List.length_cons]
    omega
theorem flat_snoc {α β : Type} (f : α → List β) {l : List α} {k : Nat} (hk : k < l.length) : (l.take (k + 1)).flatMap f = (l.take k).flatMap f ++ f l[k] := by
  rw [List.take_succ_eq_append_getElem hk, List.flatMap_append]
  simp

set_option maxHeartbeats 1000000 in
theorem encode_bad (vd vm vr vn : Value) (ds ms : List ByteArray) (g t : Int) (l : List ValD) (xs : List Int) (w : World) (hd : StrsSl w vd ds) (hm : StrsSl w vm ms) (td : Texts ds) (tm : Texts ms) (hr : ValsSl w vr l) (tr : Vals l) (hn : IntsSl w vn xs) (hf : fitsS ds ms g t l xs.length = false) :
    Calls Tryd.prog 8 #[.agg #[vd, vm, .int .i64 g], .agg #[.int .i64 t, vr, vn]] w fun e w' => e = .returned (.tuple #[.string { data := #[] }, .int .i64 (if rightS ds ms g = true then 101 else 100)]) ∧ Below w.heap.size w w' := by
  have HR := hid (fun W (h : Below w.heap.size w W) => right_any vd vm ds ms g W (hd.below h) (hm.below h) td tm)
  have HF := hid (fun W (h : Below w.heap.size w W) => fits_any vd vm vr vn ds ms g t l xs.length _ W (hd.below h) (hm.below h) td tm (hr.below h) tr (hn.below h))
  rw [hf] at HF
  obtain ⟨ad, cd, rfl, _, _, _⟩ := SlAt.shape hd
  obtain ⟨am, cm, rfl, _, _, _⟩ := SlAt.shape hm
  obtain ⟨ar, cr, rfl, _, _, _⟩ := SlAt.shape hr
  obtain ⟨an, cn, rfl, _, _, _⟩ := SlAt.shape hn
  clear hd hm hr hn hf
  generalize ds.length = nd at *
  generalize ms.length = nm at *
  generalize l.length = nl at *
  generalize xs.length = nx at *
  generalize rightS ds ms g = rs at *
  cases rs with
  | false =>
    have HE : Hid ((if false = true then (101 : Int) else 100) = 100) := rfl
    rw [HE.out]
    go_enter Tryd.func8, Tryd.ntmps8
    go_wp2_with (go_at_call 14; ((with_reducible refine (HR.out _ (by (repeat' (first | (with_reducible exact Below.refl _ _) | (with_reducible assumption) | (with_reducible refine Below.new ?_ _) | (with_reducible refine Below.alloc ?_ ?_ _) | (with_reducible refine Below.drew ?_) | (with_reducible refine Below.drewN ?_ _) | (with_reducible refine Below.setCell ?_ ?_ _) | (refine Below.step ?_ (by assumption)) | go_size)))).mono ?_); rintro e w1 ⟨rfl, hb1⟩; obtain ⟨hc1, hf1, hk1, hz1⟩ := bcell3 hb1; (try simp only [World.size_alloc, World.size_drew] at hz1); have : w.heap.size < w1.heap.size := (by omega); have : w.heap.size + 1 < w1.heap.size := (by omega)))
    go_ret2
    exact ⟨rfl, by (repeat' (first | (with_reducible exact Below.refl _ _) | (with_reducible assumption) | (with_reducible refine Below.new ?_ _) | (with_reducible refine Below.alloc ?_ ?_ _) | (with_reducible refine Below.drew ?_) | (with_reducible refine Below.drewN ?_ _) | (with_reducible refine Below.setCell ?_ ?_ _) | (refine Below.step ?_ (by assumption)) | go_size))⟩
  | true =>
    have HE : Hid ((if true = true then (101 : Int) else 100) = 101) := rfl
    rw [HE.out]
    go_enter Tryd.func8, Tryd.ntmps8
    go_wp2_with (first
      | (go_at_call 14; ((with_reducible refine (HR.out _ (by (repeat' (first | (with_reducible exact Below.refl _ _) | (with_reducible assumption) | (with_reducible refine Below.new ?_ _) | (with_reducible refine Below.alloc ?_ ?_ _) | (with_reducible refine Below.drew ?_) | (with_reducible refine Below.drewN ?_ _) | (with_reducible refine Below.setCell ?_ ?_ _) | (refine Below.step ?_ (by assumption)) | go_size)))).mono ?_); rintro e w1 ⟨rfl, hb1⟩; obtain ⟨hc1, hf1, hk1, hz1⟩ := bcell3 hb1; (try simp only [World.size_alloc, World.size_drew] at hz1); have : w.heap.size < w1.heap.size := (by omega); have : w.heap.size + 1 < w1.heap.size := (by omega)))
      | (go_at_call 13; ((with_reducible refine (HF.out _ (by (repeat' (first | (with_reducible exact Below.refl _ _) | (with_reducible assumption) | (with_reducible refine Below.new ?_ _) | (with_reducible refine Below.alloc ?_ ?_ _) | (with_reducible refine Below.drew ?_) | (with_reducible refine Below.drewN ?_ _) | (with_reducible refine Below.setCell ?_ ?_ _) | (refine Below.step ?_ (by assumption)) | go_size)))).mono ?_); rintro e w2 ⟨rfl, hb2⟩)))
    go_ret2
    exact ⟨rfl, by (repeat' (first | (with_reducible exact Below.refl _ _) | (with_reducible assumption) | (with_reducible refine Below.new ?_ _) | (with_reducible refine Below.alloc ?_ ?_ _) | (with_reducible refine Below.drew ?_) | (with_reducible refine Below.drewN ?_ _) | (with_reducible refine Below.setCell ?_ ?_ _) | (refine Below.step ?_ (by assumption)) | go_size))⟩
end Go.Proofs.YtdgeinipdphoeaaDoor
/- Schemas: the program's 'Encode' at a row that fits. -/
namespace Go.Proofs.YtdgeinipdphoeaaDoor
set_option linter.unusedVariables false
set_option linter.unusedSimpArgs false
set_option maxRecDepth 100000
open Go.ChangeShapes Go.WideShapes Go.ChangeAt Go.RowKit

theorem strV_cells (l : List UInt8) : Lib.strCells ⟨l.toArray⟩ = Lib.byteCells l := rfl
theorem okV_is {v : ValD} (h : okV v = true) : v.s.size ≤ 100 ∧ (v.nl = true → v.s.size = 0) := by
  unfold okV isValB at h
  simp only [Bool.and_eq_true, Bool.or_eq_true, Bool.not_eq_true', decide_eq_true_eq] at h
  exact ⟨h.1, fun hn => by rcases h.2 with h2 | h2; · rw [hn] at h2; cases h2
                           · exact h2⟩
def Nums64 (xs : List Int) : Prop := ∀ n ∈ xs, -9223372036854775808 ≤ n ∧ n ≤ 9223372036854775807
set_option maxHeartbeats 4000000 in
theorem encode_ok (vd vm vr vn : Value) (ds ms : List ByteArray) (g t : Int) (l : List ValD) (xs : List Int) (w : World) (hd : StrsSl w vd ds) (hm : StrsSl w vm ms) (td : Texts ds) (tm : Texts ms) (hr : ValsSl w vr l) (tr : Vals l) (hn : IntsSl w vn xs) (tn : Nums64 xs) (hf : fitsS ds ms g t l xs.length = true) :
    Calls Tryd.prog 8 #[.agg #[vd, vm, .int .i64 g], .agg #[.int .i64 t, vr, vn]] w fun e w' => e = .returned (.tuple #[strV (rowE t l xs), .int .i64 0]) ∧ Below w.heap.size w w' := by
  have HR := hid (fun W (h : Below w.heap.size w W) => right_any vd vm ds ms g W (hd.below h) (hm.below h) td tm)
  have HF := hid (fun W (h : Below w.heap.size w W) => fits_any vd vm vr vn ds ms g t l xs.length _ W (hd.below h) (hm.below h) td tm (hr.below h) tr (hn.below h))
  rw [hf] at HF
  have hf2 := hf
  unfold fitsS at hf2
  simp only [Bool.and_eq_true, decide_eq_true_eq] at hf2
  obtain ⟨hrs, ⟨ht0, ht1⟩, hll, hxl, hall⟩ := hf2
  rw [hrs] at HR
  unfold rightS at hrs
  simp only [Bool.and_eq_true, decide_eq_true_eq] at hrs
  obtain ⟨⟨_, hd6⟩, hm4, _⟩ := hrs
  have HOK := hid (fun i (hi : i < l.length) => okV_is (List.all_eq_true.1 hall l[i] (List.getElem_mem hi)))
  have hl6 : l.length ≤ 6 := by omega
  have hx4 : xs.length ≤ 4 := by omega
  have HLB : Hid (∀ k, ((l.take k).flatMap valE).length ≤ 660) := fun k => by
    have := vals_le (l.take k) (fun v hv => (okV_is (List.all_eq_true.1 hall v (List.mem_of_mem_take hv))).1)
    rw [List.length_take] at this
    omega
  have HXB : Hid (∀ k, ((xs.take k).flatMap numE).length ≤ 40) := fun k => by
    have := nums_le (xs.take k) (fun v hv => tn v (List.mem_of_mem_take hv))
    rw [List.length_take] at this
    omega
  have HTN := hid (fun i (hi : i < xs.length) => tn xs[i] (List.getElem_mem hi))
  obtain ⟨T, hT⟩ : ∃ T : Nat, t = (T : Int) := ⟨t.toNat, by omega⟩
  subst hT
  obtain ⟨PT, hPT⟩ : ∃ PT, putB (T : Int).toNat = PT := ⟨_, rfl⟩
  have hPT2 : PT.length ≤ 10 := by rw [← hPT]; exact putB_ten (by omega)
  have HPT := hid hPT
  have HP := hid (fun (n : Nat) (hn : n ≤ 18446744073709551615) W => put1_any n hn W)
  have HPT3 := hid (fun W => put1_any T (by omega) W)
  rw [show putB T = PT by rw [← hPT]; simp] at HPT3
  have HRE : Hid (rowE (T : Int) l xs = PT ++ l.flatMap valE ++ xs.flatMap numE) := by unfold Hid rowE; rw [hPT]
  obtain ⟨R, hR⟩ : ∃ R, rowE (T : Int) l xs = R := ⟨_, rfl⟩
  rw [hR]
  have HRR := hid hR
  have HVR := hid (ValsSl.parts hr)
  have HVN := hid hn
  obtain ⟨ad, cd, rfl, _, _, _⟩ := SlAt.shape hd
  obtain ⟨am, cm, rfl, _, _, _⟩ := SlAt.shape hm
  obtain ⟨ar, cr, rfl, _, _, _⟩ := SlAt.shape hr
  obtain ⟨an, cn, rfl, _, _, _⟩ := SlAt.shape hn
  obtain ⟨L, hL⟩ : ∃ L, l.length = L := ⟨_, rfl⟩
  obtain ⟨X, hX⟩ : ∃ X, xs.length = X := ⟨_, rfl⟩
  have HL := hid hL; have HX := hid hX
  rw [hL] at hl6 HF
  rw [hX] at hx4 HF
  rw [hL, hX]
  clear hd hm hr hn hf hR hPT hall hll hxl hd6 hm4 td tm tr tn hL hX
  generalize ds.length = nd at *
  generalize ms.length = nm at *
  go_enter Tryd.func8, Tryd.ntmps8
  go_wp2_with (first
      | (go_at_call 14; ((with_reducible refine (HR.out _ (by (repeat' (first | (with_reducible exact Below.refl _ _) | (with_reducible assumption) | (with_reducible refine Below.new ?_ _) | (with_reducible refine Below.alloc ?_ ?_ _) | (with_reducible refine Below.drew ?_) | (with_reducible refine Below.drewN ?_ _) | (with_reducible refine Below.setCell ?_ ?_ _) | (refine Below.step ?_ (by assumption)) | go_size)))).mono ?_); rintro e w1 ⟨rfl, hb1⟩; obtain ⟨hc1, hf1, hk1, hz1⟩ := bcell3 hb1; (try simp only [World.size_alloc, World.size_drew] at hz1); have : w.heap.size < w1.heap.size := (by omega); have : w.heap.size + 1 < w1.heap.size := (by omega)))
      | (go_at_call 13; ((with_reducible refine (HF.out _ (by (repeat' (first | (with_reducible exact Below.refl _ _) | (with_reducible assumption) | (with_reducible refine Below.new ?_ _) | (with_reducible refine Below.alloc ?_ ?_ _) | (with_reducible refine Below.drew ?_) | (with_reducible refine Below.drewN ?_ _) | (with_reducible refine Below.setCell ?_ ?_ _) | (refine Below.step ?_ (by assumption)) | go_size)))).mono ?_); rintro e w2 ⟨rfl, hb2⟩; obtain ⟨hc2, hf2, hk2, hz2⟩ := bcell3 hb2; (try simp only [World.size_alloc, World.size_drew] at hz2); have : w.heap.size < w2.heap.size := (by omega); have : w.heap.size + 1 < w2.heap.size := (by omega))))
  have p0 : w2.cell? ⟨w.heap.size + 1, 1, none⟩ = some (.slice ar L cr) := by go_simp
  have p1 : w2.cell? ⟨w.heap.size + 1, 2, none⟩ = some (.slice an X cn) := by go_simp
  have p2 : w2.cell? ⟨w.heap.size + 1, 0, none⟩ = some (.int .i64 (T : Int)) := by go_simp
  have hBw : Below w.heap.size w w2 := by (repeat' (first | (with_reducible exact Below.refl _ _) | (with_reducible assumption) | (with_reducible refine Below.new ?_ _) | (with_reducible refine Below.alloc ?_ ?_ _) | (with_reducible refine Below.drew ?_) | (with_reducible refine Below.drewN ?_ _) | (with_reducible refine Below.setCell ?_ ?_ _) | (refine Below.step ?_ (by assumption)) | go_size))
  have hBz : w.heap.size + 1 < w2.heap.size := by omega
  clear hc1 hf1 hk1 hz1 hc2 hf2 hk2 hz2
  obtain ⟨B, hB⟩ : ∃ B, w2.heap.size = B := ⟨_, rfl⟩
  have hbl0 := Bld.new w2
  rw [hB] at hbl0 ⊢
  go_wp2_with (go_at_call 17; ((with_reducible refine (HPT3.out _).mono ?_); rintro e w3 ⟨rfl, hb3⟩; obtain ⟨hc3, hf3, hk3, hz3⟩ := bcell3 hb3; (try simp only [World.size_alloc, World.size_drew] at hz3); have hbl3 := Bld.below hbl0 hb3))
  refine (writeString_any B B [] ⟨PT.toArray⟩ _ hbl3 (by simp; show PT.length ≤ _; omega) (by omega)).mono ?_
  rintro e w4 ⟨rfl, hbl4, hb4, _⟩
  have hz3 := hb3.size
  have r0 := cell_low (cell_step (cell_new p0 _) hb3) hb4 (by omega)
  have r1 := cell_low (cell_step (cell_new p1 _) hb3) hb4 (by omega)
  have hB4 : Below B w2 w4 := (hB ▸ ((Below.refl w2.heap.size w2).alloc (Nat.le_refl _) _).trans (hb3.mono (by simp))).trans hb4
  have hbl5 : Bld B B (Lib.byteCells (PT ++ (l.take 0).flatMap valE)) w4 := by
    have := hbl4
    rw [strV_cells] at this
    simpa using (show Bld B B ([] ++ Lib.byteCells PT) w4 from .inr this)
  clear hbl4 hbl3 hbl0 hb3 hb4 hc3 hf3 hk3 hz3
  go_wp2
  go_loopw [29] (fun i wr => ∃ k : Nat, k ≤ L ∧ i = .int .i64 k ∧ Bld B B (Lib.byteCells (PT ++ (l.take k).flatMap valE)) wr ∧ Below B w2 wr) (fun i _ => L - (intOf i).toNat)
  case atStart => exact ⟨0, Nat.zero_le _, rfl, hbl5, hB4⟩
  case round =>
    obtain ⟨k, hk, rfl, hbl, hbel⟩ := hrel
    have hwz := hbel.size
    by_cases hkL : k < L
    · have hlen : k < l.length := by rw [HL.out]; exact hkL
      obtain ⟨ao, cap, e, _, _, _, hall⟩ := HVR.out
      simp only [Value.slice.injEq] at e
      obtain ⟨rfl, _, rfl⟩ := e
      obtain ⟨b, off, rfl, hc⟩ := hall (by omega)
      obtain ⟨c1, c2⟩ := hc k hlen
      have hblt : b < w.heap.size := World.block_lt_of_cell? _ _ c1
      have d1 := cell_low (cell_step c1 hBw) hbel (by omega)
      have d2 := cell_low (cell_step c2 hBw) hbel (by omega)
      obtain ⟨ok1, ok2⟩ := HOK.out k hlen
      have hs := flat_snoc valE hlen
      have hv : valE l[k] = putB (if l[k].nl then 0 else l[k].s.size + 1) ++ l[k].s.data.toList := rfl
      rw [hv] at hs
      have hlb := HLB.out k
      clear hall hc c1 c2 hv
      generalize l[k].s = s at *
      generalize l[k].nl = nl at *
      have g1 : (0 : Int) ≤ (k : Int) := Int.natCast_nonneg _
      have g2 : (k : Int) < (L : Int) := by omega
      obtain ⟨Y, hY⟩ : ∃ Y, PT ++ (l.take k).flatMap valE = Y := ⟨_, rfl⟩
      have hYl : Y.length ≤ 670 := by rw [← hY, List.length_append]; omega
      have hs2 : PT ++ (l.take (k + 1)).flatMap valE = Y ++ (putB (if nl then 0 else s.size + 1) ++ s.data.toList) := by rw [hs, ← hY, List.append_assoc]
      rw [hY] at hbl
      have HS := hid hs2; have HBL := hid hbl; have HB := hid hbel
      have hzB : B < wr.heap.size := by rcases hbl with h | h <;> exact h.lt
      clear hs hs2 hbl hbel hY hlb
      obtain ⟨W0, hW0⟩ : ∃ W0, wr = W0 := ⟨_, rfl⟩
      rw [hW0] at HBL HB d1 d2 hwz hzB ⊢
      clear hW0
      cases nl with
      | true =>
        have hs0 : s.size = 0 := ok2 rfl
        have HPK : Hid (∀ W, Calls Tryd.prog 17 #[.int .u64 0] W fun e w' => e = .returned (strV (putB 0)) ∧ Below W.heap.size W w') := fun W => HP.out 0 (by omega) W
        have hpl : (putB 0).length ≤ 10 := putB_ten (by omega)
        rw [show (if true = true then 0 else s.size + 1) = 0 from rfl] at HS
        generalize putB 0 = PB at *
        clear hs0
        go_wp2
        have hS0 : (fun w' : World => w'.cell? ⟨W0.heap.size, 0, none⟩ = some (.string s)) (W0.alloc (.cells #[.string s, .bool true] 41)).drew := by go_simp
        refine wp_region_some (fun w' : World => w'.cell? ⟨W0.heap.size, 0, none⟩ = some (.string s)) [5, 6] (by kernel_rfl) ?_
        (refine wpMix_take (i := 0) (v := ?_) rfl (by kernel_rfl) (fun _ _ _ h => h) (Or.inl ⟨by rfl, ?_⟩) hS0 ?_; rotate_left 1; (focus (intro w hSw; (try dsimp only at hSw); go_simp; try (with_reducible rfl))); (try simp only [Act.put, List.setIfInBounds_toArray, List.set_cons_zero, List.set_cons_succ]))
        (refine wpMix_take (i := 1) (v := ?_) rfl (by kernel_rfl) (fun _ _ _ h => h) (Or.inl ⟨by rfl, ?_⟩) hS0 ?_; rotate_left 1; (focus (intro w hSw; (try dsimp only at hSw); go_simp; try (with_reducible rfl))); (try simp only [Act.put, List.setIfInBounds_toArray, List.set_cons_zero, List.set_cons_succ]))
        (refine wpMix_take (i := 3) (v := ?_) rfl (by kernel_rfl) (fun _ _ _ h => h) (Or.inl ⟨by rfl, ?_⟩) hS0 ?_; rotate_left 1; (focus (intro w hSw; (try dsimp only at hSw); go_simp; try (with_reducible rfl))); (try simp only [Act.put, List.setIfInBounds_toArray, List.set_cons_zero, List.set_cons_succ]))
        (refine wpMix_take (i := 4) (v := ?_) rfl (by kernel_rfl) (fun _ _ _ h => h) (Or.inl ⟨by rfl, ?_⟩) hS0 ?_; rotate_left 1; (focus (intro w hSw; (try dsimp only at hSw); go_simp; try (with_reducible rfl))); (try simp only [Act.put, List.setIfInBounds_toArray, List.set_cons_zero, List.set_cons_succ]))
        refine wpMix_next (t := 2) (by kernel_rfl) ?_
        simp only [opsAt, List.flatMap_cons, List.flatMap_nil, List.take_succ_cons, List.take_zero, List.drop_succ_cons, List.drop_zero, List.append_nil, List.cons_append, List.nil_append]
        go_wp2_with (go_at_call 17; go_loud ((with_reducible refine (HPK.out _).mono ?_); rintro e w5 ⟨rfl, hb5⟩))
        refine ⟨cell_step hS0 hb5, ?_⟩
        refine wpMix_rest [5, 6] (by kernel_rfl) ?_
        simp only [opsAt, List.flatMap_cons, List.flatMap_nil, List.take_succ_cons, List.take_zero, List.drop_succ_cons, List.drop_zero, List.append_nil, List.cons_append, List.nil_append]
        go_wp2_with fail
        have hz5 := hb5.size
        simp only [World.size_alloc, World.size_drew] at hz5
        have hB5 : Below B w2 w5 := Below.trans ((HB.out.alloc (by omega) _).drew) (hb5.mono (by simp; omega))
        refine (writeString_any B B (Lib.byteCells Y) (({ data := PB.toArray } : ByteArray) ++ s) w5 (HBL.out.below (by (repeat' (first | (with_reducible exact Below.refl _ _) | (with_reducible assumption) | (with_reducible refine Below.new ?_ _) | (with_reducible refine Below.alloc ?_ ?_ _) | (with_reducible refine Below.drew ?_) | (with_reducible refine Below.drewN ?_ _) | (with_reducible refine Below.setCell ?_ ?_ _) | (refine Below.step ?_ (by assumption)) | go_size)))) (by rw [size_join, Lib.byteCells_length]; omega) (by omega)).mono ?_
        rintro e w6 ⟨rfl, hbl6, hb6, _⟩
        rw [str_join, ← Lib.byteCells_append, ← HS.out] at hbl6
        have HBL6 := hid hbl6; have HB6 := hid (hB5.trans hb6)
        clear hbl6 hb6 hB5 hb5 hz5
        go_wp2
        go_roundw
        case rel => exact ⟨k + 1, hkL, by go_num, .inr HBL6.out, HB6.out⟩
        case measure => simp [intOf]; omega
      | false =>
        have HPK : Hid (∀ W, Calls Tryd.prog 17 #[.int .u64 ((s.size : Int) + 1)] W fun e w' => e = .returned (strV (putB (s.size + 1))) ∧ Below W.heap.size W w') := fun W => HP.out (s.size + 1) (by omega) W
        have hpl : (putB (s.size + 1)).length ≤ 10 := putB_ten (by omega)
        rw [show (if false = true then 0 else s.size + 1) = s.size + 1 from rfl] at HS
        generalize putB (s.size + 1) = PB at *
        go_wp2
        have hS0 : (fun w' : World => w'.cell? ⟨W0.heap.size, 0, none⟩ = some (.string s)) (W0.alloc (.cells #[.string s, .bool false] 41)).drew := by go_simp
        refine wp_region_some (fun w' : World => w'.cell? ⟨W0.heap.size, 0, none⟩ = some (.string s)) [5, 6] (by kernel_rfl) ?_
        (refine wpMix_take (i := 0) (v := ?_) rfl (by kernel_rfl) (fun _ _ _ h => h) (Or.inl ⟨by rfl, ?_⟩) hS0 ?_; rotate_left 1; (focus (intro w hSw; (try dsimp only at hSw); go_simp; try (with_reducible rfl))); (try simp only [Act.put, List.setIfInBounds_toArray, List.set_cons_zero, List.set_cons_succ]))
        (refine wpMix_take (i := 1) (v := ?_) rfl (by kernel_rfl) (fun _ _ _ h => h) (Or.inl ⟨by rfl, ?_⟩) hS0 ?_; rotate_left 1; (focus (intro w hSw; (try dsimp only at hSw); go_simp; try (with_reducible rfl))); (try simp only [Act.put, List.setIfInBounds_toArray, List.set_cons_zero, List.set_cons_succ]))
        (refine wpMix_take (i := 3) (v := ?_) rfl (by kernel_rfl) (fun _ _ _ h => h) (Or.inl ⟨by rfl, ?_⟩) hS0 ?_; rotate_left 1; (focus (intro w hSw; (try dsimp only at hSw); go_simp; try (with_reducible rfl))); (try simp only [Act.put, List.setIfInBounds_toArray, List.set_cons_zero, List.set_cons_succ]))
        (refine wpMix_take (i := 4) (v := ?_) rfl (by kernel_rfl) (fun _ _ _ h => h) (Or.inl ⟨by rfl, ?_⟩) hS0 ?_; rotate_left 1; (focus (intro w hSw; (try dsimp only at hSw); go_simp; try (with_reducible rfl))); (try simp only [Act.put, List.setIfInBounds_toArray, List.set_cons_zero, List.set_cons_succ]))
        refine wpMix_next (t := 2) (by kernel_rfl) ?_
        simp only [opsAt, List.flatMap_cons, List.flatMap_nil, List.take_succ_cons, List.take_zero, List.drop_succ_cons, List.drop_zero, List.append_nil, List.cons_append, List.nil_append]
        go_wp2_with (go_at_call 17; go_loud ((with_reducible refine (HPK.out _).mono ?_); rintro e w5 ⟨rfl, hb5⟩))
        refine ⟨cell_step hS0 hb5, ?_⟩
        refine wpMix_rest [5, 6] (by kernel_rfl) ?_
        simp only [opsAt, List.flatMap_cons, List.flatMap_nil, List.take_succ_cons, List.take_zero, List.drop_succ_cons, List.drop_zero, List.append_nil, List.cons_append, List.nil_append]
        go_wp2_with fail
        have hz5 := hb5.size
        simp only [World.size_alloc, World.size_drew] at hz5
        have hB5 : Below B w2 w5 := Below.trans ((HB.out.alloc (by omega) _).drew) (hb5.mono (by simp; omega))
        refine (writeString_any B B (Lib.byteCells Y) (({ data := PB.toArray } : ByteArray) ++ s) w5 (HBL.out.below (by (repeat' (first | (with_reducible exact Below.refl _ _) | (with_reducible assumption) | (with_reducible refine Below.new ?_ _) | (with_reducible refine Below.alloc ?_ ?_ _) | (with_reducible refine Below.drew ?_) | (with_reducible refine Below.drewN ?_ _) | (with_reducible refine Below.setCell ?_ ?_ _) | (refine Below.step ?_ (by assumption)) | go_size)))) (by rw [size_join, Lib.byteCells_length]; omega) (by omega)).mono ?_
        rintro e w6 ⟨rfl, hbl6, hb6, _⟩
        rw [str_join, ← Lib.byteCells_append, ← HS.out] at hbl6
        have HBL6 := hid hbl6; have HB6 := hid (hB5.trans hb6)
        clear hbl6 hb6 hB5 hb5 hz5
        go_wp2
        go_roundw
        case rel => exact ⟨k + 1, hkL, by go_num, .inr HBL6.out, HB6.out⟩
        case measure => simp [intOf]; omega
    · obtain rfl : k = L := by omega
      have hlt : l.take k = l := by rw [← HL.out, List.take_length]
      rw [hlt] at hbl
      have hlb := HLB.out k
      rw [hlt] at hlb
      obtain ⟨Y, hY⟩ : ∃ Y, PT ++ l.flatMap valE = Y := ⟨_, rfl⟩
      have hYl : Y.length ≤ 670 := by rw [← hY, List.length_append]; omega
      have HRE2 : Hid (R = Y ++ xs.flatMap numE) := by unfold Hid; rw [← hY, ← HRE.out, HRR.out]
      rw [hY] at hbl
      have hbl0' : Bld B B (Lib.byteCells (Y ++ (xs.take 0).flatMap numE)) wr := by simpa using hbl
      have r1' := cell_low p1 hbel (by omega)
      have HB0 := hid hbel; have HBL0 := hid hbl0'
      clear hlt hlb hY hbl hbl0' hbel r0 r1 hB4 hbl5
      go_wp2
      go_loopw [51] (fun i wr => ∃ k : Nat, k ≤ X ∧ i = .int .i64 k ∧ Bld B B (Lib.byteCells (Y ++ (xs.take k).flatMap numE)) wr ∧ Below B w2 wr) (fun i _ => X - (intOf i).toNat)
      case atStart => exact ⟨0, Nat.zero_le _, rfl, HBL0.out, HB0.out⟩
      case round =>
        obtain ⟨j, hj, rfl, hbl, hbel⟩ := hrel
        have hwz2 := hbel.size
        by_cases hjX : j < X
        · have hlen : j < xs.length := by rw [HX.out]; exact hjX
          obtain ⟨b, off, rfl, hc⟩ := (SlAt.parts HVN.out).2.2.2.2 (by simp; omega)
          have c1 := hc j (.int .i64 xs[j]) (by rw [List.getElem?_map, List.getElem?_eq_getElem hlen]; rfl)
          have hblt : b < w.heap.size := World.block_lt_of_cell? _ _ c1
          have d1 := cell_low (cell_step c1 hBw) hbel (by omega)
          have htn := HTN.out j hlen
          have hs := flat_snoc numE hlen
          have hxb := HXB.out j
          have hv : numE xs[j] = putB (turnV xs[j]).toNat := rfl
          rw [hv] at hs
          clear hc c1 hv
          generalize xs[j] = n at *
          have htu := turnV_is htn
          have HTU := hid (fun W => turn_any n htn W)
          obtain ⟨M, hM⟩ : ∃ M : Nat, turnV n = (M : Int) := ⟨(turnV n).toNat, by omega⟩
          have hM2 : (turnV n).toNat = M := by omega
          rw [hM2] at hs
          rw [hM] at HTU htu
          have HPK := hid (fun W => HP.out M (by omega) W)
          have hpl : (putB M).length ≤ 10 := putB_ten (by omega)
          generalize putB M = PB at *
          obtain ⟨Z, hZ⟩ : ∃ Z, Y ++ (xs.take j).flatMap numE = Z := ⟨_, rfl⟩
          have hZl : Z.length ≤ 710 := by rw [← hZ, List.length_append]; omega
          have hs2 : Y ++ (xs.take (j + 1)).flatMap numE = Z ++ PB := by rw [hs, ← hZ, List.append_assoc]
          rw [hZ] at hbl
          have HS := hid hs2; have HBL := hid hbl; have HB := hid hbel
          have hzB : B < wr.heap.size := by rcases hbl with h | h <;> exact h.lt
          clear hs hs2 hbl hbel hZ hxb hM hM2
          have g1 : (0 : Int) ≤ (j : Int) := Int.natCast_nonneg _
          have g2 : (j : Int) < (X : Int) := by omega
          go_wp2_with (first
            | (go_at_call 18; ((with_reducible refine (HTU.out _).mono ?_); rintro e w5 ⟨rfl, hb5⟩; have hz5 := hb5.size))
            | (go_at_call 17; ((with_reducible refine (HPK.out _).mono ?_); rintro e w6 ⟨rfl, hb6⟩; have hz6 := hb6.size)))
          have hB6 : Below B w2 w6 := HB.out.trans ((hb5.mono (by omega)).trans (hb6.mono (by omega)))
          refine (writeString_any B B (Lib.byteCells Z) ⟨PB.toArray⟩ w6 ((HBL.out.below hb5).below hb6) (by rw [Lib.byteCells_length]; show _ + PB.length ≤ _; omega) (by omega)).mono ?_
          rintro e w7 ⟨rfl, hbl7, hb7, _⟩
          rw [strV_cells, ← Lib.byteCells_append, ← HS.out] at hbl7
          have HBL7 := hid hbl7; have HB7 := hid (hB6.trans hb7)
          clear hbl7 hb7 hB6 hb5 hb6 hz5 hz6
          go_wp2
          go_roundw
          case rel => exact ⟨j + 1, hjX, by go_num, .inr HBL7.out, HB7.out⟩
          case measure => simp [intOf]; omega
        · obtain rfl : j = X := by omega
          have hxt : xs.take j = xs := by rw [← HX.out, List.take_length]
          rw [hxt, ← HRE2.out] at hbl
          have HS := hid (fun W' (h : Bld B B (Lib.byteCells R) W') (hs : B ≤ W'.heap.size) => Tryd.Builder_String_any_k B B R W' (Lib.IsBuilderF.of h) hs)
          have HBL := hid hbl; have HB := hid hbel
          clear hxt hbl hbel
          go_wp2_with (go_at_call 19; ((with_reducible refine (HS.out _ HBL.out (by omega)).mono ?_); rintro e X3 ⟨rfl, _, f2, _⟩))
          go_ret2
          exact ⟨rfl, hBw.trans (Below.mono (HB.out.trans f2) (by omega))⟩
end Go.Proofs.YtdgeinipdphoeaaDoor
