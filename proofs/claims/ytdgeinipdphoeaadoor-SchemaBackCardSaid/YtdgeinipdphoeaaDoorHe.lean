/- Texts joined: AppSl, SchG, SchH, SchI, SchJ, SchK. -/
import Derived.Test.YtdgeinipdphoeaaDoorHd
import Derived.Laws.AppendOwnNone
import Derived.Maps.AppendAt
import Derived.Deep.AppendLies
import Derived.Deep.RegionHeld3
import Derived.Deep.QuietTactic
import Derived.BigQuiet
import Derived.Test.YtdgeinipdphoeaaDoorShelf
/- append onto a row of the call's own, of a slice that lies in memory, nil or not. -/
namespace Go.Proofs.YtdgeinipdphoeaaDoor
set_option linter.unusedVariables false
open Go.ChangeShapes Go.WideShapes Go.ChangeAt Go.RowKit

theorem run_append_sl {P : Program} (w : World) (base : Nat) (t ty e : TypeId) (i : TypeInfo) (z : Value) (size bytes : Nat) (ht : P.underlying t = some (.slice e)) (hi : P.info? e = some i) (hz : i.zero = some z)
    (hsize : i.size = size) (hby : i.bytes = bytes) (hzs : z.cells.size = size) (hsz : 0 < size) (v : Value) (n : Nat) (xs : List Value) (hown : w.ownsRow base e size v n xs)
    (xv : Value) (m : Nat) (news : List Value) (hr : SlAt w xv m size news) (h1 : ∀ u ∈ news, u.oneCell' = true) (h63 : n + m ≤ maxLen) (hbytes : (n + m) * bytes ≤ 140737488355328) (hbase : base ≤ w.heap.size) :
    ∃ v' w', (Builtin.append_ #[t, t] ty #[v, xv]).run P w = .ok v' w' ∧ w'.ownsRow base e size v' (n + m) (xs ++ news) ∧ w.grownBy w' v.ownBlock ∧ (v'.ownBlock = v.ownBlock ∨ v'.ownBlock = some w.heap.size) := by
  obtain ⟨ao, cap, rfl, hl1, _, hn⟩ := SlAt.shape hr
  cases ao with
  | none =>
    obtain rfl := hn rfl
    obtain rfl : m = 0 := by omega
    have hnil : news = [] := List.eq_nil_of_length_eq_zero (by simpa using hr.1)
    subst hnil
    exact ⟨v, w, run_append_owned_none (P := P) (w := w) base t ty e i size ht hi v n xs hown, by simpa using hown, World.grownBy.refl w _, .inl rfl⟩
  | some ad =>
    obtain ⟨b, off, s⟩ := ad
    obtain ⟨v', w', h2, h3, h4, _, h5⟩ := run_append_own_at (P := P) w base t ty e i z size bytes ht hi hz hsize hby hzs hsz v n xs hown ⟨b, off, s⟩ m cap news hr.1 (SlAt.src hr) h1 h63 hbytes hbase
    exact ⟨v', w', h2, h3, h4, h5⟩
theorem wp_append_sl {P : Program} (w : World) {o : Oper} {a : Act} {K : Act → World → Prop} {Q : Exit → Act → World → Prop} (s x : Operand) (t : TypeId)
    (ho : o.op = .call { callee := .builtin .append, args := #[s, x], argTypes := #[t, t] }) (base : Nat) (e : TypeId) (i : TypeInfo) (z : Value) (size bytes : Nat) (ht : P.underlying t = some (.slice e)) (hi : P.info? e = some i) (hz : i.zero = some z)
    (hsize : i.size = size) (hby : i.bytes = bytes) (hzs : z.cells.size = size) (hsz : 0 < size) (v : Value) (n : Nat) (xs : List Value) (hs : a.eval s = v) (hown : w.ownsRow base e size v n xs)
    (xv : Value) (m : Nat) (news : List Value) (hx : a.eval x = xv) (hr : SlAt w xv m size news) (h1 : ∀ u ∈ news, u.oneCell' = true) (h63 : n + m ≤ maxLen) (hbytes : (n + m) * bytes ≤ 140737488355328) (hbase : base ≤ w.heap.size)
    (h : ∀ v' w', w'.ownsRow base e size v' (n + m) (xs ++ news) → w.grownBy w' v.ownBlock → (v'.ownBlock = v.ownBlock ∨ v'.ownBlock = some w.heap.size) → K (a.put o.dst v') w') : o.wp P a w K Q := by
  obtain ⟨v', w', hrun, h2, h3, h4⟩ := run_append_sl (P := P) w base t o.type e i z size bytes ht hi hz hsize hby hzs hsz v n xs hown xv m news hr h1 h63 hbytes hbase
  unfold Oper.wp execOp
  simp only [ho, resolve, invoke, builtin, Sem.run_bind, Sem.run_pure, Result.andThen_ok, List.map_toArray, List.map_cons, List.map_nil, hs, hx, hrun]
  exact h v' w' h2 h3 h4
theorem wpList_append_sl {P : Program} (w : World) {ops : Array Oper} {rest : List Oper} {o : Oper} {a : Act} {Q : Exit → Act → World → Prop} (hgd : o.guard = none) (s x : Operand) (t : TypeId)
    (ho : o.op = .call { callee := .builtin .append, args := #[s, x], argTypes := #[t, t] }) (base : Nat) (e : TypeId) (i : TypeInfo) (z : Value) (size bytes : Nat) (ht : P.underlying t = some (.slice e)) (hi : P.info? e = some i) (hz : i.zero = some z)
    (hsize : i.size = size) (hby : i.bytes = bytes) (hzs : z.cells.size = size) (hsz : 0 < size) (v : Value) (n : Nat) (xs : List Value) (hs : a.eval s = v) (hown : w.ownsRow base e size v n xs)
    (xv : Value) (m : Nat) (news : List Value) (hx : a.eval x = xv) (hr : SlAt w xv m size news) (h1 : ∀ u ∈ news, u.oneCell' = true) (h63 : n + m ≤ maxLen) (hbytes : (n + m) * bytes ≤ 140737488355328) (hbase : base ≤ w.heap.size)
    (h : ∀ v' w', w'.ownsRow base e size v' (n + m) (xs ++ news) → w.grownBy w' v.ownBlock → (v'.ownBlock = v.ownBlock ∨ v'.ownBlock = some w.heap.size) → wpList P ops Q rest (a.put o.dst v') w') : wpList P ops Q (o :: rest) a w :=
  wpList_plain hgd fun _ hK => wp_append_sl w s x t ho base e i z size bytes ht hi hz hsize hby hzs hsz v n xs hs hown xv m news hx hr h1 h63 hbytes hbase fun v' w' h2 h3 h4 => hK _ _ (h v' w' h2 h3 h4)
theorem step_append_sl {P : Program} (w : World) {ops : Array Oper} {o : Oper} {a : Act} {K : Act → World → Prop} {Q : Exit → Act → World → Prop} {E : Prop} (hgd : o.guard = none) (s x : Operand) (t : TypeId)
    (ho : o.op = .call { callee := .builtin .append, args := #[s, x], argTypes := #[t, t] }) (base : Nat) (e : TypeId) (i : TypeInfo) (z : Value) (size bytes : Nat) (ht : P.underlying t = some (.slice e)) (hi : P.info? e = some i) (hz : i.zero = some z)
    (hsize : i.size = size) (hby : i.bytes = bytes) (hzs : z.cells.size = size) (hsz : 0 < size) (v : Value) (n : Nat) (xs : List Value) (hs : a.eval s = v) (hown : w.ownsRow base e size v n xs)
    (xv : Value) (m : Nat) (news : List Value) (hx : a.eval x = xv) (hr : SlAt w xv m size news) (h1 : ∀ u ∈ news, u.oneCell' = true) (h63 : n + m ≤ maxLen) (hbytes : (n + m) * bytes ≤ 140737488355328) (hbase : base ≤ w.heap.size)
    (h : ∀ v' w', w'.ownsRow base e size v' (n + m) (xs ++ news) → w.grownBy w' v.ownBlock → (v'.ownBlock = v.ownBlock ∨ v'.ownBlock = some w.heap.size) → K (a.put o.dst v') w') :
    if Region.wanted o (yielded ops a.tmps) = true then Oper.wp P o a w K Q else E := by
  have hw : Region.wanted o (yielded ops a.tmps) = true := by simp [Region.wanted, hgd]
  rw [if_pos hw]
  exact wp_append_sl w s x t ho base e i z size bytes ht hi hz hsize hby hzs hsz v n xs hs hown xv m news hx hr h1 h63 hbytes hbase h
/-- What is appended: one element in a new block. -/
theorem SlAt.new (w : World) (cs : Array Value) (T : TypeId) : SlAt (w.alloc (.cells cs T)) (.slice (some ⟨w.heap.size, 0, none⟩) 1 1) 1 cs.size cs.toList := by
  refine ⟨by simp, _, 1, rfl, Nat.le_refl _, (by unfold maxLen; omega), (fun h => by cases h), fun _ => ⟨w.heap.size, 0, rfl, fun j u hj => ?_⟩⟩
  rw [World.cell?_alloc_at _ _ _ _ rfl]
  simpa using hj
theorem SlAt.alloc {w : World} {v : Value} {n size : Nat} {cs : List Value} (h : SlAt w v n size cs) (o : Obj) : SlAt (w.alloc o) v n size cs := h.below ((Below.refl _ _).alloc (Nat.le_refl _) o)
theorem SlAt.drew {w : World} {v : Value} {n size : Nat} {cs : List Value} (h : SlAt w v n size cs) : SlAt w.drew v n size cs := h.below (Below.drew (Below.refl _ _))
/-- Cells below what is the call's own are as they were behind an append. -/
theorem own_far {w w' : World} {base : Nat} {e : TypeId} {size : Nat} {v : Value} {n : Nat} {xs : List Value} (hown : w.ownsRow base e size v n xs) (hg : w.grownBy w' v.ownBlock) {b o : Nat} {u : Value} (hb : b < base) (h : w.cell? ⟨b, o, none⟩ = some u) : w'.cell? ⟨b, o, none⟩ = some u := by
  rw [hg.cell_far _ (World.block_lt_of_cell? _ _ h) (fun e => ?_)]
  · exact h
  · have := (hown.lt b e.symm).1
    omega
theorem own_blk {w w' : World} {base : Nat} {e : TypeId} {size : Nat} {v : Value} {n : Nat} {xs : List Value} (hown : w.ownsRow base e size v n xs) (hg : w.grownBy w' v.ownBlock) {b : Nat} {o : Obj} (hb : b < base) (h : w.heap[b]? = some o) : w'.heap[b]? = some o := by
  rw [hg.block b (Array.getElem?_eq_some_iff.1 h).1 (fun e => ?_)]
  · exact h
  · have := (hown.lt b e.symm).1
    omega
theorem own_below {w w' : World} {base : Nat} {e : TypeId} {size : Nat} {v : Value} {n : Nat} {xs : List Value} (hown : w.ownsRow base e size v n xs) (hg : w.grownBy w' v.ownBlock) {w0 : World} (h0 : Below w0.heap.size w0 w) (hb : w0.heap.size ≤ base) : Below w0.heap.size w0 w' :=
  h0.grown hg (by have := h0.size; omega) (fun r e => by have := (hown.lt r e).1; omega)
end Go.Proofs.YtdgeinipdphoeaaDoor
/- Schemas: the reference's 'Right'. -/
namespace Go.Proofs.YtdgeinipdphoeaaDoor
set_option linter.unusedVariables false
set_option linter.unusedSimpArgs false
set_option maxRecDepth 100000
open Go.ChangeShapes Go.WideShapes Go.ChangeAt Go.RowKit

theorem seen_or (l : List ByteArray) (t : ByteArray) : (seenB l t = false ∧ ∀ i (hi : i < l.length), (t.toList == l[i].toList) = false) ∨ (seenB l t = true ∧ ∃ j, ∃ hj : j < l.length, (t.toList == l[j].toList) = true ∧ ∀ i (hi : i < j), (t.toList == (l[i]'(Nat.lt_trans hi hj)).toList) = false) := by
  have H : ∀ n, n ≤ l.length → (∀ i (hi : i < l.length), i < n → (t.toList == l[i].toList) = false) ∨ (∃ j, ∃ hj : j < l.length, (t.toList == l[j].toList) = true ∧ ∀ i (hi : i < j), (t.toList == (l[i]'(Nat.lt_trans hi hj)).toList) = false) := by
    intro n
    induction n with
    | zero => intro _; exact .inl fun i hi h => absurd h (Nat.not_lt_zero i)
    | succ n ih =>
      intro hn
      rcases ih (by omega) with h | h
      · by_cases hg : (t.toList == (l[n]'(by omega)).toList) = true
        · exact .inr ⟨n, by omega, hg, fun i hi => h i (by omega) hi⟩
        · refine .inl fun i hi hin => ?_
          by_cases e : i = n
          · subst e; simpa using hg
          · exact h i hi (by omega)
      · exact .inr h
  rcases H l.length (Nat.le_refl _) with h | h
  · refine .inl ⟨?_, fun i hi => h i hi hi⟩
    unfold seenB
    rw [List.any_eq_false]
    intro x hx
    obtain ⟨i, hi, rfl⟩ := List.getElem_of_mem hx
    have := h i hi hi
    rw [ByteArray.toList_eq, ByteArray.toList_eq] at this
    simpa using fun e => (by rw [e] at this; simp at this)
  · refine .inr ⟨?_, h⟩
    obtain ⟨j, hj, he, _⟩ := h
    unfold seenB
    rw [List.any_eq_true]
    refine ⟨l[j], List.getElem_mem hj, ?_⟩
    rw [ByteArray.toList_eq, ByteArray.toList_eq] at he
    rw [beq_iff_eq] at he ⊢
    exact he.symm

set_option maxHeartbeats 4000000 in
theorem refRight_mid (vd vm : Value) (ds ms : List ByteArray) (g : Int) (w : World) (hd : StrsSl w vd ds) (hm : StrsSl w vm ms) (td : Texts ds) (tm : Texts ms) (h1 : 1 ≤ ds.length) (h2 : ds.length ≤ 6) (h3 : ms.length ≤ 4) (h4 : 1 ≤ g) (h5 : g ≤ 1000000000) :
    Calls Tryd.prog 20 #[.agg #[vd, vm, .int .i64 g]] w fun e w' => e = .returned (.bool (namesB (ds ++ ms))) ∧ Below w.heap.size w w' := by
  obtain ⟨i0, hi, hiz0, hiz1, hiz2⟩ := info_parts info_string
  obtain ⟨ta, _⟩ := td.app tm
  obtain ⟨J, hJ, hpre, hat, hres⟩ : ∃ J, J ≤ (ds ++ ms).length ∧ (∀ i, i < J → okAt (ds ++ ms) i = true) ∧ (J < (ds ++ ms).length → okAt (ds ++ ms) J = false) ∧ namesB (ds ++ ms) = decide (J = (ds ++ ms).length) := by
    rcases names_first (ds ++ ms) with ⟨e1, e2⟩ | ⟨e1, j, hj, e2, e3⟩
    · exact ⟨_, Nat.le_refl _, e2, fun h => absurd h (Nat.lt_irrefl _), by rw [e1]; simp⟩
    · exact ⟨j, by omega, e3, fun _ => e2, by rw [e1]; exact (decide_eq_false (by omega)).symm⟩
  rw [hres]
  clear hres
  have HTA := hid ta; have HPRE := hid hpre; have HAT := hid hat
  obtain ⟨ss, hss⟩ : ∃ ss, ds ++ ms = ss := ⟨_, rfl⟩
  have HSS := hid hss
  rw [hss] at HPRE HAT HTA hJ ⊢
  obtain ⟨ad, cd, rfl, _, _, _⟩ := SlAt.shape hd
  obtain ⟨am, cm, rfl, _, _, _⟩ := SlAt.shape hm
  have hN : ss.length = ds.length + ms.length := by rw [← hss]; simp
  have HD : Hid (SlAt w (.slice ad ds.length cd) ds.length 1 (strsV ds)) := hid hd
  have HM : Hid (SlAt w (.slice am ms.length cm) ms.length 1 (strsV ms)) := hid hm
  clear hd hm ta hpre hat hss
  have hN10 : ss.length ≤ 10 := by omega
  obtain ⟨N, hNN⟩ : ∃ N, ss.length = N := ⟨_, rfl⟩
  rw [hNN] at HAT hJ hN hN10 ⊢
  have HN := hid hN; have HNN := hid hNN
  clear hN hNN
  generalize ds.length = nd at *
  generalize ms.length = nm at *
  go_enter Tryd.func20, Tryd.ntmps20
  go_wp2
  go_region_held3 (fun w' => w'.cell? ⟨w.heap.size, 0, none⟩ = some (.slice ad nd cd) ∧ w'.cell? ⟨w.heap.size, 1, none⟩ = some (.slice am nm cm)) (first | exact ⟨f0, f1⟩ | exact ⟨e0, e1⟩ | go_keep) ((first
    | (refine step_append_sl _ (by rfl) _ _ _ (by rfl) (w.heap.size + 1) 9 i0 (.string { data := #[] }) 1 16 Tryd.underlying22 hi hiz0 hiz1 hiz2 rfl (by decide) (.slice none 0 0) 0 [] (by rfl) (World.ownsRow_nil _ _ _ _) (.slice ad nd cd) nd (strsV ds) (by rfl) (SlAt.below HD.out (by (repeat' (first | (with_reducible exact Below.refl _ _) | (with_reducible assumption) | (with_reducible refine Below.new ?_ _) | (with_reducible refine Below.alloc ?_ ?_ _) | (with_reducible refine Below.drew ?_) | (with_reducible refine Below.drewN ?_ _) | (with_reducible refine Below.setCell ?_ ?_ _) | (refine Below.step ?_ (by assumption)) | go_size)))) (strs_one _) (by unfold maxLen; omega) (by omega) (by go_size) ?_; intro v1 w1 hown1 hgrow1 hb1; obtain ⟨e0, e1⟩ : w1.cell? ⟨w.heap.size, 0, none⟩ = some (.slice ad nd cd) ∧ w1.cell? ⟨w.heap.size, 1, none⟩ = some (.slice am nm cm) := ⟨own_far (World.ownsRow_nil _ (w.heap.size + 1) 9 1) hgrow1 (by omega) (by go_simp), own_far (World.ownsRow_nil _ (w.heap.size + 1) 9 1) hgrow1 (by omega) (by go_simp)⟩; have hB1 : Below w.heap.size w w1 := own_below (World.ownsRow_nil _ (w.heap.size + 1) 9 1) hgrow1 (by (repeat' (first | (with_reducible exact Below.refl _ _) | (with_reducible assumption) | (with_reducible refine Below.new ?_ _) | (with_reducible refine Below.alloc ?_ ?_ _) | (with_reducible refine Below.drew ?_) | (with_reducible refine Below.drewN ?_ _) | (with_reducible refine Below.setCell ?_ ?_ _) | (refine Below.step ?_ (by assumption)) | go_size))) (by omega))
    | (refine step_append_sl _ (by rfl) _ _ _ (by rfl) (w.heap.size + 1) 9 i0 (.string { data := #[] }) 1 16 Tryd.underlying22 hi hiz0 hiz1 hiz2 rfl (by decide) v1 (0 + nd) ([] ++ strsV ds) (by rfl) hown1 (.slice am nm cm) nm (strsV ms) (by rfl) (SlAt.below HM.out (by (repeat' (first | (with_reducible exact Below.refl _ _) | (with_reducible assumption) | (with_reducible refine Below.new ?_ _) | (with_reducible refine Below.alloc ?_ ?_ _) | (with_reducible refine Below.drew ?_) | (with_reducible refine Below.drewN ?_ _) | (with_reducible refine Below.setCell ?_ ?_ _) | (refine Below.step ?_ (by assumption)) | go_size)))) (strs_one _) (by unfold maxLen; omega) (by omega) (Nat.succ_le_of_lt (World.block_lt_of_cell? _ _ e0)) ?_; intro v2 w2 hown2 hgrow2 hb2; obtain ⟨f0, f1⟩ : w2.cell? ⟨w.heap.size, 0, none⟩ = some (.slice ad nd cd) ∧ w2.cell? ⟨w.heap.size, 1, none⟩ = some (.slice am nm cm) := ⟨own_far hown1 hgrow2 (by omega) (by go_simp), own_far hown1 hgrow2 (by omega) (by go_simp)⟩; have hB2 : Below w.heap.size w w2 := own_below hown1 hgrow2 (by (repeat' (first | (with_reducible exact Below.refl _ _) | (with_reducible assumption) | (with_reducible refine Below.new ?_ _) | (with_reducible refine Below.alloc ?_ ?_ _) | (with_reducible refine Below.drew ?_) | (with_reducible refine Below.drewN ?_ _) | (with_reducible refine Below.setCell ?_ ?_ _) | (refine Below.step ?_ (by assumption)) | go_size))) (by omega))))
  have hv2 : StrsSl w2 v2 ss := by
    rw [← HSS.out]
    refine StrsSl.own (base := w.heap.size + 1) (e := 9) (n := 0 + nd + nm) ?_
    simpa [strsV] using hown2
  obtain ⟨a2, c2, rfl, hc2, hc3, _⟩ := SlAt.shape hv2
  have HV := hid hv2
  clear hown1 hown2 hgrow1 hgrow2 hb1 hb2 hv2 hB1 e0 e1 f0 f1 HD HM
  rw [HNN.out] at hc2 ⊢
  go_wp2
  go_loopw [4] (fun i wr => ∃ k : Nat, k ≤ J ∧ i = .int .i64 k ∧ Below w2.heap.size w2 wr) (fun i _ => N - (intOf i).toNat)
  case atStart => exact ⟨0, Nat.zero_le _, rfl, Below.refl _ _⟩
  case round =>
    obtain ⟨k, hk, rfl, hbel⟩ := hrel
    by_cases hkN : k < N
    · have hlen : k < ss.length := by rw [HNN.out]; exact hkN
      obtain ⟨b, off, rfl, hcell⟩ := (SlAt.parts HV.out).2.2.2.2 (by simp; omega)
      have HC := hid (fun i (hi : i < ss.length) => hcell i (.string ss[i]) (by rw [List.getElem?_map, List.getElem?_eq_getElem hi]; rfl))
      clear hcell
      have hok : okAt ss k = (!seenB (ss.take k) ss[k] && nameB ss[k]) := by unfold okAt strAt; rw [List.getElem?_eq_getElem hlen]; rfl
      have hsz := HTA.out ss[k] (List.getElem_mem hlen)
      have ck := HC.out k hlen
      obtain ⟨s, hs⟩ : ∃ s, ss[k] = s := ⟨_, rfl⟩
      have HN2 := hid (fun W => refIsName_any ss[k] W hsz)
      rw [hs] at hok hsz ck HN2
      have HCK := hid ck; have HOK := hid hok; have HBEL := hid hbel
      clear ck hok hs hbel
      obtain ⟨W0, hW0⟩ : ∃ W0, wr = W0 := ⟨_, rfl⟩
      rw [hW0] at HBEL ⊢
      clear hW0
      rcases seen_or (ss.take k) s with ⟨hsb, hno⟩ | ⟨hsb, j, hj, hyes, hno⟩
      · have HNO := hid (fun i (hi : i < k) => (show (s.toList == (ss[i]'(Nat.lt_trans hi hlen)).toList) = false from by have := hno i (by simp; omega); simpa using this))
        clear hno
        have HSB := hid hsb
        clear hsb
        go_wp2
        go_loopw [5] (fun i wr => ∃ m : Nat, m ≤ k ∧ i = .int .i64 m ∧ Below w2.heap.size w2 wr) (fun i _ => k - (intOf i).toNat)
        case atStart => exact ⟨0, Nat.zero_le _, rfl, HBEL.out⟩
        case round =>
          obtain ⟨m, hm, rfl, hbel⟩ := hrel
          have c1 := cell_step HCK.out hbel
          have HB := hid hbel
          by_cases hmk : m < k
          · have c2 := cell_step (HC.out m (Nat.lt_trans hmk hlen)) hbel
            have heq := HNO.out m hmk
            obtain ⟨t, ht⟩ : ∃ t, ss[m]'(Nat.lt_trans hmk hlen) = t := ⟨_, rfl⟩
            rw [ht] at c2 heq
            clear ht hbel
            have g1 : (0 : Int) ≤ (m : Int) := Int.natCast_nonneg _
            have g2 : (m : Int) < (N : Int) := by omega
            have g3 : (0 : Int) ≤ (k : Int) := Int.natCast_nonneg _
            have g4 : (k : Int) < (N : Int) := by omega
            go_wp2
            go_quiet (fail)
            go_wp2
            go_roundw
            case rel => exact ⟨m + 1, hmk, by go_num, by have := HB.out; (repeat' (first | (with_reducible exact Below.refl _ _) | (with_reducible assumption) | (with_reducible refine Below.new ?_ _) | (with_reducible refine Below.alloc ?_ ?_ _) | (with_reducible refine Below.drew ?_) | (with_reducible refine Below.drewN ?_ _) | (with_reducible refine Below.setCell ?_ ?_ _) | (refine Below.step ?_ (by assumption)) | go_size))⟩
            case measure => simp [intOf]; omega
          · obtain rfl : m = k := by omega
            by_cases hkJ : m < J
            · have hnm : nameB s = true := by
                have h1 := HPRE.out m hkJ
                rw [HOK.out, HSB.out] at h1
                simpa using h1
              rw [hnm] at HN2
              clear hbel hnm
              go_wp2_with (go_at_call 38; ((with_reducible refine (HN2.out _).mono ?_); rintro e w4 ⟨rfl, hb4⟩))
              go_roundw
              case rel => exact ⟨m + 1, hkJ, by go_num, by have := HB.out; (repeat' (first | (with_reducible exact Below.refl _ _) | (with_reducible assumption) | (with_reducible refine Below.new ?_ _) | (with_reducible refine Below.alloc ?_ ?_ _) | (with_reducible refine Below.drew ?_) | (with_reducible refine Below.drewN ?_ _) | (with_reducible refine Below.setCell ?_ ?_ _) | (refine Below.step ?_ (by assumption)) | go_size))⟩
              case measure => simp [intOf]; omega
            · obtain rfl : m = J := by omega
              have hnm : nameB s = false := by
                have h1 := HAT.out hkN
                rw [HOK.out, HSB.out] at h1
                simpa using h1
              rw [hnm] at HN2
              clear hbel hnm
              have HD : Hid (decide (m = N) = false) := by unfold Hid; simp; omega
              go_wp2_with (go_at_call 38; ((with_reducible refine (HN2.out _).mono ?_); rintro e w4 ⟨rfl, hb4⟩))
              go_ret
              have := HB.out
              exact ⟨ret_bool (by rw [HD.out]), hB2.trans (Below.mono (B := w2.heap.size) (by (repeat' (first | (with_reducible exact Below.refl _ _) | (with_reducible assumption) | (with_reducible refine Below.new ?_ _) | (with_reducible refine Below.alloc ?_ ?_ _) | (with_reducible refine Below.drew ?_) | (with_reducible refine Below.drewN ?_ _) | (with_reducible refine Below.setCell ?_ ?_ _) | (refine Below.step ?_ (by assumption)) | go_size))) hB2.size)⟩
      · have hJk : k = J := by
          by_cases h : k < J
          · have h1 := HPRE.out k h
            rw [HOK.out, hsb] at h1
            simp at h1
          · omega
        have hjk : j < k := by simp at hj; omega
        have HNO := hid (fun i (hi : i < j) => (show (s.toList == (ss[i]'(Nat.lt_trans (Nat.lt_trans hi hjk) hlen)).toList) = false from by have := hno i hi; simpa using this))
        have hyes2 : (s.toList == (ss[j]'(Nat.lt_trans hjk hlen)).toList) = true := by simpa using hyes
        clear hno hsb hyes
        have HY := hid hyes2
        have HD : Hid (decide (J = N) = false) := by unfold Hid; simp; omega
        clear hyes2 hJk
        go_wp2
        go_loopw [5] (fun i wr => ∃ m : Nat, m ≤ j ∧ i = .int .i64 m ∧ Below w2.heap.size w2 wr) (fun i _ => k - (intOf i).toNat)
        case atStart => exact ⟨0, Nat.zero_le _, rfl, HBEL.out⟩
        case round =>
          obtain ⟨m, hm, rfl, hbel⟩ := hrel
          have c1 := cell_step HCK.out hbel
          have HB := hid hbel
          have c2 := cell_step (HC.out m (by omega)) hbel
          have g1 : (0 : Int) ≤ (m : Int) := Int.natCast_nonneg _
          have g2 : (m : Int) < (N : Int) := by omega
          have g3 : (0 : Int) ≤ (k : Int) := Int.natCast_nonneg _
          have g4 : (k : Int) < (N : Int) := by omega
          have g5 : m < k := by omega
          by_cases hmk : m < j
          · have heq := HNO.out m hmk
            obtain ⟨t, ht⟩ : ∃ t, ss[m]'(by omega) = t := ⟨_, rfl⟩
            rw [ht] at c2 heq
            clear ht hbel
            go_wp2
            go_quiet (fail)
            go_wp2
            go_roundw
            case rel => exact ⟨m + 1, hmk, by go_num, by have := HB.out; (repeat' (first | (with_reducible exact Below.refl _ _) | (with_reducible assumption) | (with_reducible refine Below.new ?_ _) | (with_reducible refine Below.alloc ?_ ?_ _) | (with_reducible refine Below.drew ?_) | (with_reducible refine Below.drewN ?_ _) | (with_reducible refine Below.setCell ?_ ?_ _) | (refine Below.step ?_ (by assumption)) | go_size))⟩
            case measure => simp [intOf]; omega
          · obtain rfl : m = j := by omega
            have heq := HY.out
            obtain ⟨t, ht⟩ : ∃ t, ss[m]'(by omega) = t := ⟨_, rfl⟩
            rw [ht] at c2 heq
            clear ht hbel
            go_wp2
            go_quiet (fail)
            go_wp2
            go_ret
            have := HB.out
            exact ⟨ret_bool (by rw [HD.out]), hB2.trans (Below.mono (B := w2.heap.size) (by (repeat' (first | (with_reducible exact Below.refl _ _) | (with_reducible assumption) | (with_reducible refine Below.new ?_ _) | (with_reducible refine Below.alloc ?_ ?_ _) | (with_reducible refine Below.drew ?_) | (with_reducible refine Below.drewN ?_ _) | (with_reducible refine Below.setCell ?_ ?_ _) | (refine Below.step ?_ (by assumption)) | go_size))) hB2.size)⟩
    · obtain rfl : k = N := by omega
      obtain rfl : k = J := by omega
      go_wp2
      go_ret
      exact ⟨ret_bool (by simp), hB2.trans (hbel.mono hB2.size)⟩

set_option maxHeartbeats 1000000 in
theorem refRight_any (vd vm : Value) (ds ms : List ByteArray) (g : Int) (w : World) (hd : StrsSl w vd ds) (hm : StrsSl w vm ms) (td : Texts ds) (tm : Texts ms) :
    Calls Tryd.prog 20 #[.agg #[vd, vm, .int .i64 g]] w fun e w' => e = .returned (.bool (rightS ds ms g)) ∧ Below w.heap.size w w' := by
  by_cases h1 : 1 ≤ ds.length ∧ ds.length ≤ 6 ∧ ms.length ≤ 4 ∧ 1 ≤ g ∧ g ≤ 1000000000
  · obtain ⟨h1, h2, h3, h4, h5⟩ := h1
    have hr : rightS ds ms g = namesB (ds ++ ms) := by simp [rightS, h1, h2, h3, h4, h5]
    rw [hr]
    exact refRight_mid vd vm ds ms g w hd hm td tm h1 h2 h3 h4 h5
  · have hr : rightS ds ms g = false := by simp [rightS]; omega
    rw [hr]
    have hcase : ds.length < 1 ∨ (1 ≤ ds.length ∧ 6 < ds.length) ∨ ((1 ≤ ds.length ∧ ds.length ≤ 6) ∧ 4 < ms.length) ∨ ((1 ≤ ds.length ∧ ds.length ≤ 6) ∧ ms.length ≤ 4 ∧ g < 1) ∨ ((1 ≤ ds.length ∧ ds.length ≤ 6) ∧ ms.length ≤ 4 ∧ 1 ≤ g ∧ 1000000000 < g) := by omega
    obtain ⟨td, _⟩ := td
    obtain ⟨tm, _⟩ := tm
    obtain ⟨ad, cd, rfl, _, _, _⟩ := SlAt.shape hd
    obtain ⟨am, cm, rfl, _, _, _⟩ := SlAt.shape hm
    clear hd hm hr h1
    generalize ds.length = nd at *
    generalize ms.length = nm at *
    rcases hcase with h | ⟨h1, h⟩ | ⟨⟨h1, h2⟩, h⟩ | ⟨⟨h1, h2⟩, h3, h⟩ | ⟨⟨h1, h2⟩, h3, h4, h⟩
    all_goals
      go_enter Tryd.func20, Tryd.ntmps20
      go_wp2
      go_ret
      exact ⟨rfl, by (repeat' (first | (with_reducible exact Below.refl _ _) | (with_reducible assumption) | (with_reducible refine Below.new ?_ _) | (with_reducible refine Below.alloc ?_ ?_ _) | (with_reducible refine Below.drew ?_) | (with_reducible refine Below.drewN ?_ _) | (with_reducible refine Below.setCell ?_ ?_ _) | (refine Below.step ?_ (by assumption)) | go_size))⟩
end Go.Proofs.YtdgeinipdphoeaaDoor
/- Schemas: are all values right? The program's ContainsFunc over them. -/
namespace Go.Proofs.YtdgeinipdphoeaaDoor
set_option linter.unusedVariables false
set_option linter.unusedSimpArgs false
set_option maxRecDepth 100000
open Go.ChangeShapes Go.WideShapes Go.ChangeAt Go.RowKit

def okV (v : ValD) : Bool := isValB v.s v.nl
theorem isOther_any (s : ByteArray) (hs : s.size ≤ 9223372036854775807) (nl : Bool) (w : World) : Calls Tryd.prog 30 #[.agg #[.string s, .bool nl]] w fun e w' => e = .returned (.bool (!isValB s nl)) ∧ Below w.heap.size w w' := by
  have HI := hid (fun W => isValue_any s hs nl W)
  generalize isValB s nl = b at HI ⊢
  go_enter Tryd.func30, Tryd.ntmps30
  go_wp2_with (go_at_call 31; ((with_reducible refine (HI.out _).mono ?_); rintro e w1 ⟨rfl, hb1⟩; obtain ⟨hc1, hf1, hk1, hz1⟩ := bcell3 hb1; (try simp only [World.size_alloc, World.size_drew] at hz1); have : w.heap.size < w1.heap.size := (by omega)))
  go_ret
  exact ⟨rfl, by (repeat' (first | (with_reducible exact Below.refl _ _) | (with_reducible assumption) | (with_reducible refine Below.new ?_ _) | (with_reducible refine Below.alloc ?_ ?_ _) | (with_reducible refine Below.drew ?_) | (with_reducible refine Below.drewN ?_ _) | (with_reducible refine Below.setCell ?_ ?_ _) | (refine Below.step ?_ (by assumption)) | go_size))⟩
/-- The first value that is not right, or none. -/
theorem firstV (l : List ValD) : (l.all okV = true ∧ ∀ i (hi : i < l.length), okV l[i] = true) ∨ (l.all okV = false ∧ ∃ j, ∃ hj : j < l.length, okV l[j] = false ∧ ∀ i (hi : i < j), okV (l[i]'(Nat.lt_trans hi hj)) = true) := by
  induction l with
  | nil => exact .inl ⟨rfl, fun i hi => absurd hi (Nat.not_lt_zero i)⟩
  | cons x xs ih =>
    by_cases hx : okV x = true
    · rcases ih with ⟨h1, h2⟩ | ⟨h1, j, h2, h3, h4⟩
      · refine .inl ⟨by simp [hx, h1], fun i hi => ?_⟩
        cases i with
        | zero => simpa using hx
        | succ i => simpa using h2 i (by simpa using hi)
      · refine .inr ⟨by simp [hx, h1], j + 1, by simpa using h2, by simpa using h3, fun i hi => ?_⟩
        cases i with
        | zero => simpa using hx
        | succ i => simpa using h4 i (by omega)
    · exact .inr ⟨by simp [hx], 0, by simp, by simpa using hx, fun i hi => absurd hi (Nat.not_lt_zero i)⟩
def Vals (l : List ValD) : Prop := l.length ≤ 1000000 ∧ ∀ v ∈ l, v.s.size ≤ 9223372036854775807

set_option maxHeartbeats 1000000 in
theorem idxV_any (v : Value) (l : List ValD) (w : World) (hv : ValsSl w v l) (hl : Vals l) (j : Nat) (hj : j ≤ l.length) (hpre : ∀ i (hi : i < j), okV (l[i]'(by omega)) = true) (hat : ∀ hj : j < l.length, okV l[j] = false) :
    Calls Tryd.prog 44 #[v, .func (.func 30) #[] #[]] w fun e w' => e = .returned (.int .i64 (if j < l.length then (j : Int) else -1)) ∧ Below w.heap.size w w' := by
  obtain ⟨ao, cap, rfl, h1, h2, h3, hA⟩ := ValsSl.parts hv
  have HA := hid hA; have HP := hid hpre; have HT := hid hat
  have HZ := hid (fun i (hi : i < l.length) => hl.2 l[i] (List.getElem_mem hi))
  obtain ⟨hl1, _⟩ := hl
  obtain ⟨L, hL⟩ : ∃ L, l.length = L := ⟨_, rfl⟩
  have HL := hid hL
  rw [hL] at hj hl1 h1 ⊢
  clear hA hpre hat hL h3 hv
  unfold maxLen at h2
  go_enter Tryd.func44, Tryd.ntmps44
  go_wp2
  go_loopw [8] (fun i wr => ∃ k : Nat, k ≤ j ∧ i = .int .i64 k ∧ Below w.heap.size w wr) (fun i _ => L - (intOf i).toNat)
  case atStart => exact ⟨0, Nat.zero_le _, rfl, Below.refl _ _⟩
  case round =>
    obtain ⟨k, hk, rfl, hbel⟩ := hrel
    by_cases hkL : k < L
    · obtain ⟨b, off, rfl, hc⟩ := HA.out (by rw [HL.out]; omega)
      obtain ⟨c1, c2⟩ := hc k (by rw [HL.out]; exact hkL)
      have d1 := cell_step c1 hbel
      have d2 := cell_step c2 hbel
      have hz := HZ.out k (by rw [HL.out]; exact hkL)
      have hok : okV (l[k]'(by rw [HL.out]; exact hkL)) = decide (k < j) := by
        by_cases h : k < j
        · rw [HP.out k h]; simp [h]
        · obtain rfl : k = j := by omega
          rw [HT.out]; simp
      unfold okV at hok
      have HI := hid (fun W => isOther_any (l[k]'(by rw [HL.out]; exact hkL)).s hz (l[k]'(by rw [HL.out]; exact hkL)).nl W)
      rw [hok] at HI
      generalize (l[k]'(by rw [HL.out]; exact hkL)).s = s at *
      generalize (l[k]'(by rw [HL.out]; exact hkL)).nl = nl at *
      have HB := hid hbel
      clear hc hok hz c1 c2 hbel
      by_cases hkj : k < j
      · have hd : decide (k < j) = true := by simp [hkj]
        rw [hd] at HI
        clear hd
        go_wp2_with (go_at_call 30; ((with_reducible refine (HI.out _).mono ?_); rintro e w2 ⟨rfl, hb2⟩))
        go_roundw
        case rel => exact ⟨k + 1, hkj, by go_num, by have := HB.out; (repeat' (first | (with_reducible exact Below.refl _ _) | (with_reducible assumption) | (with_reducible refine Below.new ?_ _) | (with_reducible refine Below.alloc ?_ ?_ _) | (with_reducible refine Below.drew ?_) | (with_reducible refine Below.drewN ?_ _) | (with_reducible refine Below.setCell ?_ ?_ _) | (refine Below.step ?_ (by assumption)) | go_size))⟩
        case measure => simp [intOf]; omega
      · have hd : decide (k < j) = false := by simp [hkj]
        rw [hd] at HI
        clear hd
        obtain rfl : k = j := by omega
        have HE : Hid ((if k < L then (k : Int) else -1) = (k : Int)) := if_pos hkL
        go_wp2_with (go_at_call 30; ((with_reducible refine (HI.out _).mono ?_); rintro e w2 ⟨rfl, hb2⟩))
        go_ret
        exact ⟨rfl, by have := HB.out; (repeat' (first | (with_reducible exact Below.refl _ _) | (with_reducible assumption) | (with_reducible refine Below.new ?_ _) | (with_reducible refine Below.alloc ?_ ?_ _) | (with_reducible refine Below.drew ?_) | (with_reducible refine Below.drewN ?_ _) | (with_reducible refine Below.setCell ?_ ?_ _) | (refine Below.step ?_ (by assumption)) | go_size))⟩
    · have HE : Hid ((if j < L then (j : Int) else -1) = -1) := if_neg (by omega)
      have HB := hid hbel
      clear hbel
      go_wp2
      go_ret
      exact ⟨rfl, by have := HB.out; (repeat' (first | (with_reducible exact Below.refl _ _) | (with_reducible assumption) | (with_reducible refine Below.new ?_ _) | (with_reducible refine Below.alloc ?_ ?_ _) | (with_reducible refine Below.drew ?_) | (with_reducible refine Below.drewN ?_ _) | (with_reducible refine Below.setCell ?_ ?_ _) | (refine Below.step ?_ (by assumption)) | go_size))⟩
theorem contV_any (v : Value) (l : List ValD) (w : World) (hv : ValsSl w v l) (hl : Vals l) :
    Calls Tryd.prog 32 #[v, .func (.func 30) #[] #[]] w fun e w' => e = .returned (.bool (!l.all okV)) ∧ Below w.heap.size w w' := by
  have H : ∃ r : Int, (!l.all okV) = decide (0 ≤ r) ∧ Calls Tryd.prog 44 #[v, .func (.func 30) #[] #[]] w fun e w' => e = .returned (.int .i64 r) ∧ Below w.heap.size w w' := by
    rcases firstV l with ⟨h1, h2⟩ | ⟨h1, j, h2, h3, h4⟩
    · refine ⟨-1, by rw [h1]; rfl, ?_⟩
      refine (idxV_any v l w hv hl l.length (Nat.le_refl _) (fun i hi => h2 i hi) (fun h => absurd h (Nat.lt_irrefl _))).mono fun e w' ⟨he, hw⟩ => ⟨?_, hw⟩
      rw [he, if_neg (Nat.lt_irrefl _)]
    · refine ⟨j, by rw [h1]; simp, ?_⟩
      refine (idxV_any v l w hv hl j (by omega) h4 (fun _ => h3)).mono fun e w' ⟨he, hw⟩ => ⟨?_, hw⟩
      rw [he, if_pos h2]
  obtain ⟨r, hr, hc⟩ := H
  rw [hr]
  have HC := hid hc
  clear hr hc hv
  go_enter Tryd.func32, Tryd.ntmps32
  go_wp2_with (go_at_call 44; ((with_reducible refine (HC.out).mono ?_); rintro e w2 ⟨rfl, hb2⟩))
  go_ret
  exact ⟨rfl, by (repeat' (first | (with_reducible exact Below.refl _ _) | (with_reducible assumption) | (with_reducible refine Below.new ?_ _) | (with_reducible refine Below.alloc ?_ ?_ _) | (with_reducible refine Below.drew ?_) | (with_reducible refine Below.drewN ?_ _) | (with_reducible refine Below.setCell ?_ ?_ _) | (refine Below.step ?_ (by assumption)) | go_size))⟩
end Go.Proofs.YtdgeinipdphoeaaDoor
/- Schemas: which rows fit, by the program and by the reference. -/
namespace Go.Proofs.YtdgeinipdphoeaaDoor
set_option linter.unusedVariables false
set_option linter.unusedSimpArgs false
set_option maxRecDepth 100000
open Go.ChangeShapes Go.WideShapes Go.ChangeAt Go.RowKit

/-- Does a row fit a schema? -/
def fitsS (ds ms : List ByteArray) (g t : Int) (l : List ValD) (n : Nat) : Bool :=
  rightS ds ms g && (decide (0 ≤ t ∧ t ≤ 1000000000000) && (decide (l.length = ds.length) && (decide (n = ms.length) && l.all okV)))

set_option maxHeartbeats 1000000 in
theorem fits_any (vd vm vr vn : Value) (ds ms : List ByteArray) (g t : Int) (l : List ValD) (n : Nat) (cs : List Value) (w : World) (hd : StrsSl w vd ds) (hm : StrsSl w vm ms) (td : Texts ds) (tm : Texts ms) (hr : ValsSl w vr l) (tr : Vals l) (hn : SlAt w vn n 1 cs) :
    Calls Tryd.prog 13 #[.agg #[vd, vm, .int .i64 g], .agg #[.int .i64 t, vr, vn]] w fun e w' => e = .returned (.bool (fitsS ds ms g t l n)) ∧ Below w.heap.size w w' := by
  have HR := hid (fun W (h : Below w.heap.size w W) => right_any vd vm ds ms g W (hd.below h) (hm.below h) td tm)
  have HC := hid (fun W (h : Below w.heap.size w W) => contV_any vr l W (hr.below h) tr)
  obtain ⟨ad, cd, rfl, _, _, _⟩ := SlAt.shape hd
  obtain ⟨am, cm, rfl, _, _, _⟩ := SlAt.shape hm
  obtain ⟨ar, cr, rfl, _, _, _⟩ := SlAt.shape hr
  obtain ⟨an, cn, rfl, _, hcn, _⟩ := SlAt.shape hn
  have td1 := td.1; have tm1 := tm.1; have tr1 := tr.1
  have hF : fitsS ds ms g t l n = (rightS ds ms g && (decide (0 ≤ t ∧ t ≤ 1000000000000) && (decide (l.length = ds.length) && (decide (n = ms.length) && l.all okV)))) := rfl
  rw [hF]
  clear hd hm hr hn hF td tm tr
  generalize ds.length = nd at *
  generalize ms.length = nm at *
  generalize l.length = nl at *
  generalize l.all okV = av at *
  generalize rightS ds ms g = rs at *
  cases rs with
  | false =>
    rw [Bool.false_and]
    go_enter Tryd.func13, Tryd.ntmps13
    go_wp2_with (go_at_call 14; ((with_reducible refine (HR.out _ (by (repeat' (first | (with_reducible exact Below.refl _ _) | (with_reducible assumption) | (with_reducible refine Below.new ?_ _) | (with_reducible refine Below.alloc ?_ ?_ _) | (with_reducible refine Below.drew ?_) | (with_reducible refine Below.drewN ?_ _) | (with_reducible refine Below.setCell ?_ ?_ _) | (refine Below.step ?_ (by assumption)) | go_size)))).mono ?_); rintro e w1 ⟨rfl, hb1⟩; obtain ⟨hc1, hf1, hk1, hz1⟩ := bcell3 hb1; (try simp only [World.size_alloc, World.size_drew] at hz1); have : w.heap.size < w1.heap.size := (by omega); have : w.heap.size + 1 < w1.heap.size := (by omega)))
    go_ret
    exact ⟨rfl, by (repeat' (first | (with_reducible exact Below.refl _ _) | (with_reducible assumption) | (with_reducible refine Below.new ?_ _) | (with_reducible refine Below.alloc ?_ ?_ _) | (with_reducible refine Below.drew ?_) | (with_reducible refine Below.drewN ?_ _) | (with_reducible refine Below.setCell ?_ ?_ _) | (refine Below.step ?_ (by assumption)) | go_size))⟩
  | true =>
    rw [Bool.true_and]
    by_cases h1 : 0 ≤ t
    · by_cases h2 : t ≤ 1000000000000
      · rw [decide_eq_true (show 0 ≤ t ∧ t ≤ 1000000000000 from ⟨h1, h2⟩), Bool.true_and]
        by_cases h3 : nl = nd
        · by_cases h4 : n = nm
          · rw [decide_eq_true h3, decide_eq_true h4, Bool.true_and, Bool.true_and]
            subst h3 h4
            go_enter Tryd.func13, Tryd.ntmps13
            go_wp2_with (first
              | (go_at_call 14; ((with_reducible refine (HR.out _ (by (repeat' (first | (with_reducible exact Below.refl _ _) | (with_reducible assumption) | (with_reducible refine Below.new ?_ _) | (with_reducible refine Below.alloc ?_ ?_ _) | (with_reducible refine Below.drew ?_) | (with_reducible refine Below.drewN ?_ _) | (with_reducible refine Below.setCell ?_ ?_ _) | (refine Below.step ?_ (by assumption)) | go_size)))).mono ?_); rintro e w1 ⟨rfl, hb1⟩; obtain ⟨hc1, hf1, hk1, hz1⟩ := bcell3 hb1; (try simp only [World.size_alloc, World.size_drew] at hz1); have : w.heap.size < w1.heap.size := (by omega); have : w.heap.size + 1 < w1.heap.size := (by omega)))
              | (go_at_call 32; ((with_reducible refine (HC.out _ (by (repeat' (first | (with_reducible exact Below.refl _ _) | (with_reducible assumption) | (with_reducible refine Below.new ?_ _) | (with_reducible refine Below.alloc ?_ ?_ _) | (with_reducible refine Below.drew ?_) | (with_reducible refine Below.drewN ?_ _) | (with_reducible refine Below.setCell ?_ ?_ _) | (refine Below.step ?_ (by assumption)) | go_size)))).mono ?_); rintro e w2 ⟨rfl, hb2⟩)))
            go_ret
            exact ⟨ret_bool (by simp), by (repeat' (first | (with_reducible exact Below.refl _ _) | (with_reducible assumption) | (with_reducible refine Below.new ?_ _) | (with_reducible refine Below.alloc ?_ ?_ _) | (with_reducible refine Below.drew ?_) | (with_reducible refine Below.drewN ?_ _) | (with_reducible refine Below.setCell ?_ ?_ _) | (refine Below.step ?_ (by assumption)) | go_size))⟩
          · rw [decide_eq_true h3, decide_eq_false h4, Bool.true_and, Bool.false_and]
            subst h3
            have hq : ((n : Int) == (nm : Int)) = false := by simp; omega
            clear h4
            go_enter Tryd.func13, Tryd.ntmps13
            go_wp2_with (go_at_call 14; ((with_reducible refine (HR.out _ (by (repeat' (first | (with_reducible exact Below.refl _ _) | (with_reducible assumption) | (with_reducible refine Below.new ?_ _) | (with_reducible refine Below.alloc ?_ ?_ _) | (with_reducible refine Below.drew ?_) | (with_reducible refine Below.drewN ?_ _) | (with_reducible refine Below.setCell ?_ ?_ _) | (refine Below.step ?_ (by assumption)) | go_size)))).mono ?_); rintro e w1 ⟨rfl, hb1⟩; obtain ⟨hc1, hf1, hk1, hz1⟩ := bcell3 hb1; (try simp only [World.size_alloc, World.size_drew] at hz1); have : w.heap.size < w1.heap.size := (by omega); have : w.heap.size + 1 < w1.heap.size := (by omega)))
            go_ret
            exact ⟨rfl, by (repeat' (first | (with_reducible exact Below.refl _ _) | (with_reducible assumption) | (with_reducible refine Below.new ?_ _) | (with_reducible refine Below.alloc ?_ ?_ _) | (with_reducible refine Below.drew ?_) | (with_reducible refine Below.drewN ?_ _) | (with_reducible refine Below.setCell ?_ ?_ _) | (refine Below.step ?_ (by assumption)) | go_size))⟩
        · rw [decide_eq_false h3, Bool.false_and]
          have hq : ((nl : Int) == (nd : Int)) = false := by simp; omega
          clear h3
          go_enter Tryd.func13, Tryd.ntmps13
          go_wp2_with (go_at_call 14; ((with_reducible refine (HR.out _ (by (repeat' (first | (with_reducible exact Below.refl _ _) | (with_reducible assumption) | (with_reducible refine Below.new ?_ _) | (with_reducible refine Below.alloc ?_ ?_ _) | (with_reducible refine Below.drew ?_) | (with_reducible refine Below.drewN ?_ _) | (with_reducible refine Below.setCell ?_ ?_ _) | (refine Below.step ?_ (by assumption)) | go_size)))).mono ?_); rintro e w1 ⟨rfl, hb1⟩; obtain ⟨hc1, hf1, hk1, hz1⟩ := bcell3 hb1; (try simp only [World.size_alloc, World.size_drew] at hz1); have : w.heap.size < w1.heap.size := (by omega); have : w.heap.size + 1 < w1.heap.size := (by omega)))
          go_ret
          exact ⟨rfl, by (repeat' (first | (with_reducible exact Below.refl _ _) | (with_reducible assumption) | (with_reducible refine Below.new ?_ _) | (with_reducible refine Below.alloc ?_ ?_ _) | (with_reducible refine Below.drew ?_) | (with_reducible refine Below.drewN ?_ _) | (with_reducible refine Below.setCell ?_ ?_ _) | (refine Below.step ?_ (by assumption)) | go_size))⟩
      · rw [decide_eq_false (show ¬ (0 ≤ t ∧ t ≤ 1000000000000) from by omega), Bool.false_and]
        go_enter Tryd.func13, Tryd.ntmps13
        go_wp2_with (go_at_call 14; ((with_reducible refine (HR.out _ (by (repeat' (first | (with_reducible exact Below.refl _ _) | (with_reducible assumption) | (with_reducible refine Below.new ?_ _) | (with_reducible refine Below.alloc ?_ ?_ _) | (with_reducible refine Below.drew ?_) | (with_reducible refine Below.drewN ?_ _) | (with_reducible refine Below.setCell ?_ ?_ _) | (refine Below.step ?_ (by assumption)) | go_size)))).mono ?_); rintro e w1 ⟨rfl, hb1⟩; obtain ⟨hc1, hf1, hk1, hz1⟩ := bcell3 hb1; (try simp only [World.size_alloc, World.size_drew] at hz1); have : w.heap.size < w1.heap.size := (by omega); have : w.heap.size + 1 < w1.heap.size := (by omega)))
        go_ret
        exact ⟨rfl, by (repeat' (first | (with_reducible exact Below.refl _ _) | (with_reducible assumption) | (with_reducible refine Below.new ?_ _) | (with_reducible refine Below.alloc ?_ ?_ _) | (with_reducible refine Below.drew ?_) | (with_reducible refine Below.drewN ?_ _) | (with_reducible refine Below.setCell ?_ ?_ _) | (refine Below.step ?_ (by assumption)) | go_size))⟩
    · rw [decide_eq_false (show ¬ (0 ≤ t ∧ t ≤ 1000000000000) from by omega), Bool.false_and]
      go_enter Tryd.func13, Tryd.ntmps13
      go_wp2_with (go_at_call 14; ((with_reducible refine (HR.out _ (by (repeat' (first | (with_reducible exact Below.refl _ _) | (with_reducible assumption) | (with_reducible refine Below.new ?_ _) | (with_reducible refine Below.alloc ?_ ?_ _) | (with_reducible refine Below.drew ?_) | (with_reducible refine Below.drewN ?_ _) | (with_reducible refine Below.setCell ?_ ?_ _) | (refine Below.step ?_ (by assumption)) | go_size)))).mono ?_); rintro e w1 ⟨rfl, hb1⟩; obtain ⟨hc1, hf1, hk1, hz1⟩ := bcell3 hb1; (try simp only [World.size_alloc, World.size_drew] at hz1); have : w.heap.size < w1.heap.size := (by omega); have : w.heap.size + 1 < w1.heap.size := (by omega)))
      go_ret
      exact ⟨rfl, by (repeat' (first | (with_reducible exact Below.refl _ _) | (with_reducible assumption) | (with_reducible refine Below.new ?_ _) | (with_reducible refine Below.alloc ?_ ?_ _) | (with_reducible refine Below.drew ?_) | (with_reducible refine Below.drewN ?_ _) | (with_reducible refine Below.setCell ?_ ?_ _) | (refine Below.step ?_ (by assumption)) | go_size))⟩
end Go.Proofs.YtdgeinipdphoeaaDoor
/- Schemas: the places of names, by the program and by the reference. -/
namespace Go.Proofs.YtdgeinipdphoeaaDoor
set_option linter.unusedVariables false
set_option linter.unusedSimpArgs false
set_option maxRecDepth 100000
open Go.ChangeShapes Go.WideShapes Go.ChangeAt Go.RowKit

/-- A name's place, if the schema is right. -/
def placeI (rs : Bool) (r : Int) : Int := if rs = true ∧ 0 ≤ r then r else 0
def placeB (rs : Bool) (r : Int) : Bool := rs && decide (0 ≤ r)

end Go.Proofs.YtdgeinipdphoeaaDoor
/- Schemas: the reference's 'Dim', 'Metric', 'Fits'. -/
namespace Go.Proofs.YtdgeinipdphoeaaDoor
set_option linter.unusedVariables false
set_option linter.unusedSimpArgs false
set_option maxRecDepth 100000
open Go.ChangeShapes Go.WideShapes Go.ChangeAt Go.RowKit

theorem placeI_false (r : Int) : placeI false r = 0 := by simp [placeI]
theorem placeB_false (r : Int) : placeB false r = false := by simp [placeB]

set_option maxHeartbeats 2000000 in
theorem refFits_any (vd vm vr vn : Value) (ds ms : List ByteArray) (g t : Int) (l : List ValD) (n : Nat) (cs : List Value) (w : World) (hd : StrsSl w vd ds) (hm : StrsSl w vm ms) (td : Texts ds) (tm : Texts ms) (hr : ValsSl w vr l) (tr : Vals l) (hn : SlAt w vn n 1 cs) :
    Calls Tryd.prog 21 #[.agg #[vd, vm, .int .i64 g], .agg #[.int .i64 t, vr, vn]] w fun e w' => e = .returned (.bool (fitsS ds ms g t l n)) ∧ Below w.heap.size w w' := by
  have HR := hid (fun W (h : Below w.heap.size w W) => refRight_any vd vm ds ms g W (hd.below h) (hm.below h) td tm)
  obtain ⟨ad, cd, rfl, _, _, _⟩ := SlAt.shape hd
  obtain ⟨am, cm, rfl, _, _, _⟩ := SlAt.shape hm
  obtain ⟨ar, cr, rfl, hcr, hcr2, _⟩ := SlAt.shape hr
  obtain ⟨an, cn, rfl, _, hcn, _⟩ := SlAt.shape hn
  have td1 := td.1; have tm1 := tm.1; have tr1 := tr.1
  obtain ⟨J, hJ, hpre, hat, hall⟩ : ∃ J, J ≤ l.length ∧ (∀ i (hi : i < l.length), i < J → okV l[i] = true) ∧ (∀ hj : J < l.length, okV l[J] = false) ∧ l.all okV = decide (J = l.length) := by
    rcases firstV l with ⟨h1, h2⟩ | ⟨h1, j, hj, h2, h3⟩
    · exact ⟨l.length, Nat.le_refl _, fun i hi _ => h2 i hi, fun h => absurd h (Nat.lt_irrefl _), by rw [h1]; simp⟩
    · exact ⟨j, by omega, fun i _ hi => h3 i hi, fun _ => h2, by rw [h1]; exact (decide_eq_false (by omega)).symm⟩
  have hF : fitsS ds ms g t l n = (rightS ds ms g && (decide (0 ≤ t ∧ t ≤ 1000000000000) && (decide (l.length = ds.length) && (decide (n = ms.length) && decide (J = l.length))))) := by rw [← hall]; rfl
  rw [hF]
  obtain ⟨_, _, _, _, hA⟩ := ValsSl.parts hr
  have HA := hid (ValsSl.parts hr)
  have HP := hid hpre; have HT := hid hat
  have HZ := hid (fun i (hi : i < l.length) => tr.2 l[i] (List.getElem_mem hi))
  clear hd hm hr hn hF td tm tr hall hpre hat hA
  obtain ⟨nl, hnl⟩ : ∃ nl, l.length = nl := ⟨_, rfl⟩
  have HL := hid hnl
  rw [hnl] at hJ tr1 hcr ⊢
  clear hnl
  generalize ds.length = nd at *
  generalize ms.length = nm at *
  generalize rightS ds ms g = rs at *
  cases rs with
  | false =>
    rw [Bool.false_and]
    go_enter Tryd.func21, Tryd.ntmps21
    go_wp2_with (go_at_call 20; ((with_reducible refine (HR.out _ (by (repeat' (first | (with_reducible exact Below.refl _ _) | (with_reducible assumption) | (with_reducible refine Below.new ?_ _) | (with_reducible refine Below.alloc ?_ ?_ _) | (with_reducible refine Below.drew ?_) | (with_reducible refine Below.drewN ?_ _) | (with_reducible refine Below.setCell ?_ ?_ _) | (refine Below.step ?_ (by assumption)) | go_size)))).mono ?_); rintro e w1 ⟨rfl, hb1⟩; obtain ⟨hc1, hf1, hk1, hz1⟩ := bcell3 hb1; (try simp only [World.size_alloc, World.size_drew] at hz1); have : w.heap.size < w1.heap.size := (by omega); have : w.heap.size + 1 < w1.heap.size := (by omega)))
    go_ret
    exact ⟨rfl, by (repeat' (first | (with_reducible exact Below.refl _ _) | (with_reducible assumption) | (with_reducible refine Below.new ?_ _) | (with_reducible refine Below.alloc ?_ ?_ _) | (with_reducible refine Below.drew ?_) | (with_reducible refine Below.drewN ?_ _) | (with_reducible refine Below.setCell ?_ ?_ _) | (refine Below.step ?_ (by assumption)) | go_size))⟩
  | true =>
    rw [Bool.true_and]
    by_cases h1 : 0 ≤ t
    · by_cases h2 : t ≤ 1000000000000
      · rw [decide_eq_true (show 0 ≤ t ∧ t ≤ 1000000000000 from ⟨h1, h2⟩), Bool.true_and]
        by_cases h3 : nl = nd
        · by_cases h4 : n = nm
          · rw [decide_eq_true h3, decide_eq_true h4, Bool.true_and, Bool.true_and]
            subst h3 h4
            go_enter Tryd.func21, Tryd.ntmps21
            go_wp2_with (go_at_call 20; ((with_reducible refine (HR.out _ (by (repeat' (first | (with_reducible exact Below.refl _ _) | (with_reducible assumption) | (with_reducible refine Below.new ?_ _) | (with_reducible refine Below.alloc ?_ ?_ _) | (with_reducible refine Below.drew ?_) | (with_reducible refine Below.drewN ?_ _) | (with_reducible refine Below.setCell ?_ ?_ _) | (refine Below.step ?_ (by assumption)) | go_size)))).mono ?_); rintro e w1 ⟨rfl, hb1⟩; obtain ⟨hc1, hf1, hk1, hz1⟩ := bcell3 hb1; (try simp only [World.size_alloc, World.size_drew] at hz1); have : w.heap.size < w1.heap.size := (by omega); have : w.heap.size + 1 < w1.heap.size := (by omega)))
            have hB1 : Below w.heap.size w w1 := by (repeat' (first | (with_reducible exact Below.refl _ _) | (with_reducible assumption) | (with_reducible refine Below.new ?_ _) | (with_reducible refine Below.alloc ?_ ?_ _) | (with_reducible refine Below.drew ?_) | (with_reducible refine Below.drewN ?_ _) | (with_reducible refine Below.setCell ?_ ?_ _) | (refine Below.step ?_ (by assumption)) | go_size))
            have q0 : w1.cell? ⟨w.heap.size + 1, 1, none⟩ = some (.slice ar nl cr) := by go_simp
            clear hc1 hf1 hk1 hz1
            have HB1 := hid hB1
            clear hB1
            go_loopw [5] (fun i wr => ∃ k : Nat, k ≤ J ∧ i = .int .i64 k ∧ Below w1.heap.size w1 wr) (fun i _ => nl - (intOf i).toNat)
            case atStart => exact ⟨0, Nat.zero_le _, rfl, Below.refl _ _⟩
            case round =>
              obtain ⟨k, hk, rfl, hbel⟩ := hrel
              have q1 := cell_step q0 hbel
              by_cases hkL : k < nl
              · have hlen : k < l.length := by rw [HL.out]; exact hkL
                obtain ⟨ao, cap, e, _, _, _, hall⟩ := HA.out
                simp only [Value.slice.injEq] at e
                obtain ⟨rfl, _, rfl⟩ := e
                obtain ⟨b, off, rfl, hc⟩ := hall (by omega)
                obtain ⟨c1, c2⟩ := hc k hlen
                have hBw := HB1.out.trans (hbel.mono HB1.out.size)
                have d1 := cell_step c1 hBw
                have d2 := cell_step c2 hBw
                have hz := HZ.out k hlen
                have hok : okV l[k] = decide (k < J) := by
                  by_cases h : k < J
                  · rw [HP.out k hlen h]; simp [h]
                  · obtain rfl : k = J := by omega
                    rw [HT.out hlen]; simp
                unfold okV at hok
                have HI := hid (fun W => refValue_any l[k].s hz l[k].nl W)
                rw [hok] at HI
                have HB := hid hBw
                clear hok hz hc c1 c2 hBw hall
                generalize l[k].s = s at *
                generalize l[k].nl = bl at *
                have HB2 := hid hbel
                clear hbel
                by_cases hkj : k < J
                · have hd : decide (k < J) = true := by simp [hkj]
                  rw [hd] at HI
                  clear hd
                  go_wp2_with (go_at_call 39; ((with_reducible refine (HI.out _).mono ?_); rintro e w2 ⟨rfl, hb2⟩))
                  go_roundw
                  case rel => exact ⟨k + 1, hkj, by go_num, by have := HB2.out; (repeat' (first | (with_reducible exact Below.refl _ _) | (with_reducible assumption) | (with_reducible refine Below.new ?_ _) | (with_reducible refine Below.alloc ?_ ?_ _) | (with_reducible refine Below.drew ?_) | (with_reducible refine Below.drewN ?_ _) | (with_reducible refine Below.setCell ?_ ?_ _) | (refine Below.step ?_ (by assumption)) | go_size))⟩
                  case measure => simp [intOf]; omega
                · have hd : decide (k < J) = false := by simp [hkj]
                  rw [hd] at HI
                  clear hd
                  obtain rfl : k = J := by omega
                  have HE : Hid (decide (k = nl) = false) := decide_eq_false (by omega)
                  go_wp2_with (go_at_call 39; ((with_reducible refine (HI.out _).mono ?_); rintro e w2 ⟨rfl, hb2⟩))
                  go_ret
                  exact ⟨by first | rfl | (rw [HE.out]; rfl), by have := HB.out; (repeat' (first | (with_reducible exact Below.refl _ _) | (with_reducible assumption) | (with_reducible refine Below.new ?_ _) | (with_reducible refine Below.alloc ?_ ?_ _) | (with_reducible refine Below.drew ?_) | (with_reducible refine Below.drewN ?_ _) | (with_reducible refine Below.setCell ?_ ?_ _) | (refine Below.step ?_ (by assumption)) | go_size))⟩
              · have HE : Hid (decide (J = nl) = true) := decide_eq_true (by omega)
                have HB := hid (HB1.out.trans (hbel.mono HB1.out.size))
                clear hbel
                go_wp2
                go_ret
                exact ⟨by first | rfl | (rw [HE.out]; rfl), by have := HB.out; (repeat' (first | (with_reducible exact Below.refl _ _) | (with_reducible assumption) | (with_reducible refine Below.new ?_ _) | (with_reducible refine Below.alloc ?_ ?_ _) | (with_reducible refine Below.drew ?_) | (with_reducible refine Below.drewN ?_ _) | (with_reducible refine Below.setCell ?_ ?_ _) | (refine Below.step ?_ (by assumption)) | go_size))⟩
          · rw [decide_eq_true h3, decide_eq_false h4, Bool.true_and, Bool.false_and]
            subst h3
            have hq : ((n : Int) != (nm : Int)) = true := by simp; omega
            clear h4
            go_enter Tryd.func21, Tryd.ntmps21
            go_wp2_with (go_at_call 20; ((with_reducible refine (HR.out _ (by (repeat' (first | (with_reducible exact Below.refl _ _) | (with_reducible assumption) | (with_reducible refine Below.new ?_ _) | (with_reducible refine Below.alloc ?_ ?_ _) | (with_reducible refine Below.drew ?_) | (with_reducible refine Below.drewN ?_ _) | (with_reducible refine Below.setCell ?_ ?_ _) | (refine Below.step ?_ (by assumption)) | go_size)))).mono ?_); rintro e w1 ⟨rfl, hb1⟩; obtain ⟨hc1, hf1, hk1, hz1⟩ := bcell3 hb1; (try simp only [World.size_alloc, World.size_drew] at hz1); have : w.heap.size < w1.heap.size := (by omega); have : w.heap.size + 1 < w1.heap.size := (by omega)))
            go_ret
            exact ⟨rfl, by (repeat' (first | (with_reducible exact Below.refl _ _) | (with_reducible assumption) | (with_reducible refine Below.new ?_ _) | (with_reducible refine Below.alloc ?_ ?_ _) | (with_reducible refine Below.drew ?_) | (with_reducible refine Below.drewN ?_ _) | (with_reducible refine Below.setCell ?_ ?_ _) | (refine Below.step ?_ (by assumption)) | go_size))⟩
        · rw [decide_eq_false h3, Bool.false_and]
          have hq : ((nl : Int) != (nd : Int)) = true := by simp; omega
          clear h3
          go_enter Tryd.func21, Tryd.ntmps21
          go_wp2_with (go_at_call 20; ((with_reducible refine (HR.out _ (by (repeat' (first | (with_reducible exact Below.refl _ _) | (with_reducible assumption) | (with_reducible refine Below.new ?_ _) | (with_reducible refine Below.alloc ?_ ?_ _) | (with_reducible refine Below.drew ?_) | (with_reducible refine Below.drewN ?_ _) | (with_reducible refine Below.setCell ?_ ?_ _) | (refine Below.step ?_ (by assumption)) | go_size)))).mono ?_); rintro e w1 ⟨rfl, hb1⟩; obtain ⟨hc1, hf1, hk1, hz1⟩ := bcell3 hb1; (try simp only [World.size_alloc, World.size_drew] at hz1); have : w.heap.size < w1.heap.size := (by omega); have : w.heap.size + 1 < w1.heap.size := (by omega)))
          go_ret
          exact ⟨rfl, by (repeat' (first | (with_reducible exact Below.refl _ _) | (with_reducible assumption) | (with_reducible refine Below.new ?_ _) | (with_reducible refine Below.alloc ?_ ?_ _) | (with_reducible refine Below.drew ?_) | (with_reducible refine Below.drewN ?_ _) | (with_reducible refine Below.setCell ?_ ?_ _) | (refine Below.step ?_ (by assumption)) | go_size))⟩
      · rw [decide_eq_false (show ¬ (0 ≤ t ∧ t ≤ 1000000000000) from by omega), Bool.false_and]
        go_enter Tryd.func21, Tryd.ntmps21
        go_wp2_with (go_at_call 20; ((with_reducible refine (HR.out _ (by (repeat' (first | (with_reducible exact Below.refl _ _) | (with_reducible assumption) | (with_reducible refine Below.new ?_ _) | (with_reducible refine Below.alloc ?_ ?_ _) | (with_reducible refine Below.drew ?_) | (with_reducible refine Below.drewN ?_ _) | (with_reducible refine Below.setCell ?_ ?_ _) | (refine Below.step ?_ (by assumption)) | go_size)))).mono ?_); rintro e w1 ⟨rfl, hb1⟩; obtain ⟨hc1, hf1, hk1, hz1⟩ := bcell3 hb1; (try simp only [World.size_alloc, World.size_drew] at hz1); have : w.heap.size < w1.heap.size := (by omega); have : w.heap.size + 1 < w1.heap.size := (by omega)))
        go_ret
        exact ⟨rfl, by (repeat' (first | (with_reducible exact Below.refl _ _) | (with_reducible assumption) | (with_reducible refine Below.new ?_ _) | (with_reducible refine Below.alloc ?_ ?_ _) | (with_reducible refine Below.drew ?_) | (with_reducible refine Below.drewN ?_ _) | (with_reducible refine Below.setCell ?_ ?_ _) | (refine Below.step ?_ (by assumption)) | go_size))⟩
    · rw [decide_eq_false (show ¬ (0 ≤ t ∧ t ≤ 1000000000000) from by omega), Bool.false_and]
      go_enter Tryd.func21, Tryd.ntmps21
      go_wp2_with (go_at_call 20; ((with_reducible refine (HR.out _ (by (repeat' (first | (with_reducible exact Below.refl _ _) | (with_reducible assumption) | (with_reducible refine Below.new ?_ _) | (with_reducible refine Below.alloc ?_ ?_ _) | (with_reducible refine Below.drew ?_) | (with_reducible refine Below.drewN ?_ _) | (with_reducible refine Below.setCell ?_ ?_ _) | (refine Below.step ?_ (by assumption)) | go_size)))).mono ?_); rintro e w1 ⟨rfl, hb1⟩; obtain ⟨hc1, hf1, hk1, hz1⟩ := bcell3 hb1; (try simp only [World.size_alloc, World.size_drew] at hz1); have : w.heap.size < w1.heap.size := (by omega); have : w.heap.size + 1 < w1.heap.size := (by omega)))
      go_ret
      exact ⟨rfl, by (repeat' (first | (with_reducible exact Below.refl _ _) | (with_reducible assumption) | (with_reducible refine Below.new ?_ _) | (with_reducible refine Below.alloc ?_ ?_ _) | (with_reducible refine Below.drew ?_) | (with_reducible refine Below.drewN ?_ _) | (with_reducible refine Below.setCell ?_ ?_ _) | (refine Below.step ?_ (by assumption)) | go_size))⟩
end Go.Proofs.YtdgeinipdphoeaaDoor
