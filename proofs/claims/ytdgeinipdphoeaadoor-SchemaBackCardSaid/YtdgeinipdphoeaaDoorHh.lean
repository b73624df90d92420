/- Texts joined: SciP, SchZ, VarM, VarL, SciB. -/
import Derived.Test.YtdgeinipdphoeaaDoorHg
import Derived.Test.YtdgeinipdphoeaaDoorHf
import Derived.Test.YtdgeinipdphoeaaDoorHc
import Derived.Test.YtdgeinipdphoeaaDoorHe
/- A row and its bytes are one to one: the plain law. -/
namespace Go.Proofs.YtdgeinipdphoeaaDoor
set_option linter.unusedVariables false
set_option linter.unusedSimpArgs false

theorem numV_put {most n : Nat} (hn : n ≤ most) (h64 : n ≤ 18446744073709551615) (r : List UInt8) : numV most (putB n ++ r) = (0, n, (putB n).length) := by
  unfold numV
  rw [nextV_putB h64]
  simp
  omega
theorem numV_ok {most : Nat} {l : List UInt8} {n k : Nat} (h : numV most l = (0, n, k)) : l = putB n ++ l.drop k ∧ n ≤ most ∧ n ≤ 18446744073709551615 ∧ k = (putB n).length := by
  have hle := numV_le h
  obtain ⟨c, m, j, hx⟩ : ∃ c m j, nextV l = (c, m, j) := ⟨_, _, _, rfl⟩
  unfold numV at h
  rw [hx] at h
  by_cases hc : c = 0
  · subst hc
    by_cases hm : most < m
    · simp [hm] at h
    · simp [hm] at h
      obtain ⟨rfl, rfl⟩ := h
      obtain ⟨h1, h2, h3⟩ := nextV_ok hx
      exact ⟨h1, hle, h2, h3⟩
  · simp [hc] at h
theorem sx_take (t : ByteArray) (m : Nat) : bytesOf (t.extract 0 m) = (bytesOf t).take m := by
  show (t.extract 0 m).data.toList = t.data.toList.take m
  simp
theorem bo_len (s : ByteArray) : (bytesOf s).length = s.size := by simp [bytesOf]
theorem noV_of {s : ByteArray} (h : s.size = 0) : s = noV := by
  apply sx_inj
  exact List.eq_nil_of_length_eq_zero (by rw [bo_len]; exact h)
theorem readV_valE {v : ValD} (hv : okV v = true) {s : ByteArray} {r : List UInt8} (h : bytesOf s = valE v ++ r) : readV s = (0, v, (valE v).length) := by
  obtain ⟨h1, h2⟩ := okV_is hv
  obtain ⟨x, nl⟩ := v
  unfold valE at h ⊢
  dsimp only at h h1 h2 ⊢
  have hlen := congrArg List.length h
  rw [bo_len] at hlen
  simp only [List.length_append] at hlen
  have hxl : x.data.toList.length = x.size := bo_len x
  cases nl with
  | true =>
    have h0 := h2 rfl
    obtain rfl := noV_of h0
    simp only [if_true] at h ⊢
    rw [List.append_assoc] at h
    unfold readV
    rw [h, numV_put (by decide) (by decide)]
    simp
  | false =>
    simp only [Bool.false_eq_true, if_false] at h hlen ⊢
    rw [List.append_assoc] at h
    unfold readV
    rw [h, numV_put (by omega) (by omega)]
    simp only [ne_eq, not_true_eq_false, if_false]
    rw [if_neg (by omega), if_neg (by omega), Nat.add_sub_cancel]
    have e : (s.extract (putB (x.size + 1)).length s.size).extract 0 x.size = x := by
      apply sx_inj
      show ((s.extract (putB (x.size + 1)).length s.size).extract 0 x.size).data.toList = x.data.toList
      have e1 := sx_take (s.extract (putB (x.size + 1)).length s.size) x.size
      unfold bytesOf at e1
      change _ = (bytesOf (s.extract (putB (x.size + 1)).length s.size)).take x.size at e1
      rw [e1, sx_extract, h, List.drop_left, List.take_left' hxl]
    rw [e, List.length_append, hxl]
theorem readV_ok {s : ByteArray} {v : ValD} {k : Nat} (h : readV s = (0, v, k)) : bytesOf s = valE v ++ (bytesOf s).drop k ∧ okV v = true := by
  obtain ⟨c, n, j, hx⟩ : ∃ c n j, numV 101 (bytesOf s) = (c, n, j) := ⟨_, _, _, rfl⟩
  unfold readV at h
  rw [hx] at h
  by_cases hc : c = 0
  · subst hc
    obtain ⟨h1, h2, _, h4⟩ := numV_ok hx
    cases n with
    | zero =>
      simp at h
      obtain ⟨rfl, rfl⟩ := h
      refine ⟨?_, rfl⟩
      unfold valE
      simp only [if_true]
      simp only [show (noV.data.toList : List UInt8) = [] from rfl, List.append_nil]
      exact h1
    | succ m =>
      by_cases hm : s.size - j < m
      · simp [hm] at h
      · simp [hm] at h
        obtain ⟨rfl, rfl⟩ := h
        have hz : ((s.extract j s.size).extract 0 m).size = m := by simp; omega
        refine ⟨?_, ?_⟩
        · unfold valE
          dsimp only
          simp only [Bool.false_eq_true, if_false]
          rw [hz]
          have e1 : ((s.extract j s.size).extract 0 m).data.toList = ((bytesOf s).drop j).take m := by
            rw [← sx_extract]
            exact sx_take (s.extract j s.size) m
          rw [e1, List.append_assoc, ← List.drop_drop, List.take_append_drop]
          exact h1
        · unfold okV isValB
          simp [hz]
          omega
  · simp [hc] at h

theorem valsF_enc : ∀ (l : List ValD) (s : ByteArray) (r : List UInt8), (∀ v ∈ l, okV v = true) → bytesOf s = l.flatMap valE ++ r → ∃ s', valsF l.length s = (0, l, s') ∧ bytesOf s' = r
  | [], s, r, _, h => ⟨s, rfl, by simpa using h⟩
  | v :: l, s, r, hv, h => by
    rw [List.flatMap_cons, List.append_assoc] at h
    have hr := readV_valE (hv v (by simp)) h
    obtain ⟨s', h1, h2⟩ := valsF_enc l (s.extract (valE v).length s.size) r (fun x hx => hv x (by simp [hx])) (by rw [sx_extract, h, List.drop_left])
    refine ⟨s', ?_, h2⟩
    rw [List.length_cons, valsF, hr]
    simp only [ne_eq, not_true_eq_false, if_false]
    rw [h1]
theorem valsF_dec : ∀ (n : Nat) (s : ByteArray) (l : List ValD) (s' : ByteArray), valsF n s = (0, l, s') → l.length = n ∧ bytesOf s = l.flatMap valE ++ bytesOf s' ∧ ∀ v ∈ l, okV v = true
  | 0, s, l, s', h => by
    simp [valsF] at h
    obtain ⟨rfl, rfl⟩ := h
    simp
  | n + 1, s, l, s', h => by
    obtain ⟨c, v, k, hx⟩ : ∃ c v k, readV s = (c, v, k) := ⟨_, _, _, rfl⟩
    rw [valsF, hx] at h
    by_cases hc : c = 0
    · subst hc
      simp only [ne_eq, not_true_eq_false, if_false, Prod.mk.injEq] at h
      obtain ⟨e1, e2, e3⟩ := h
      obtain ⟨h1, h2⟩ := readV_ok hx
      obtain ⟨g1, g2, g3⟩ := valsF_dec n (s.extract k s.size) _ s' (Prod.ext e1 (Prod.ext rfl e3))
      subst e2
      refine ⟨by rw [List.length_cons, g1], ?_, ?_⟩
      · rw [List.flatMap_cons, List.append_assoc, ← g2, sx_extract]
        exact h1
      · intro x hx
        rcases List.mem_cons.1 hx with rfl | hx
        · exact h2
        · exact g3 x hx
    · simp [hc] at h
theorem numsF_enc : ∀ (l : List Int) (s : ByteArray) (r : List UInt8), Nums64 l → bytesOf s = l.flatMap numE ++ r → ∃ s', numsF l.length s = (0, l, s') ∧ bytesOf s' = r
  | [], s, r, _, h => ⟨s, rfl, by simpa using h⟩
  | x :: l, s, r, hv, h => by
    rw [List.flatMap_cons, List.append_assoc] at h
    have ht := turnV_is (hv x (by simp))
    have hr : numV 18446744073709551615 (bytesOf s) = (0, (turnV x).toNat, (numE x).length) := by
      rw [h]; exact numV_put (by omega) (by omega) _
    obtain ⟨s', h1, h2⟩ := numsF_enc l (s.extract (numE x).length s.size) r (fun x hx => hv x (by simp [hx])) (by rw [sx_extract, h, List.drop_left])
    refine ⟨s', ?_, h2⟩
    rw [List.length_cons, numsF, hr]
    simp only [ne_eq, not_true_eq_false, if_false]
    rw [h1, Int.toNat_of_nonneg ht.1, backV_turnV]
theorem numsF_dec : ∀ (n : Nat) (s : ByteArray) (l : List Int) (s' : ByteArray), numsF n s = (0, l, s') → l.length = n ∧ bytesOf s = l.flatMap numE ++ bytesOf s' ∧ Nums64 l
  | 0, s, l, s', h => by
    simp [numsF] at h
    obtain ⟨rfl, rfl⟩ := h
    simp [Nums64]
  | n + 1, s, l, s', h => by
    obtain ⟨c, v, k, hx⟩ : ∃ c v k, numV 18446744073709551615 (bytesOf s) = (c, v, k) := ⟨_, _, _, rfl⟩
    rw [numsF, hx] at h
    by_cases hc : c = 0
    · subst hc
      simp only [ne_eq, not_true_eq_false, if_false, Prod.mk.injEq] at h
      obtain ⟨e1, e2, e3⟩ := h
      obtain ⟨h1, h2, _, h4⟩ := numV_ok hx
      obtain ⟨g1, g2, g3⟩ := numsF_dec n (s.extract k s.size) _ s' (Prod.ext e1 (Prod.ext rfl e3))
      subst e2
      refine ⟨by rw [List.length_cons, g1], ?_, ?_⟩
      · rw [List.flatMap_cons, List.append_assoc, ← g2, sx_extract]
        unfold numE
        rw [turnV_backV (by omega), Int.toNat_natCast]
        exact h1
      · intro x hx
        rcases List.mem_cons.1 hx with rfl | hx
        · exact backV_is (by omega)
        · exact g3 x hx
    · simp [hc] at h

theorem rowF_enc {t : Int} {l : List ValD} {xs : List Int} (ht : 0 ≤ t ∧ t ≤ 1000000000000) (hl : ∀ v ∈ l, okV v = true) (hx : Nums64 xs) {s : ByteArray} {r : List UInt8} (h : bytesOf s = rowE t l xs ++ r) :
    ∃ s', rowF l.length xs.length s = ⟨0, t, l, xs, s'⟩ ∧ bytesOf s' = r := by
  unfold rowE at h
  rw [List.append_assoc, List.append_assoc] at h
  have h0 : numV 1000000000000 (bytesOf s) = (0, t.toNat, (putB t.toNat).length) := by
    rw [h]; exact numV_put (by omega) (by omega) _
  obtain ⟨s1, h1, h2⟩ := valsF_enc l (s.extract (putB t.toNat).length s.size) (xs.flatMap numE ++ r) hl (by rw [sx_extract, h, List.drop_left])
  obtain ⟨s2, h3, h4⟩ := numsF_enc xs s1 r hx h2
  refine ⟨s2, ?_, h4⟩
  unfold rowF
  rw [h0]
  simp only [ne_eq, not_true_eq_false, if_false, h1, h3]
  rw [Int.toNat_of_nonneg ht.1]
theorem rowF_dec {nd nm : Nat} {s : ByteArray} (h : (rowF nd nm s).code = 0) :
    (rowF nd nm s).dims.length = nd ∧ (rowF nd nm s).nums.length = nm ∧ bytesOf s = rowE (rowF nd nm s).time (rowF nd nm s).dims (rowF nd nm s).nums ++ bytesOf (rowF nd nm s).rest ∧
      (0 ≤ (rowF nd nm s).time ∧ (rowF nd nm s).time ≤ 1000000000000) ∧ (∀ v ∈ (rowF nd nm s).dims, okV v = true) ∧ Nums64 (rowF nd nm s).nums := by
  obtain ⟨c, n, k, hx⟩ : ∃ c n k, numV 1000000000000 (bytesOf s) = (c, n, k) := ⟨_, _, _, rfl⟩
  obtain ⟨dc, dl, ds, hd⟩ : ∃ c l s', valsF nd (s.extract k s.size) = (c, l, s') := ⟨_, _, _, rfl⟩
  obtain ⟨ec, el, es, he⟩ : ∃ c l s', numsF nm ds = (c, l, s') := ⟨_, _, _, rfl⟩
  unfold rowF at h ⊢
  simp only [hx, hd, he] at h ⊢
  by_cases hc : c = 0
  · subst hc
    simp only [ne_eq, not_true_eq_false, if_false] at h ⊢
    by_cases hc : dc = 0
    · subst hc
      simp only [not_true_eq_false, if_false] at h ⊢
      by_cases hc : ec = 0
      · subst hc
        simp only [not_true_eq_false, if_false] at h ⊢
        obtain ⟨a1, a2, a3, a4⟩ := numV_ok hx
        obtain ⟨b1, b2, b3⟩ := valsF_dec nd _ _ _ hd
        obtain ⟨c1, c2, c3⟩ := numsF_dec nm _ _ _ he
        refine ⟨b1, c1, ?_, by omega, b3, c3⟩
        unfold rowE
        rw [Int.toNat_natCast, List.append_assoc, List.append_assoc, ← c2, ← b2, sx_extract]
        exact a1
      · simp [hc] at h
    · simp [hc] at h
  · simp [hc] at h
/-- What is read is right. -/
theorem rowF_fits {ds ms : List ByteArray} {g : Int} (hr : rightS ds ms g = true) {s : ByteArray} (h : (rowF ds.length ms.length s).code = 0) :
    fitsS ds ms g (rowF ds.length ms.length s).time (rowF ds.length ms.length s).dims (rowF ds.length ms.length s).nums.length = true := by
  obtain ⟨h1, h2, _, h4, h5, _⟩ := rowF_dec h
  unfold fitsS
  simp only [Bool.and_eq_true, decide_eq_true_eq]
  exact ⟨hr, h4, h1, h2, List.all_eq_true.2 h5⟩
end Go.Proofs.YtdgeinipdphoeaaDoor
/- Reading a row: what the loop over the values keeps. -/
namespace Go.Proofs.YtdgeinipdphoeaaDoor
set_option linter.unusedVariables false
set_option linter.unusedSimpArgs false
set_option maxRecDepth 100000
open Go.ChangeShapes Go.WideShapes Go.ChangeAt Go.RowKit

theorem rowF_dims {nd nm : Nat} {s : ByteArray} {N K C : Nat} (hx : numV 1000000000000 (bytesOf s) = (0, N, K)) (h : (valsF nd (s.extract K s.size)).1 = C) (hC : C ≠ 0) : rowF nd nm s = ⟨C, 0, [], [], s⟩ := by
  unfold rowF
  simp [hx, h, hC]
theorem rowF_nums {nd nm : Nat} {s s2 : ByteArray} {l : List ValD} {N K C : Nat} (hx : numV 1000000000000 (bytesOf s) = (0, N, K)) (h : valsF nd (s.extract K s.size) = (0, l, s2)) (h2 : (numsF nm s2).1 = C) (hC : C ≠ 0) : rowF nd nm s = ⟨C, 0, [], [], s⟩ := by
  unfold rowF
  simp [hx, h, h2, hC]
theorem rowF_ok {nd nm : Nat} {s s2 s3 : ByteArray} {l : List ValD} {xs : List Int} {N K : Nat} (hx : numV 1000000000000 (bytesOf s) = (0, N, K)) (h : valsF nd (s.extract K s.size) = (0, l, s2)) (h2 : numsF nm s2 = (0, xs, s3)) : rowF nd nm s = ⟨0, (N : Int), l, xs, s3⟩ := by
  unfold rowF
  simp [hx, h, h2]

def valsT (s : ByteArray) (k : Nat) : List Value := ((List.range k).map fun i => (readV (restV s i)).2.1).flatMap ValD.cells
theorem valsT_succ (s : ByteArray) (k : Nat) : valsT s (k + 1) = valsT s k ++ [.string (readV (restV s k)).2.1.s, .bool (readV (restV s k)).2.1.nl] := by
  unfold valsT
  rw [List.range_succ, List.map_append, List.flatMap_append]
  rfl
theorem okTill_succ {s : ByteArray} {k : Nat} (h : okTill s k) (h2 : (readV (restV s k)).1 = 0) : okTill s (k + 1) := fun j hj => by
  by_cases e : j = k
  · rw [e]; exact h2
  · exact h j (by omega)

theorem Stab.onlyAt {B R : Nat} {w : World} (hB : w.heap.size ≤ B) : Stab B (OnlyAt R w) := fun W W' row hs hg hr =>
  ⟨hg.os.trans hs.os, hg.tape.trans hs.tape, hg.output.trans hs.output, Nat.le_trans hs.size hg.size, fun k hk hne => (hg.block k (by have := hs.size; omega) (fun e => by have := (hr k e.symm).1; omega)).trans (hs.block k hk hne)⟩
theorem OnlyAt.in_ {R : Nat} {w X Y : World} (h : OnlyAt R w X) (ho : OnlyIn R (R + 1) X Y) : OnlyAt R w Y :=
  ⟨ho.os.trans h.os, ho.tape.trans h.tape, ho.output.trans h.output, Nat.le_trans h.size ho.size, fun k hk hne => (ho.block k (by have := h.size; omega) (by omega)).trans (h.block k hk hne)⟩
theorem Sent.prot {am an : Addr} {n₀ lo hi : Nat} {W W' : World} (h : Sent am an W) (hp : Prot n₀ lo hi W W') (h1 : 2 < n₀) (h2 : 1 < n₀) (h3 : am.block < n₀) (h4 : an.block < n₀) : Sent am an W' := by
  refine ⟨(hp.cell (.inl h1)).trans h.none_, (hp.cell (.inl h2)).trans h.more, h.ne, ?_, ?_⟩
  · obtain ⟨c, t, e⟩ := h.bm; exact ⟨c, t, (hp.low _ h3).trans e⟩
  · obtain ⟨c, t, e⟩ := h.bn; exact ⟨c, t, (hp.low _ h4).trans e⟩

abbrev zeroR : Obj := .cells #[.int .i64 0, .slice none 0 0, .slice none 0 0] 28 (0, 0)
/-- What the loop keeps: the values so far stand in the row's block Z; the schema's block, the results' blocks. -/
def rwI (w : World) (R Z N : Nat) (sc : Obj) (s1 : ByteArray) (k : Nat) (X : World) : Prop :=
  okTill s1 k ∧ (∃ v, X.heap[Z]? = some (.cells #[.int .i64 (N : Int), v, .slice none 0 0] 28 (0, 0)) ∧ X.ownsRow (Z + 1 + 1 + 1) 41 2 v k (valsT s1 k)) ∧
  X.heap[w.heap.size]? = some sc ∧ X.heap[w.heap.size + 1]? = some zeroR ∧ X.heap[w.heap.size + 1 + 1]? = some (.cells #[.nilIface] 49 (0, 0)) ∧ OnlyAt R w X
def rwX (w : World) (R nd : Nat) (s1 : ByteArray) (c : Code) (k : Nat) (X : World) : Prop :=
  c = .ret ∧ ∃ C : Nat, C ≠ 0 ∧ (valsF nd s1).1 = C ∧ X.heap[w.heap.size + 1]? = some zeroR ∧ X.heap[w.heap.size + 1 + 1]? = some (.cells #[wrongV (C : Int)] 49 (0, 0)) ∧ OnlyAt R w X
theorem rwI_stab {w : World} {R Z N : Nat} {c : Array Value} {t : TypeId} {f : Nat × Nat} {s1 : ByteArray} {B : Nat} (hB : w.heap.size ≤ B) (k : Nat) : Stab B (rwI w R Z N (.cells c t f) s1 k) :=
  Stab.and (Stab.pure _) (Stab.and (Stab.ex fun v => Stab.and Stab.block Stab.row) (Stab.and Stab.block (Stab.and Stab.block (Stab.and Stab.block (Stab.onlyAt hB)))))
theorem rwX_stab {w : World} {R nd : Nat} {s1 : ByteArray} {B : Nat} (hB : w.heap.size ≤ B) (c : Code) (k : Nat) : Stab B (rwX w R nd s1 c k) :=
  Stab.and (Stab.pure _) (Stab.ex fun C => Stab.and (Stab.pure _) (Stab.and (Stab.pure _) (Stab.and Stab.block (Stab.and Stab.block (Stab.onlyAt hB)))))
theorem row_in {lo hi base : Nat} {W W' : World} {e : TypeId} {size : Nat} {v : Value} {n : Nat} {xs : List Value} (h : OnlyIn lo hi W W') (ho : W.ownsRow base e size v n xs) (hb : hi ≤ base) : W'.ownsRow base e size v n xs := by
  obtain ⟨q1, q2⟩ := ho
  refine ⟨q1, ?_⟩
  rcases q2 with q2 | ⟨g, cap, cur, e1, e2, e3, e4⟩
  · exact .inl q2
  · exact .inr ⟨g, cap, cur, e1, e2, (h.block g (blk_lt e3) (.inr (by omega))).trans e3, e4⟩
theorem rwI_own {w : World} {R Z N : Nat} {sc : Obj} {s1 : ByteArray} (hR : R < w.heap.size) (hZ : w.heap.size ≤ Z) (k : Nat) : OwnR R (R + 1) (rwI w R Z N sc s1 k) := fun X X' hX ⟨h0, ⟨v, g1, g2⟩, h1, h2, h3, h4⟩ ho =>
  ⟨h0, ⟨v, (ho.block _ (blk_lt g1) (.inr (by omega))).trans g1, row_in ho g2 (by omega)⟩, (ho.block _ (blk_lt h1) (.inr (by omega))).trans h1, (ho.block _ (blk_lt h2) (.inr (by omega))).trans h2, (ho.block _ (blk_lt h3) (.inr (by omega))).trans h3, h4.in_ ho⟩
theorem two_new (w : World) (u v : Value) (T : TypeId) : ∀ (j : Nat) (x : Value), [u, v][j]? = some x → (w.alloc (.cells #[u, v] T)).cell? ((⟨w.heap.size, 0, none⟩ : Addr).add j) = some x := by
  intro j x hj
  match j, hj with
  | 0, hj => simp at hj; subst hj; simp [Addr.add]
  | 1, hj => simp at hj; subst hj; simp [Addr.add]
theorem val_one (s : ByteArray) (b : Bool) : ∀ u ∈ [Value.string s, .bool b], u.oneCell' = true := by
  intro u hu
  simp at hu
  rcases hu with rfl | rfl <;> rfl
end Go.Proofs.YtdgeinipdphoeaaDoor
/- Varints: the program's 'Unpack'. -/
namespace Go.Proofs.YtdgeinipdphoeaaDoor
set_option linter.unusedVariables false
set_option linter.unusedSimpArgs false
open Go.ChangeShapes Go.WideShapes Go.ChangeAt Go.RowKit

/-- Numbers that stand already, and what comes behind. -/
def comb (xs : List Int) (u : Nat) (R : Nat × List Int × Nat) : Nat × List Int × Nat := if R.1 ≠ 0 then (R.1, [], 0) else (0, xs ++ R.2.1, u + R.2.2)
theorem comb_bad {xs : List Int} {u c : Nat} (hc : c ≠ 0) : comb xs u (c, [], 0) = (c, [], 0) := by simp [comb, hc]
theorem comb_comb (xs : List Int) (u : Nat) (x : Int) (j : Nat) (R : Nat × List Int × Nat) : comb xs u (comb [x] j R) = comb (xs ++ [x]) (u + j) R := by
  unfold comb
  by_cases h : R.1 = 0
  · simp [h, Nat.add_assoc]
  · simp [h]
theorem unF_fail {m c v j : Nat} {last : Int} {s : List UInt8} (h : nextV s = (c, v, j)) (hc : c ≠ 0) : unF (m + 1) last s = (c, [], 0) := by rw [unF, h]; simp [hc]
theorem unF_step {m v j : Nat} {last : Int} {s : List UInt8} (h : nextV s = (0, v, j)) : unF (m + 1) last s = comb [wrap64 (last + backV (v : Int))] j (unF m (wrap64 (last + backV (v : Int))) (s.drop j)) := by
  rw [unF, h, comb]; simp
theorem unV_fail {c v j : Nat} {s : List UInt8} (h : nextV s = (c, v, j)) (hc : c ≠ 0) : unV s = (c, [], 0) := by rw [unV, h]; simp [hc]
theorem unV_many {v j : Nat} {s : List UInt8} (h : nextV s = (0, v, j)) (hc : 1000 < v) : unV s = (20, [], 0) := by rw [unV, h]; simp [hc]
theorem unV_step {v j : Nat} {s : List UInt8} (h : nextV s = (0, v, j)) (hc : v ≤ 1000) : unV s = comb [] j (unF v 0 (s.drop j)) := by
  rw [unV, h, comb]; simp only [ne_eq, not_true_eq_false, if_false]; rw [if_neg (by omega)]; simp

theorem bytesOf_extract (s : ByteArray) (a : Nat) : bytesOf (s.extract a s.size) = (bytesOf s).drop a := by
  show (s.extract a s.size).data.toList = s.data.toList.drop a
  simp
  rw [List.take_of_length_le (by simp)]
theorem bytesOf_inj {s t : ByteArray} (h : bytesOf s = bytesOf t) : s = t := by
  cases s; cases t
  simp [bytesOf] at h
  simp [h]
theorem extract_extract_end (s : ByteArray) (a b : Nat) : (s.extract a s.size).extract b (s.extract a s.size).size = s.extract (a + b) s.size := by
  apply bytesOf_inj
  rw [bytesOf_extract, bytesOf_extract, bytesOf_extract, List.drop_drop]

theorem OnlyAt.grown {b : Nat} {w w' : World} (h : OnlyAt b w w') : w.grownBy w' (some b) := ⟨h.os, h.tape, h.output, h.size, fun k hk hne => h.block k hk (fun e => hne (by rw [e]))⟩
theorem OnlyAt.row {b base : Nat} {w w' : World} {e : TypeId} {size : Nat} {v : Value} {n : Nat} {xs : List Value} (h : OnlyAt b w w') (ho : w.ownsRow base e size v n xs) (hb : b < base) : w'.ownsRow base e size v n xs :=
  ho.kept h.grown (by
    cases hv : v.ownBlock with
    | none => exact .inl rfl
    | some g => refine .inr fun e => ?_; have := (ho.lt g hv).1; cases e; omega)
theorem below_row {base : Nat} {w w' : World} {e : TypeId} {size : Nat} {v : Value} {n : Nat} {xs : List Value} (h : Below w.heap.size w w') (ho : w.ownsRow base e size v n xs) : w'.ownsRow base e size v n xs :=
  ho.kept (row := none) ⟨h.os, h.tape, h.output, h.size, fun k hk _ => h.block k hk⟩ (by cases hv : v.ownBlock <;> simp)

end Go.Proofs.YtdgeinipdphoeaaDoor
/- Varints: the reference's 'Get'. -/
namespace Go.Proofs.YtdgeinipdphoeaaDoor
set_option linter.unusedVariables false
set_option linter.unusedSimpArgs false
open Go.ChangeShapes Go.WideShapes Go.ChangeAt Go.RowKit

theorem putB_not {p : List UInt8} {c : UInt8} (h3 : ∀ x ∈ p, 128 ≤ x.toNat) (hbad : (p ≠ [] ∧ c.toNat = 0) ∨ (p.length = 9 ∧ 1 < c.toNat)) (h2 : c.toNat < 128) : putB (valB (p ++ [c]) % 18446744073709551616) ≠ p ++ [c] := by
  intro h
  rcases hbad with ⟨hp, hc⟩ | ⟨hp, hc⟩
  · obtain ⟨l, b, e, h4, h5, h6⟩ := putB_marks (valB (p ++ [c]) % 18446744073709551616)
    rw [h] at e
    obtain ⟨e1, e2⟩ := List.append_inj' e rfl
    subst e1
    simp at e2
    subst e2
    exact h6 hp hc
  · have h4 := valB_putB (valB (p ++ [c]) % 18446744073709551616)
    rw [h] at h4
    have h5 := valB_append p [c]
    have h6 : valB [c] = c.toNat := by simp [valB, Nat.mod_eq_of_lt h2]
    have : (128 : Nat) ^ 9 = 9223372036854775808 := by decide
    rw [h6, hp, this] at h5
    omega

theorem take_at (s : ByteArray) (j : Nat) (hjs : j < s.size) : (bytesOf s).take (j + 1) = (bytesOf s).take j ++ [s[j]] := by
  rw [List.take_succ_eq_append_getElem (by simpa using hjs)]; rfl
theorem extract_take (s : ByteArray) (j : Nat) : bytesOf (s.extract 0 j) = (bytesOf s).take j := by
  show (s.extract 0 j).data.toList = s.data.toList.take j
  simp

theorem or_step1 (s : ByteArray) (k : Nat) (hk : k < 10) (hl : k < s.size) :
    bits .or .u64 ((valB ((bytesOf s).take k) % 18446744073709551616 : Nat) : Int) (IntKind.u64.wrap ((s[k].toNat : Int) % 128 * 2 ^ (7 * k))) = ((valB ((bytesOf s).take (k + 1)) % 18446744073709551616 : Nat) : Int) := by
  rw [← or_step0 s k hk hl, show ((s[k].toNat : Int) % 128) = ((s[k].toNat % 128 : Nat) : Int) by omega]

set_option maxRecDepth 100000 in
set_option maxHeartbeats 1000000 in
theorem refGet_none (s : ByteArray) (hs : s.size ≤ 9223372036854775807) (w : World) (h : ∀ c ∈ (bytesOf s).take 10, 128 ≤ c.toNat) :
    Calls Tryd.prog 26 #[.string s] w fun e w' => e = .returned (.tuple #[.int .u64 0, .string s, .int .i64 (if s.size < 10 then 21 else 20)]) ∧ Below w.heap.size w w' := by
  have hM2 := hid (show (s.size < 10 → min s.size 10 = s.size) ∧ (¬ s.size < 10 → min s.size 10 = 10) by omega)
  obtain ⟨M, hM⟩ : ∃ M : Nat, min s.size 10 = M := ⟨_, rfl⟩
  rw [hM] at hM2
  have hM1 : M ≤ 10 ∧ M ≤ s.size := by omega
  clear hM
  go_enter Tryd.func26, Tryd.ntmps26
  go_wp2
  go_loop [5, 6] (fun n i => ∃ k : Nat, k ≤ M ∧ i = .int .i64 k ∧ n = .int .u64 ((valB ((bytesOf s).take k) % 18446744073709551616 : Nat) : Int)) (fun _ i => M - (intOf i).toNat)
  case atStart => exact ⟨0, Nat.zero_le _, rfl, rfl⟩
  case round =>
    obtain ⟨k, hk, rfl, rfl⟩ := hrel
    by_cases hlt : k < M
    · have hl : k < s.size := by omega
      have hc := h s[k] (mem_take_at s k 10 (by omega) hl)
      have hc2 := s[k].toNat_lt
      have hst := or_step1 s k (by omega) hl
      obtain ⟨X, hX⟩ : ∃ X, valB ((bytesOf s).take k) % 18446744073709551616 = X := ⟨_, rfl⟩
      rw [hX] at hst ⊢
      have HS := hid hst
      clear h hst hX
      go_wp2
      go_round
      case rel => exact ⟨k + 1, by omega, by go_num, by rw [HS.out]⟩
      case measure => simp [intOf]; omega
    · obtain rfl : k = M := by omega
      clear h hlt hk
      obtain ⟨X, hX⟩ : ∃ X, valB ((bytesOf s).take k) % 18446744073709551616 = X := ⟨_, rfl⟩
      rw [hX]
      clear hX
      by_cases hlen : s.size < 10
      · obtain rfl := hM2.out.1 hlen
        have hq := hid hlen
        go_wp2
        all_goals (go_ret3; exact ⟨rfl, Below.refl _ _⟩)
      · obtain rfl := hM2.out.2 hlen
        have hq := hid hlen
        go_wp2
        all_goals (go_ret3; exact ⟨rfl, Below.refl _ _⟩)

set_option maxRecDepth 100000 in
set_option maxHeartbeats 1000000 in
theorem refGet_at (s : ByteArray) (hs : s.size ≤ 9223372036854775807) (w : World) (j : Nat) (hj : j < 10) (hjs : j < s.size) (h : ∀ i (hi : i < j), 128 ≤ (s[i]'(Nat.lt_trans hi hjs)).toNat) (hc : s[j].toNat < 128) (good : Bool)
    (Y : Nat) (hY : valB ((bytesOf s).take (j + 1)) % 18446744073709551616 = Y) (hg : decide (putB Y = (bytesOf s).take (j + 1)) = good) :
    Calls Tryd.prog 26 #[.string s] w fun e w' => e = .returned (.tuple (if good = true then #[.int .u64 (Y : Int), .string (s.extract (j + 1) s.size), .int .i64 0] else #[.int .u64 0, .string s, .int .i64 20])) ∧ Below w.heap.size w w' := by
  go_enter Tryd.func26, Tryd.ntmps26
  go_wp2
  go_loop [5, 6] (fun n i => ∃ k : Nat, k ≤ j ∧ i = .int .i64 k ∧ n = .int .u64 ((valB ((bytesOf s).take k) % 18446744073709551616 : Nat) : Int)) (fun _ i => j - (intOf i).toNat)
  case atStart => exact ⟨0, Nat.zero_le _, rfl, rfl⟩
  case round =>
    obtain ⟨k, hk, rfl, rfl⟩ := hrel
    have hl : k < s.size := by omega
    have hc2 := s[k].toNat_lt
    have hst := or_step1 s k (by omega) hl
    obtain ⟨X, hX⟩ : ∃ X, valB ((bytesOf s).take k) % 18446744073709551616 = X := ⟨_, rfl⟩
    rw [hX] at hst ⊢
    by_cases hlt : k < j
    · have hc1 := h k hlt
      have HS := hid hst
      clear h hst hX hc hg hY
      go_wp2
      go_round
      case rel => exact ⟨k + 1, by omega, by go_num, by rw [HS.out]⟩
      case measure => simp [intOf]; omega
    · obtain rfl : k = j := by omega
      clear h hX hlt hk
      have HG := hid hg
      have hYl : Y ≤ 18446744073709551615 := by omega
      rw [hY] at hst
      have HY := hid hY
      clear hg hY
      have HP := hid (fun W => refPut_any Y hYl W)
      have hcmp : (putB Y == (s.extract 0 (k + 1)).toList) = good := by
        rw [ByteArray.toList_eq]
        show (putB Y == bytesOf (s.extract 0 (k + 1))) = good
        rw [extract_take, ← HG.out, Bool.eq_iff_iff]
        simp
      cases good with
      | true =>
        go_wp2
        refine wp_region_plus (by kernel_rfl) (by kernel_rfl) ?_
        repeat (first | go_big_quiet_skip | (go_big_quiet_want; go_big_quiet_op; first | go_big_quiet_on | go_big_quiet_call (((go_at_call 22; exact Calls.plus_of (HP.out _))))))
        refine wpQuiet_nil ?_
        rintro _ ⟨xq, rfl⟩
        go_wp2
        go_quiet (fail)
        go_wp2
        go_ret3
        exact ⟨rfl, ((World.plus_below _ _).drewN _)⟩
      | false =>
        go_wp2
        refine wp_region_plus (by kernel_rfl) (by kernel_rfl) ?_
        repeat (first | go_big_quiet_skip | (go_big_quiet_want; go_big_quiet_op; first | go_big_quiet_on | go_big_quiet_call (((go_at_call 22; exact Calls.plus_of (HP.out _))))))
        refine wpQuiet_nil ?_
        rintro _ ⟨xq, rfl⟩
        go_wp2
        go_ret3
        exact ⟨rfl, (World.plus_below _ _)⟩

/-- Where a number's bytes end, as a place in the string. -/
theorem at_cases (s : ByteArray) : (∀ c ∈ (bytesOf s).take 10, 128 ≤ c.toNat) ∨ ∃ (p : List UInt8) (c : UInt8) (r : List UInt8) (hj : p.length < s.size), bytesOf s = p ++ c :: r ∧ p.length < 10 ∧ c.toNat < 128 ∧ (∀ x ∈ p, 128 ≤ x.toNat) ∧
    (∀ i (hi : i < p.length), 128 ≤ (s[i]'(Nat.lt_trans hi hj)).toNat) ∧ s[p.length] = c ∧ (bytesOf s).take (p.length + 1) = p ++ [c] := by
  rcases sizeF_cases 10 (bytesOf s) with h | ⟨p, c, r, e, h1, h2, h3⟩
  · exact .inl h
  · have hsz : s.size = p.length + 1 + r.length := by
      have := congrArg List.length e
      simp at this; omega
    have hj : p.length < s.size := by omega
    have hget : ∀ i (hi : i < s.size), (bytesOf s)[i]'(by simpa using hi) = s[i] := fun i hi => rfl
    refine .inr ⟨p, c, r, hj, e, h1, h2, h3, fun i hi => ?_, ?_, ?_⟩
    · rw [← hget i (Nat.lt_trans hi hj)]
      have : (bytesOf s)[i]'(by simp; omega) = p[i] := by
        simp only [e]
        rw [List.getElem_append_left hi]
      rw [this]
      exact h3 _ (List.getElem_mem hi)
    · rw [← hget p.length hj]
      simp only [e]
      rw [List.getElem_append_right (Nat.le_refl _)]
      simp
    · rw [e, List.take_append, List.take_of_length_le (by omega), show p.length + 1 - p.length = 1 by omega]
      rfl

theorem refGet_is (s : ByteArray) (hs : s.size ≤ 9223372036854775807) {C N K : Nat} (hv : nextV (bytesOf s) = (C, N, K)) (w : World) :
    Calls Tryd.prog 26 #[.string s] w fun e w' => e = .returned (.tuple #[.int .u64 (N : Int), .string (s.extract K s.size), .int .i64 (C : Int)]) ∧ Below w.heap.size w w' := by
  rcases at_cases s with h | ⟨p, c, r, hj, e, h1, h2, h3, hlow, hat, htk⟩
  · refine (refGet_none s hs w h).mono fun e w' ⟨he, hw⟩ => ⟨?_, hw⟩
    have hv2 := nextV_none h
    rw [show (bytesOf s).length = s.size by simp, hv] at hv2
    simp only [Prod.mk.injEq] at hv2
    obtain ⟨rfl, rfl, rfl⟩ := hv2
    rw [he, extract_whole]
    split <;> rfl
  · have hv2 := nextV_at (r := r) h1 h2 h3
    rw [← e, hv] at hv2
    by_cases hbad : (p ≠ [] ∧ c.toNat = 0) ∨ (p.length = 9 ∧ 1 < c.toNat)
    · rw [if_pos hbad] at hv2
      simp only [Prod.mk.injEq] at hv2
      obtain ⟨rfl, rfl, rfl⟩ := hv2
      have hg := putB_not h3 hbad h2
      refine (refGet_at s hs w p.length h1 hj hlow (by rw [hat]; exact h2) false _ rfl (by rw [htk]; simpa using hg)).mono fun e w' ⟨he, hw⟩ => ⟨?_, hw⟩
      rw [he, extract_whole]; rfl
    · rw [if_neg hbad] at hv2
      have hok := nextV_ok (hv.trans hv2)
      simp only [Prod.mk.injEq] at hv2
      obtain ⟨rfl, rfl, rfl⟩ := hv2
      have hm : valB (p ++ [c]) % 18446744073709551616 = valB (p ++ [c]) := Nat.mod_eq_of_lt (by omega)
      have hg : putB (valB (p ++ [c])) = p ++ [c] := putB_valB p c h3 h2 (fun hp hb => hbad (.inl ⟨hp, hb⟩))
      refine (refGet_at s hs w p.length h1 hj hlow (by rw [hat]; exact h2) true _ rfl (by rw [htk, hm, hg]; simp)).mono fun e w' ⟨he, hw⟩ => ⟨?_, hw⟩
      rw [he, htk, hm]; rfl
end Go.Proofs.YtdgeinipdphoeaaDoor
/- A row of bytes by the reference: a schema that is wrong; the plain steps. -/
namespace Go.Proofs.YtdgeinipdphoeaaDoor
set_option linter.unusedVariables false
set_option linter.unusedSimpArgs false
set_option maxRecDepth 100000
open Go.ChangeShapes Go.WideShapes Go.ChangeAt Go.RowKit

/-- So many numbers of all have been read. -/
structure NumsRd (nm : Nat) (s2 : ByteArray) (j : Nat) (ys : List Int) (u : ByteArray) : Prop where
  le : j ≤ nm
  len : ys.length = j
  size : u.size ≤ s2.size
  code : (numsF nm s2).1 = (numsF (nm - j) u).1
  list : (numsF nm s2).2.1 = ys ++ (numsF (nm - j) u).2.1
  rest : (numsF nm s2).2.2 = (numsF (nm - j) u).2.2
theorem NumsRd.zero (nm : Nat) (s2 : ByteArray) : NumsRd nm s2 0 [] s2 := ⟨Nat.zero_le _, rfl, Nat.le_refl _, rfl, rfl, rfl⟩
theorem NumsRd.step {nm : Nat} {s2 : ByteArray} {j : Nat} {ys : List Int} {u : ByteArray} (h : NumsRd nm s2 j ys u) (hj : j < nm) {n k : Nat} (hx : numV 18446744073709551615 (bytesOf u) = (0, n, k)) : NumsRd nm s2 (j + 1) (ys ++ [backV (n : Int)]) (u.extract k u.size) := by
  have e : nm - j = nm - (j + 1) + 1 := by omega
  obtain ⟨h1, h2, h3, h4, h5, h6⟩ := h
  rw [e, numsF, hx] at h4 h5 h6
  simp only [ne_eq, not_true_eq_false, if_false] at h4 h5 h6
  refine ⟨hj, by simp [h2], ?_, h4, by rw [h5, List.append_assoc]; rfl, h6⟩
  rw [ByteArray.size_extract]; omega
theorem NumsRd.bad {nm : Nat} {s2 : ByteArray} {j : Nat} {ys : List Int} {u : ByteArray} (h : NumsRd nm s2 j ys u) (hj : j < nm) {C n k : Nat} (hx : numV 18446744073709551615 (bytesOf u) = (C, n, k)) (hC : C ≠ 0) : (numsF nm s2).1 = C := by
  have e : nm - j = nm - (j + 1) + 1 := by omega
  rw [h.code, e, numsF, hx]
  simp [hC]
theorem NumsRd.done {nm : Nat} {s2 : ByteArray} {ys : List Int} {u : ByteArray} (h : NumsRd nm s2 nm ys u) : numsF nm s2 = (0, ys, u) := by
  obtain ⟨h1, h2, h3, h4, h5, h6⟩ := h
  rw [Nat.sub_self] at h4 h5 h6
  rw [show numsF 0 u = (0, [], u) from rfl] at h4 h5 h6
  exact Prod.ext h4 (Prod.ext (by simpa using h5) h6)
theorem numV_next (l : List UInt8) : numV 18446744073709551615 l = nextV l := by
  obtain ⟨c, n, k, hx⟩ : ∃ c n k, nextV l = (c, n, k) := ⟨_, _, _, rfl⟩
  have h1 := (nextV_is l).1
  unfold numV
  rw [hx] at h1 ⊢
  by_cases hc : c = 0
  · subst hc
    simp
    exact h1
  · have h2 := nextV_bad (l := l) (by rw [hx]; exact hc)
    rw [hx] at h2
    simp [hc]
    simp at h2
    exact ⟨h2.1.symm, h2.2.symm⟩
/-- The ways of a number of at most so much. -/
theorem numV_cases {most : Nat} {l : List UInt8} {c n k : Nat} (hx : nextV l = (c, n, k)) :
    (c ≠ 0 ∧ numV most l = (c, 0, 0)) ∨ (c = 0 ∧ most < n ∧ numV most l = (101, 0, 0)) ∨ (c = 0 ∧ n ≤ most ∧ numV most l = (0, n, k)) := by
  unfold numV
  rw [hx]
  by_cases hc : c = 0
  · subst hc
    by_cases hn : most < n
    · exact .inr (.inl ⟨rfl, hn, by simp [hn]⟩)
    · exact .inr (.inr ⟨rfl, by omega, by simp [hn]⟩)
  · exact .inl ⟨hc, by simp [hc]⟩
/-- The ways of a value. -/
theorem readV_cases {s : ByteArray} {c n k : Nat} (hx : nextV (bytesOf s) = (c, n, k)) :
    (c ≠ 0 ∧ (readV s).1 = c) ∨ (c = 0 ∧ 101 < n ∧ (readV s).1 = 101) ∨ (c = 0 ∧ n = 0 ∧ readV s = (0, ⟨noV, true⟩, k)) ∨ (c = 0 ∧ 0 < n ∧ n ≤ 101 ∧ s.size - k < n - 1 ∧ (readV s).1 = 21) ∨
    (c = 0 ∧ 0 < n ∧ n ≤ 101 ∧ n - 1 ≤ s.size - k ∧ readV s = (0, ⟨(s.extract k s.size).extract 0 (n - 1), false⟩, k + (n - 1))) := by
  unfold readV
  rcases numV_cases (most := 101) hx with ⟨h1, h2⟩ | ⟨h1, h2, h3⟩ | ⟨h1, h2, h3⟩
  · rw [h2]; exact .inl ⟨h1, by simp [h1]⟩
  · rw [h3]; exact .inr (.inl ⟨h1, h2, by simp⟩)
  · rw [h3]
    simp only [ne_eq, not_true_eq_false, if_false]
    by_cases hn : n = 0
    · exact .inr (.inr (.inl ⟨h1, hn, by simp [hn]⟩))
    · by_cases hz : s.size - k < n - 1
      · exact .inr (.inr (.inr (.inl ⟨h1, by omega, h2, hz, by simp [hn, hz]⟩)))
      · exact .inr (.inr (.inr (.inr ⟨h1, by omega, h2, by omega, by simp [hn, hz]⟩)))

def decF (ds ms : List ByteArray) (g : Int) (s : ByteArray) : RowF := if rightS ds ms g = true then rowF ds.length ms.length s else ⟨100, 0, [], [], s⟩
/-- What is to show of 'Decode'. -/
def DecPost (w : World) (F : RowF) (e : Ending) (w' : World) : Prop :=
  ∃ vd vn, e = .returned (.tuple #[.agg #[.int .i64 F.time, vd, vn], .string F.rest, .int .i64 (F.code : Int)]) ∧ w'.ownsRow w.heap.size 41 2 vd F.dims.length (F.dims.flatMap ValD.cells) ∧
    w'.ownsRow w.heap.size 2 1 vn F.nums.length (F.nums.map (Value.int .i64)) ∧ Below w.heap.size w w'
theorem DecPost.bad {w w' : World} {C : Nat} {s : ByteArray} (h : Below w.heap.size w w') : DecPost w ⟨C, 0, [], [], s⟩ (.returned (.tuple #[.agg #[.int .i64 0, .slice none 0 0, .slice none 0 0], .string s, .int .i64 (C : Int)])) w' :=
  ⟨_, _, rfl, World.ownsRow_nil _ _ _ _, World.ownsRow_nil _ _ _ _, h⟩

set_option maxHeartbeats 1000000 in
theorem refDecode_wrong (vd vm : Value) (ds ms : List ByteArray) (g : Int) (s : ByteArray) (w : World) (hd : StrsSl w vd ds) (hm : StrsSl w vm ms) (td : Texts ds) (tm : Texts ms) (hr : rightS ds ms g = false) :
    Calls Tryd.prog 11 #[.agg #[vd, vm, .int .i64 g], .string s] w (DecPost w ⟨100, 0, [], [], s⟩) := by
  have HR := hid (fun W (h : Below w.heap.size w W) => refRight_any vd vm ds ms g W (hd.below h) (hm.below h) td tm)
  rw [hr] at HR
  obtain ⟨ad, cd, rfl, _, _, _⟩ := SlAt.shape hd
  obtain ⟨am, cm, rfl, _, _, _⟩ := SlAt.shape hm
  clear hd hm hr
  generalize ds.length = nd at *
  generalize ms.length = nm at *
  go_enter Tryd.func11, Tryd.ntmps11
  go_wp2_with (go_at_call 20; ((with_reducible refine (HR.out _ (by (repeat' (first | (with_reducible exact Below.refl _ _) | (with_reducible assumption) | (with_reducible refine Below.new ?_ _) | (with_reducible refine Below.alloc ?_ ?_ _) | (with_reducible refine Below.drew ?_) | (with_reducible refine Below.drewN ?_ _) | (with_reducible refine Below.setCell ?_ ?_ _) | (refine Below.step ?_ (by assumption)) | go_size)))).mono ?_); rintro e w1 ⟨rfl, hb1⟩; obtain ⟨hc1, hf1, hk1, hz1⟩ := bcell3 hb1; (try simp only [World.size_alloc, World.size_drew] at hz1); have : w.heap.size < w1.heap.size := (by omega); have : w.heap.size + 1 < w1.heap.size := (by omega)))
  ((show bodyPost _ _ _ _ _ _); refine bodyPost_ret (by simp only [results, Tryd.results11]; go_simp; try rfl) rfl ?_)
  exact DecPost.bad (by (repeat' (first | (with_reducible exact Below.refl _ _) | (with_reducible assumption) | (with_reducible refine Below.new ?_ _) | (with_reducible refine Below.alloc ?_ ?_ _) | (with_reducible refine Below.drew ?_) | (with_reducible refine Below.drewN ?_ _) | (with_reducible refine Below.setCell ?_ ?_ _) | (refine Below.step ?_ (by assumption)) | go_size)))
set_option maxHeartbeats 1000000 in
theorem decode_wrong (vd vm : Value) (ds ms : List ByteArray) (g : Int) (s : ByteArray) (w : World) (hd : StrsSl w vd ds) (hm : StrsSl w vm ms) (td : Texts ds) (tm : Texts ms) (hr : rightS ds ms g = false) :
    Calls Tryd.prog 10 #[.agg #[vd, vm, .int .i64 g], .string s] w (DecPost w ⟨100, 0, [], [], s⟩) := by
  have HR := hid (fun W (h : Below w.heap.size w W) => right_any vd vm ds ms g W (hd.below h) (hm.below h) td tm)
  rw [hr] at HR
  obtain ⟨ad, cd, rfl, _, _, _⟩ := SlAt.shape hd
  obtain ⟨am, cm, rfl, _, _, _⟩ := SlAt.shape hm
  clear hd hm hr
  generalize ds.length = nd at *
  generalize ms.length = nm at *
  go_enter Tryd.func10, Tryd.ntmps10
  go_wp2_with (go_at_call 14; ((with_reducible refine (HR.out _ (by (repeat' (first | (with_reducible exact Below.refl _ _) | (with_reducible assumption) | (with_reducible refine Below.new ?_ _) | (with_reducible refine Below.alloc ?_ ?_ _) | (with_reducible refine Below.drew ?_) | (with_reducible refine Below.drewN ?_ _) | (with_reducible refine Below.setCell ?_ ?_ _) | (refine Below.step ?_ (by assumption)) | go_size)))).mono ?_); rintro e w1 ⟨rfl, hb1⟩; obtain ⟨hc1, hf1, hk1, hz1⟩ := bcell3 hb1; (try simp only [World.size_alloc, World.size_drew] at hz1); have : w.heap.size < w1.heap.size := (by omega); have : w.heap.size + 1 < w1.heap.size := (by omega)))
  ((show bodyPost _ _ _ _ _ _); refine bodyPost_ret (by simp only [results, Tryd.results10]; go_simp; try rfl) rfl ?_)
  exact DecPost.bad (by (repeat' (first | (with_reducible exact Below.refl _ _) | (with_reducible assumption) | (with_reducible refine Below.new ?_ _) | (with_reducible refine Below.alloc ?_ ?_ _) | (with_reducible refine Below.drew ?_) | (with_reducible refine Below.drewN ?_ _) | (with_reducible refine Below.setCell ?_ ?_ _) | (refine Below.step ?_ (by assumption)) | go_size)))
end Go.Proofs.YtdgeinipdphoeaaDoor
