/- Packed lists: the program's 'Unpack', its road to the end. -/
import Derived.Test.YtpgifmccajcgkaaDoorPkH
namespace Go.Proofs.YtpgifmccajcgkaaDoor
set_option linter.unusedVariables false
set_option linter.unusedSimpArgs false
open Go.ChangeShapes Go.WideShapes Go.ChangeAt Go.RowKit Go.Shelf
attribute [local go_sem] Oper.semAt_some

theorem getN_get (k : Nat) : ∀ (n i : Nat) (l : List Nat), i < n → (getN k n l)[i]?.getD 0 = valD ((l.drop (i * k)).take k)
  | 0, _, _, h => absurd h (Nat.not_lt_zero _)
  | n + 1, 0, l, _ => by simp [getN]
  | n + 1, i + 1, l, h => by
    have := getN_get k n i (l.drop k) (by omega)
    rw [getN, List.getElem?_cons_succ, this, List.drop_drop, Nat.add_mul, Nat.one_mul, Nat.add_comm k]
def intsOf (ns : List Nat) : List Int := ns.map Int.ofNat
theorem natsOf_intsOf (ns : List Nat) : natsOf (intsOf ns) = ns := by
  unfold natsOf intsOf; rw [List.map_map]
  conv => rhs; rw [← List.map_id ns]
  rfl
theorem okW_intsOf {ns : List Nat} (h : ns.length ≤ 1000) (hs : small ns) : okW (intsOf ns) = true := by
  unfold okW intsOf
  simp only [List.length_map, Bool.and_eq_true, decide_eq_true_eq, List.all_eq_true]
  refine ⟨h, fun x hx => ?_⟩
  obtain ⟨n, hn, rfl⟩ := List.mem_map.1 hx
  have := hs n hn
  simp; omega
theorem intsOf_take_succ {ns : List Nat} {k : Nat} (h : k < ns.length) : (intsOf (ns.take (k + 1))).map (Value.int .i64) = (intsOf (ns.take k)).map (Value.int .i64) ++ [.int .i64 ((ns[k]?.getD 0 : Nat) : Int)] := by
  rw [List.take_succ_eq_append_getElem h, List.getElem?_eq_getElem h]
  simp only [intsOf, List.map_append, List.map_cons, List.map_nil, Option.getD_some]
  rfl
theorem rd_rest {R : Nat} {l : List Nat} {w : World} (h : RdAt R l w) (hl : l.length < 8) : ∃ (n : Nat) (s : ByteArray), w.heap[R]? = some (.cells #[.int .u64 ((valD l : Nat) : Int), .int .i64 (n : Int), .string s] 98 (0, 0)) := by
  obtain ⟨Q, s, h1, h2, h3, h4⟩ := h
  have hlen := congrArg List.length h3
  rw [List.length_append, digsB_length] at hlen
  have : bytesOf s = [] := List.length_eq_zero_iff.1 (by omega)
  rw [this] at h3
  simp [digsB] at h3
  subst h3
  exact ⟨_, s, h4⟩

/-- What the loop over the numbers keeps: the list so far; the count's box. -/
def unK (w : World) (B nbx N : Nat) (ns : List Nat) (k : Nat) (X : World) : Prop :=
  (∃ v, X.heap[w.heap.size]? = some (.cells #[v] 42 (0, 0)) ∧ X.ownsRow B 3 1 v k ((intsOf (ns.take k)).map (Value.int .i64)) ∧ (v = .slice none 0 0 ↔ k = 0)) ∧
  X.heap[nbx]? = some (.cells #[.int .u64 (N : Int)] 22 (0, 0)) ∧ Below w.heap.size w X ∧ k ≤ N
def unKX (w : World) (B nbx N R : Nat) (ns l : List Nat) (c : Code) (k : Nat) (X : World) : Prop :=
  c = .exit 0 ∧ k + 1 = N ∧ unK w B nbx N ns N X ∧ RdAt R l X
theorem unK_stab (w : World) (B nbx N : Nat) (ns : List Nat) (B' : Nat) (hB : w.heap.size ≤ B') (k : Nat) : Stab B' (unK w B nbx N ns k) :=
  Stab.and (Stab.ex fun v => Stab.and Stab.block (Stab.and Stab.row (Stab.pure _))) (Stab.and Stab.block (Stab.and (Stab.below (Nat.le_refl _) hB) (Stab.pure _)))
theorem rd_stab (R B : Nat) (l : List Nat) : Stab B (RdAt R l) := Stab.ex fun Q => Stab.ex fun s => Stab.and (Stab.pure _) (Stab.and (Stab.pure _) (Stab.and (Stab.pure _) Stab.block))
theorem unKX_stab (w : World) (B nbx N R : Nat) (ns l : List Nat) (B' : Nat) (hB : w.heap.size ≤ B') (c : Code) (k : Nat) : Stab B' (unKX w B nbx N R ns l c k) :=
  Stab.and (Stab.pure _) (Stab.and (Stab.pure _) (Stab.and (unK_stab w B nbx N ns B' hB N) (rd_stab R B' l)))
theorem unK_own {w : World} {B nbx N lo hi : Nat} {ns : List Nat} (h1 : w.heap.size < lo) (h2 : nbx < lo) (h3 : hi ≤ B) (k : Nat) : OwnR lo hi (unK w B nbx N ns k) := fun X X' hX ⟨⟨v, g1, g2, g3⟩, g4, g5, g6⟩ ho => by
  refine ⟨⟨v, (ho.block _ (blk_lt g1) (.inl h1)).trans g1, ?_, g3⟩, (ho.block _ (blk_lt g4) (.inl h2)).trans g4, ⟨ho.os.trans g5.os, ho.tape.trans g5.tape, ho.output.trans g5.output, Nat.le_trans g5.size ho.size, fun j hj => (ho.block j (by have := g5.size; omega) (.inl (by omega))).trans (g5.block j hj)⟩, g6⟩
  obtain ⟨q1, q2⟩ := g2
  refine ⟨q1, ?_⟩
  rcases q2 with q2 | ⟨g, cap, cur, e1, e2, e3, e4⟩
  · exact .inl q2
  · exact .inr ⟨g, cap, cur, e1, e2, (ho.block g (blk_lt e3) (.inr (by omega))).trans e3, e4⟩

set_option maxRecDepth 100000 in
set_option maxHeartbeats 4000000 in
theorem pun_main (am an : Addr) (s : ByteArray) (hs : s.size ≤ 1000000) {N K : Nat} (hv : nextV (bytesOf s) = (0, N, K)) (hN : N ≤ 1000) (r : ByteArray) (hr : s.extract K s.size = r) (hr0 : 0 < r.size) (b : Nat) (hb : (r[0]'hr0).toNat = b) (hb16 : b ≤ 16)
    (Z : Nat) (hZ : (N * b + 7) / 8 = Z) (hZr : 1 + Z ≤ r.size) (l : List Nat) (hl : digsB (bytesOf (r.extract 1 (1 + Z))) = l) (w : World) (hsent : Sent am an w)
    (good : Bool) (hgood : (decide (valD (l.drop (N * b)) = 0) && decide (widN (getN b N l) = b)) = good) :
    Calls Tryd.prog 36 #[.string s] w fun e w' => ∃ v, e = .returned (.tuple (if good = true then #[v, .string (r.extract (1 + Z) r.size), .int .i64 0] else #[.slice none 0 0, .string s, .int .i64 40])) ∧
      (good = true → w'.ownsRow (w.heap.size + 1) 3 1 v N ((intsOf (getN b N l)).map (Value.int .i64)) ∧ (v = .slice none 0 0 ↔ N = 0)) ∧ Below w.heap.size w w' := by
  have HG := hid (fun W h => get_is am an s (by omega) hv W h)
  rw [hr] at HG
  have HS := hid hsent
  have hrs : r.size ≤ 1000000 := by rw [← hr]; simp; omega
  have hb8 : b ≤ 255 := by omega
  have hne : r.toList.isEmpty = false := by
    rw [ByteArray.toList_eq]
    have : 0 < r.data.toList.length := by simpa using hr0
    cases hd : r.data.toList with
    | nil => rw [hd] at this; simp at this
    | cons a l => rfl
  have hz16 := mul_le_16 hN hb16
  have HZ := hid (fun W => size_any (N : Int) (b : Int) W (fun _ => by have h6 : ((N * b : Nat) : Int) = (N : Int) * (b : Int) := (by simp); omega))
  rw [sizeV_nat, hZ] at HZ
  have hZ2 : Z ≤ 2001 := by omega
  obtain ⟨s0, hs0⟩ : ∃ s0, r.extract 1 (1 + Z) = s0 := ⟨_, rfl⟩
  rw [hs0] at hl
  have hs0z : s0.size = Z := by rw [← hs0]; simp; omega
  have hll : l.length = 8 * Z := by rw [← hl, digsB_length, size_bytesOf', hs0z]
  have hlN : N * b ≤ l.length := by omega
  have hlD : isD l := hl ▸ digsB_is _
  have hrest : (l.drop (N * b)).length < 8 := by rw [List.length_drop]; omega
  obtain ⟨ns, hns⟩ : ∃ ns, getN b N l = ns := ⟨_, rfl⟩
  have hnl : ns.length = N := hns ▸ getN_length _ _ _
  have hnb : ∀ x ∈ ns, x < 2 ^ b := hns ▸ getN_lt N l hlD hlN
  have hsm : small ns := fun x hx => by
    have h5 := hnb x hx
    have h6 : (2 : Nat) ^ b ≤ 2 ^ 16 := Nat.pow_le_pow_right (by decide) hb16
    have h7 : (2 : Nat) ^ 16 = 65536 := by decide
    omega
  have hnum : ∀ i, i < N → numV l b i = .int .i64 ((ns[i]?.getD 0 : Nat) : Int) := fun i hi => by unfold numV; rw [← hns, getN_get b N i l hi]
  have hok := okW_intsOf (by omega) hsm
  have HW := hid (fun v W (h : SliceAt W v (intsOf ns)) => width_ok v (intsOf ns) W h hok)
  rw [natsOf_intsOf] at HW
  rw [hns] at hgood ⊢
  obtain ⟨i0, hi, hiz0, hiz1, hiz2⟩ := info_parts info_int
  have hsl : ∀ W, (Instr.slice 9 (.string r) (some (.int .i64 1)) (some (.int .i64 (1 + (Z : Int)))) none).run Tryd.prog W = .ok (.string s0) W := fun W => by
    rw [run_slice_string (P := Tryd.prog) W 9 r .i64 .i64 1 (1 + (Z : Int)) Tryd.underlying9 (by omega) (by omega) (by omega)]
    have e : (1 + (Z : Int)).toNat = 1 + Z := by omega
    rw [e]
    exact congrArg (fun x => Result.ok (Value.string x) W) hs0
  have hsl2 : ∀ W, (Instr.slice 9 (.string r) (some (.int .i64 (1 + (Z : Int)))) none none).run Tryd.prog W = .ok (.string (r.extract (1 + Z) r.size)) W := fun W => by
    rw [run_slice_string_l (P := Tryd.prog) (w := W) (t := 9) (s := r) (ht := Tryd.underlying9) .i64 (1 + (Z : Int)) (by omega) (by omega)]
    have e : (1 + (Z : Int)).toNat = 1 + Z := by omega
    rw [e]
  have HL := hid hl; have HLN := hid hlN; have HLD := hid hlD; have HRS := hid hrest; have HNL := hid hnl; have HNUM := hid hnum; have HGD := hid hgood; have HLL := hid hll
  have hil : (intsOf ns).length = N := by unfold intsOf; simp [hnl]
  have HIL := hid hil
  clear hv hsent hr hz16 hZ hl hlN hlD hrest hns hnl hnb hsm hnum hok hgood hll hil hs0
  refine calls_marks Tryd.func36 rfl ?_
  simp only [Tryd.ntmps36, List.size_toArray, List.length_cons, List.length_nil, Nat.reduceAdd, Nat.reduceSub, Array.replicate_succ, Array.replicate_zero, List.push_toArray, List.append_toArray, List.nil_append, List.cons_append]
  go_wp2
  refine wp_scope_fwd ?_
  go_wp2_with (first
    | (go_at_call 41; ((with_reducible refine (HZ.out _).mono ?_); rintro e w2 ⟨rfl, rfl⟩))
    | (go_at_call 18; ((with_reducible refine (HG.out _ (HS.out.below (by (repeat' (first | (with_reducible exact Below.refl _ _) | (with_reducible assumption) | (with_reducible refine Below.new ?_ _) | (with_reducible refine Below.alloc ?_ ?_ _) | (with_reducible refine Below.drew ?_) | (with_reducible refine Below.setCell ?_ ?_ _) | (refine Below.step ?_ (by assumption)) | go_size))))).mono ?_); rintro e w1 ⟨rfl, hb1⟩; have hz1 := hb1.size; (try simp only [World.size_alloc] at hz1)))
    | (go_at_call 61; ((with_reducible refine (pnumbers_any _ _ _ _).mono ?_); rintro e w3 ⟨rfl, rfl⟩)))
  refine wp_label ?_
  go_wp2_with (go_at_call 61; ((with_reducible refine (pnumbers_any _ _ _ _).mono ?_); rintro e w3 ⟨rfl, rfl⟩))
  have hbel := hb1
  have hOl : w.heap.size < w1.heap.size := by omega
  refine wp_rangeR (gf := 82) (lb := #[.pointer (some ⟨w1.heap.size + 1 + 1 + 1, 0, none⟩), .pointer (some ⟨w1.heap.size + 1 + 1, 0, none⟩), .pointer (some ⟨w1.heap.size + 1 + 1 + 1 + 1, 0, none⟩)]) rfl (enters_of Tryd.func82 (by kernel_rfl) rfl)
    (pnumbers_seq (w1.heap.size + 1) (w1.heap.size + 1 + 1) (w1.heap.size + 1 + 1 + 1) (w1.heap.size + 1 + 1 + 1 + 1) N b l w.heap.size (w1.heap.size + 1) (w1.heap.size + 1 + 1 + 1 + 1 + 1) _ (by omega) (by omega) (by omega) (by omega) (by omega) (by simp) hb16 hN HLN.out HLD.out (by rw [HLL.out]; omega) (by (simp (disch := first | omega | (simp only [World.size_alloc, World.size_setCell, World.size_drew]; done) | (simp only [World.size_alloc, World.size_setCell, World.size_drew]; omega)) only [heap_at, heap_past, heap_set_other, heap_set_same])) (by (simp (disch := first | omega | (simp only [World.size_alloc, World.size_setCell, World.size_drew]; done) | (simp only [World.size_alloc, World.size_setCell, World.size_drew]; omega)) only [heap_at, heap_past, heap_set_other, heap_set_same])) (by (simp (disch := first | omega | (simp only [World.size_alloc, World.size_setCell, World.size_drew]; done) | (simp only [World.size_alloc, World.size_setCell, World.size_drew]; omega)) only [heap_at, heap_past, heap_set_other, heap_set_same])) ⟨[], s0, by simp [isD], by simp, HL.out, by (simp (disch := first | omega | (simp only [World.size_alloc, World.size_setCell, World.size_drew]; done) | (simp only [World.size_alloc, World.size_setCell, World.size_drew]; omega)) only [heap_at, heap_past, heap_set_other, heap_set_same]); simp [valD]⟩)
    (fun _ => rd_stab _ _ _) (by simp; omega) (fun _ => rfl) (unK w (w1.heap.size + 1 + 1 + 1 + 1 + 1) w1.heap.size N ns) (unKX w (w1.heap.size + 1 + 1 + 1 + 1 + 1) w1.heap.size N (w1.heap.size + 1) ns (l.drop (N * b))) (unK_stab _ _ _ _ _ _ (by simp; omega)) (unKX_stab _ _ _ _ _ _ _ _ (by simp; omega)) (unK_own (by omega) (by omega) (by omega)) ?start ?round ?done ?stop
  case start =>
    refine ⟨⟨.slice none 0 0, ?_, World.ownsRow_nil _ _ _ _, by simp⟩, by (simp (disch := first | omega | (simp only [World.size_alloc, World.size_setCell, World.size_drew]; done) | (simp only [World.size_alloc, World.size_setCell, World.size_drew]; omega)) only [heap_at, heap_past, heap_set_other, heap_set_same]), by (repeat' (first | (with_reducible exact Below.refl _ _) | (with_reducible assumption) | (with_reducible refine Below.new ?_ _) | (with_reducible refine Below.alloc ?_ ?_ _) | (with_reducible refine Below.drew ?_) | (with_reducible refine Below.setCell ?_ ?_ _) | (refine Below.step ?_ (by assumption)) | go_size)), by omega⟩
    (simp (disch := first | omega | (simp only [World.size_alloc, World.size_setCell, World.size_drew]; done) | (simp only [World.size_alloc, World.size_setCell, World.size_drew]; omega)) only [heap_at, heap_past, heap_set_other, heap_set_same]); rw [hb1.block _ (by simp)]; (simp (disch := first | omega | (simp only [World.size_alloc, World.size_setCell, World.size_drew]; done) | (simp only [World.size_alloc, World.size_setCell, World.size_drew]; omega)) only [heap_at, heap_past, heap_set_other, heap_set_same])
  case round =>
    intro ln k W hkN hI hS hl hlt hW
    have hnk := HNUM.out k hkN
    obtain ⟨x, hx⟩ : ∃ x, ns[k]?.getD 0 = x := ⟨_, rfl⟩
    have htk := hid (intsOf_take_succ (ns := ns) (k := k) (by rw [HNL.out]; exact hkN))
    rw [hx] at hnk htk
    rw [hnk]
    simp only [World.size_alloc] at hl hW
    gi_wp2
    refine ⟨Kept.refl _ _ _ _ _, fun W2 hT => ?_⟩
    have hI2 := (unK_stab w (w1.heap.size + 1 + 1 + 1 + 1 + 1) w1.heap.size N ns w.heap.size (Nat.le_refl _) k).turn hI hT (by omega)
    have hS2 := (rd_stab (w1.heap.size + 1) w.heap.size _).turn hS hT (by omega)
    clear hI hS
    obtain ⟨⟨v, hbox, hrow, hnil⟩, hr1, hB, hk⟩ := hI2
    have hc1 := cell_of_one hbox; have hf1 := free_of_one hbox
    have hwl : w1.heap.size + 1 + 1 + 1 + 1 + 1 ≤ W2.heap.size := by rw [hT.size]; omega
    have hz2 := hB.size
    have ho1 := cell_of_one hr1
    have HN := hid hnil; clear hnil
    have HS2 := hid hS2; clear hS2
    obtain ⟨ao, cap, rfl⟩ := hrow.shape
    have hbx : ∀ g0, (Value.slice ao k cap).ownBlock = some g0 → w1.heap.size + 1 + 1 + 1 + 1 + 1 ≤ g0 ∧ g0 < W2.heap.size := fun g0 e => hrow.lt g0 e
    gi_wp2_with (gi_at_builtin; go_loud (refine wpListIn_append_own _ rfl _ _ 42 rfl (w1.heap.size + 1 + 1 + 1 + 1 + 1) 3 i0 (.int .i64 0) 1 8 Tryd.underlying42 hi hiz0 hiz1 hiz2 rfl (by decide) _ _ _ rfl (hrow.alloc _) ⟨W2.heap.size, 0, none⟩ 1 1 [.int .i64 ((x : Int))] rfl rfl (one_new _ _ _) (one_int _ _) (by unfold maxLen; omega) (by omega) (by simp; omega) ?_); intro v' w1' hown' hgrow' hnil'; obtain ⟨g', cap', rfl⟩ := ownsRow_succ hown'; have hbox' := (hgrow'.block w.heap.size (by simp; omega) (fun e => by have := hbx _ e.symm; omega)).trans ((heap_past (by omega)).trans hbox); have hc1' := cell_of_one hbox'; have hf1' := free_of_one hbox'; have hr1' := (hgrow'.block w1.heap.size (by simp; omega) (fun e => by have := hbx _ e.symm; omega)).trans ((heap_past (by omega)).trans hr1); have ho1' := cell_of_one hr1')
    all_goals
      have hnr := row_of_own (hrow.alloc (.cells #[.int .i64 (x : Int)] 3))
      have hne1 : ∀ q, q < w1.heap.size + 1 + 1 + 1 + 1 + 1 → some q ≠ (Value.slice ao k cap).ownBlock := fun q hb e => by have := (hbx q e.symm).1; omega
      have hown2 : w1'.ownsRow (w1.heap.size + 1 + 1 + 1 + 1 + 1) 3 1 (.slice (some ⟨g', 0, none⟩) (k + 1) cap') (k + 1) ((intsOf (ns.take (k + 1))).map (Value.int .i64)) := by rw [htk.out]; exact hown'
      have hg3 := (row_of_own hown2 g' rfl).1
      have hgb := hgrow'.size
      simp only [World.size_alloc] at hgb
      have hB2 : Below w.heap.size w w1' := (hB.alloc (by omega) _).grown hgrow' (by simp; omega) (fun r e => by have := (hbx r e).1; omega)
      have hkp : Kept (((((w1.alloc (.cells #[.int .u64 (N : Int)] 22)).alloc (.cells #[.int .u64 0, .int .i64 0, .string s0] 98)).alloc (.cells #[.pointer (some ⟨w1.heap.size + 1, 0, none⟩)] 96)).alloc (.cells #[.int .i64 (N : Int)] 3)).alloc (.cells #[.int .i64 (b : Int)] 3)).heap.size w.heap.size (w1.heap.size + 1) (w1.heap.size + 1 + 1 + 1 + 1 + 1) W2 (w1'.setCell ⟨w.heap.size, 0, none⟩ (.slice (some ⟨g', 0, none⟩) (k + 1) cap')) :=
        Kept.setCell (Kept.grown (Kept.alloc (Kept.refl _ _ _ _ _) (by omega) (by omega) _) hgrow' (by simp; omega) (by simp; omega) fun r e => ⟨by have := (hbx r e).1; omega, .inr (hbx r e).1, (hnr r e).2⟩) (by simp) (.inl (by simp; omega)) _
      have hI3 : unK w (w1.heap.size + 1 + 1 + 1 + 1 + 1) w1.heap.size N ns (k + 1) (w1'.setCell ⟨w.heap.size, 0, none⟩ (.slice (some ⟨g', 0, none⟩) (k + 1) cap')) :=
        ⟨⟨_, heap_set_same hbox', ownsRow_setCell_other hown2 (by simp [Value.ownBlock]; omega) _, by simp⟩, by (simp (disch := first | omega | (simp only [World.size_alloc, World.size_setCell, World.size_drew]; done) | (simp only [World.size_alloc, World.size_setCell, World.size_drew]; omega)) only [heap_at, heap_past, heap_set_other, heap_set_same]); exact hr1', hB2.setCell (by simp) _, by omega⟩
      clear hB2 hrow hown' hB hT
    · have hkN' : k + 1 = N := by
        have h9 := ‹((k : Int) + 1 == (N : Int)) = true›
        simp at h9; omega
      obtain ⟨Q, s1, g1, g2, g3, g4⟩ := HS2.out
      refine ⟨hkp, rfl, hkN', hkN' ▸ hI3, Q, s1, g1, g2, ?_, ?_⟩
      · rw [g3, hkN', Nat.min_self]
      · (simp (disch := first | omega | (simp only [World.size_alloc, World.size_setCell, World.size_drew]; done) | (simp only [World.size_alloc, World.size_setCell, World.size_drew]; omega)) only [heap_at, heap_past, heap_set_other, heap_set_same])
        exact (hgrow'.block (w1.heap.size + 1) (by simp; omega) (hne1 _ (by omega))).trans ((heap_past (by omega)).trans g4)
    · exact ⟨hkp, hI3⟩
  case' done =>
    intro D X hD hI hS hKD
    rw [show min (N + 1) N = N by omega] at hS
  case' stop =>
    intro D c k X hD hkN hX hKD
    obtain ⟨rfl, hkN', hI, hS⟩ := hX
  all_goals
    obtain ⟨⟨v, hbox, hrow, hnil⟩, hr1, hB, -⟩ := hI
    obtain ⟨n9, s9, hr9⟩ := rd_rest hS HRS.out
    have hc1 := cell_of_one hbox
    have ho1 := cell_of_one hr1
    obtain ⟨z, hz⟩ : ∃ z, valD (l.drop (N * b)) = z := ⟨_, rfl⟩
    obtain ⟨wd, hwd⟩ : ∃ wd, widN ns = wd := ⟨_, rfl⟩
    have hgd := HGD.out
    rw [hz] at hr9 hgd
    rw [hwd] at HW hgd
    have cR : X.cell? ⟨w1.heap.size + 1, 0, none⟩ = some (.int .u64 ((z : Nat) : Int)) := by rw [blk_cell hr9]; rfl
    rw [show ns.take N = ns by rw [← HNL.out, List.take_length]] at hrow
    have hSv : SliceAt X v (intsOf ns) := SliceAt.own (base := w1.heap.size + 1 + 1 + 1 + 1 + 1) (e := 3) (by rw [HIL.out]; exact hrow)
    have HSV := hid hSv; have HNIL := hid hnil; have HGD2 := hid hgd
    clear hS hz hwd hnil hSv hgd
    go_wp2_with (go_at_call 34; ((with_reducible refine (HW.out _ _ HSV.out).mono ?_); rintro e w4 ⟨rfl, hb4⟩; have hc4 := cell_step hc1 hb4; have cR4 := cell_step cR hb4; have hz4 := hb4.size))
    · have hgf : good = false := by
        rw [← HGD2.out]
        first
          | (have h9 := ‹((wd : Int) != (b : Int)) = true›; simp at h9 ⊢; omega)
          | (simp; omega)
      (refine wp_goto ?_; go_step; refine jumpFwd_goto rfl ?_; go_wp2)
      rw [Exit.noGoto_ret]
      refine ret_mark (.inl rfl) ((hb4.block D (lt_of_block hKD)).trans hKD) fun w' hT => ?_
      refine ⟨_, by simp only [results, Tryd.results36]; go_simp; try rfl, ?_⟩
      rw [hgf]
      exact ⟨.slice none 0 0, rfl, fun h => by (cases h), (Stab.below (Nat.le_refl _) (Nat.le_refl _)).turn (hB.step hb4) hT (by simp at hD; omega)⟩
    · have hgt : good = true := by
        rw [← HGD2.out]
        have h9 := ‹((wd : Int) != (b : Int)) = false›
        simp at h9 ⊢
        omega
      go_region
      go_wp2
      refine ret_mark (.inl rfl) ((hb4.block D (lt_of_block hKD)).trans hKD) fun w' hT => ?_
      refine ⟨_, by simp only [results, Tryd.results36]; go_simp; try rfl, ?_⟩
      rw [hgt]
      refine ⟨v, rfl, fun _ => ⟨?_, HNIL.out⟩, (Stab.below (Nat.le_refl _) (Nat.le_refl _)).turn (hB.step hb4).drew hT (by simp at hD; omega)⟩
      exact (Stab.row.turn (below_row hb4 hrow).drew hT (Nat.zero_le _)).base_le (by omega)
    · have hgf : good = false := by
        rw [← HGD2.out]
        first
          | (have h9 := ‹((wd : Int) != (b : Int)) = true›; simp at h9 ⊢; omega)
          | (simp; omega)
      (refine wp_goto ?_; go_step; refine jumpFwd_goto rfl ?_; go_wp2)
      rw [Exit.noGoto_ret]
      refine ret_mark (.inl rfl) ((hb4.block D (lt_of_block hKD)).trans hKD) fun w' hT => ?_
      refine ⟨_, by simp only [results, Tryd.results36]; go_simp; try rfl, ?_⟩
      rw [hgf]
      exact ⟨.slice none 0 0, rfl, fun h => by (cases h), (Stab.below (Nat.le_refl _) (Nat.le_refl _)).turn (hB.step hb4) hT (by simp at hD; omega)⟩
end Go.Proofs.YtpgifmccajcgkaaDoor
