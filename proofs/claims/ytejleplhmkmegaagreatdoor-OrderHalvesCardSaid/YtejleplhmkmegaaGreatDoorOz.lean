/- Texts joined: OtU. -/
import Derived.Test.YtejleplhmkmegaaGreatDoorOw
set_option linter.unusedVariables false
set_option linter.unusedSimpArgs false
namespace Go.Proofs.YtejleplhmkmegaaGreatDoor
set_option linter.unusedVariables false
set_option linter.unusedSimpArgs false
set_option maxRecDepth 100000
open Go.ChangeShapes Go.WideShapes Go.ChangeAt Go.RowKit Go.Fl
def oppI (op : Int) : Int := if op = 1 then 2 else if op = 2 then 1 else if op = 3 then 6 else if op = 6 then 3 else if op = 4 then 5 else 4
theorem opposite_any (op : Int) (w : World) : Calls Tryz.prog 18 #[.int .i64 op] w fun e w' => e = .returned (.int .i64 (oppI op)) ∧ w' = w := by
  obtain ⟨r, hr⟩ : ∃ r, oppI op = r := ⟨_, rfl⟩
  rw [hr]
  unfold oppI at hr
  by_cases h1 : op = 1
  · subst h1; simp at hr; subst hr
    go_enter Tryz.func18, Tryz.ntmps18
    go_wp2
    go_ret
    exact ⟨rfl, rfl⟩
  by_cases h2 : op = 2
  · subst h2; simp at hr; subst hr
    go_enter Tryz.func18, Tryz.ntmps18
    go_wp2
    go_ret
    exact ⟨rfl, rfl⟩
  by_cases h3 : op = 3
  · subst h3; simp at hr; subst hr
    go_enter Tryz.func18, Tryz.ntmps18
    go_wp2
    go_ret
    exact ⟨rfl, rfl⟩
  by_cases h6 : op = 6
  · subst h6; simp at hr; subst hr
    go_enter Tryz.func18, Tryz.ntmps18
    go_wp2
    go_ret
    exact ⟨rfl, rfl⟩
  by_cases h4 : op = 4
  · subst h4; simp at hr; subst hr
    go_enter Tryz.func18, Tryz.ntmps18
    go_wp2
    go_ret
    exact ⟨rfl, rfl⟩
  rw [if_neg h1, if_neg h2, if_neg h3, if_neg h6, if_neg h4] at hr
  subst hr
  have k1 : (op == 1) = false := by simpa using h1
  have k2 : (op == 2) = false := by simpa using h2
  have k3 : (op == 3) = false := by simpa using h3
  have k6 : (op == 6) = false := by simpa using h6
  have k4 : (op == 4) = false := by simpa using h4
  go_enter Tryz.func18, Tryz.ntmps18
  go_wp2
  go_ret
  exact ⟨rfl, rfl⟩
theorem opp_cond {op : Int} (h : 1 ≤ op ∧ op ≤ 6) (k : Int) : condB (oppI op) k = !condB op k := by
  have : op = 1 ∨ op = 2 ∨ op = 3 ∨ op = 4 ∨ op = 5 ∨ op = 6 := by omega
  rcases this with rfl | rfl | rfl | rfl | rfl | rfl
  · simp [oppI, condB, bne]
  · simp [oppI, condB, bne]
  · simp only [oppI, condB]; by_cases h : k < 0 <;> simp [h] <;> omega
  · simp only [oppI, condB]; by_cases h : k ≤ 0 <;> simp [h] <;> omega
  · simp only [oppI, condB]; by_cases h : 0 < k <;> simp [h] <;> omega
  · simp only [oppI, condB]; by_cases h : 0 ≤ k <;> simp [h] <;> omega
theorem opp_range {op : Int} (h : 1 ≤ op ∧ op ≤ 6) : 1 ≤ oppI op ∧ oppI op ≤ 6 := by unfold oppI; (repeat' split) <;> omega
theorem checkQ_hav {ds ms : List ByteArray} {g : Int} {d : QryD} {L : List (Nat × FilD)} {c : CondD} (h : checkQ ds ms g d L = 0) (hc : condOkB d.aggs.length c = true) : checkQ ds ms g (d.hav [c]) L = 0 := by
  have hof := checkQ_typed h
  have h2 : isOfB ds ms g (d.hav [c]) = true := by
    unfold isOfB at hof ⊢
    simp only [Bool.and_eq_true] at hof ⊢
    obtain ⟨o1, o2, o3, o4, o5, o6, o7⟩ := hof
    refine ⟨?_, o2, o3, o4, o5, ?_, o7⟩
    · unfold sizesB at o1 ⊢
      simp only [Bool.and_eq_true] at o1 ⊢
      exact ⟨o1.1, o1.2.1, o1.2.2.1, o1.2.2.2.1, by simp [QryD.hav], o1.2.2.2.2.2.1, o1.2.2.2.2.2.2⟩
    · simp only [QryD.hav, List.all_cons, List.all_nil, Bool.and_true]; exact hc
  unfold checkQ at h ⊢
  rw [h2]
  rw [hof] at h
  exact h
theorem linesErr_hav {ds ms : List ByteArray} {g : Int} {d : QryD} {L : List (Nat × FilD)} {l : List CondD} (h : checkQ ds ms g d L = 0) (h1 : checkQ ds ms g (d.hav l) L = 0) : ∀ gs, linesErr ds ms g (d.hav l) L gs = linesErr ds ms g d L gs
  | [] => rfl
  | x :: gs => by
    have e1 : numsErr ds ms g (d.hav l) L x = numsErr ds ms g d L x := by
      unfold numsErr
      rw [if_pos h, if_pos h1]
      rfl
    have e : grpErr ds ms g (d.hav l) L x = grpErr ds ms g d L x := by
      unfold grpErr
      rw [e1]
      rfl
    unfold linesErr
    rw [e, linesErr_hav h h1 gs]
theorem res_hav {ds ms : List ByteArray} {g : Int} {d : QryD} {L : List (Nat × FilD)} {l : List CondD} {gs : List GroupD} (h : checkQ ds ms g d L = 0) (h1 : checkQ ds ms g (d.hav l) L = 0) (he : linesErr ds ms g d L gs = 0) : linesRes ds ms g (d.hav l) L gs = 0 := by
  unfold linesRes
  rw [if_pos h1, linesErr_hav h h1]
  exact he
theorem two_filters {α : Type} {p q : α → Bool} : ∀ l : List α, (∀ x ∈ l, q x = !p x) → (l.filter p).length + (l.filter q).length = l.length
  | [], _ => rfl
  | x :: l, h => by
    have ih := two_filters l (fun y hy => h y (List.mem_cons_of_mem _ hy))
    have hx := h x (List.mem_cons_self ..)
    rw [List.filter_cons, List.filter_cons, hx]
    cases p x <;> simp <;> omega
theorem keptI_none (ds ms : List ByteArray) (g : Int) (d : QryD) (gs : List GroupD) (h : d.having = []) : (keptI ds ms g d gs).length = gs.length := by
  unfold keptI
  rw [List.filter_eq_self.2]
  · rw [List.length_range]
  · intro i hi
    rw [List.mem_range] at hi
    rw [List.getElem?_eq_getElem hi]
    simp only []
    unfold holdL
    rw [h]
    rfl
theorem keptI_two (ds ms : List ByteArray) (g : Int) (d : QryD) (gs : List GroupD) (pos op n : Int) (ho : 1 ≤ op ∧ op ≤ 6) : (keptI ds ms g (d.hav [⟨pos, op, n⟩]) gs).length + (keptI ds ms g (d.hav [⟨pos, oppI op, n⟩]) gs).length = gs.length := by
  unfold keptI
  rw [two_filters, List.length_range]
  intro i hi
  rw [List.mem_range] at hi
  rw [List.getElem?_eq_getElem hi]
  simp only []
  unfold holdL
  simp only [QryD.hav, List.all_cons, List.all_nil, Bool.and_true]
  unfold condL holdsB
  exact opp_cond ho _
theorem cond_new {w X : World} (c : CondD) (h : w.heap.size + 3 ≤ X.heap.size) : SlS (Far 3 w) (X.alloc (.cells #[.int .i64 c.pos, .int .i64 c.op, .int .i64 c.n] 57)) (.slice (some ⟨X.heap.size, 0, none⟩) 1 1) [c].length 3 ([c].flatMap CondD.cells) := by
  refine ⟨by simp [CondD.cells], _, 1, rfl, Nat.le_refl _, (by unfold maxLen; omega), (fun h => by cases h), fun _ => ⟨X.heap.size, 0, rfl, .inr h, fun j u hj => ?_⟩⟩
  rw [World.cell?_alloc_at _ _ _ _ rfl]
  simpa [CondD.cells] using hj
theorem told_len {ds ms : List ByteArray} {g : Int} {q : QryD} {gs : List GroupD} {base : Nat} {w : World} {v : Value} {T : List El} (h : LinesAt ds ms g q gs base w v T) (hl : q.limit = 0) : ∃ a c, v = .slice a (keptI ds ms g q gs).length c := by
  have h1 := h.at_
  have h2 := h.perm.length_eq
  rw [List.length_map] at h2
  rw [hl, limN_neg (by omega), h2] at h1
  obtain ⟨a, c, e, _⟩ := SlAt.shape h1.sl
  exact ⟨a, c, e⟩
set_option maxHeartbeats 16000000 in
theorem OrderHalves_core (q : QryV) (dq : QryD) (vd vm : Value) (ds ms : List ByteArray) (g : Int) (la : Option Addr) (lc : Nat) (vs : List GrpV) (gs : List GroupD) (c : CondD) (w : World) (am an : Addr) (hd : StrsSl w vd ds) (hm : StrsSl w vm ms) (td : ∀ s ∈ ds, s.size ≤ 9223372036854775807) (tm : ∀ s ∈ ms, s.size ≤ 9223372036854775807) (hq : QryIs w q dq) (ok : QryOk dq) (hk : ∀ e, KindsN e dq.wher)
    (hgs : GrpsN (fun _ => True) w (.slice la gs.length lc) vs gs) (hgl : gs.length ≤ 9223372036854775807) (hgo : ∀ d ∈ gs, GrpOk d ∧ ∀ v ∈ d.key, v.s.size ≤ 9223372036854775807) (hc : I64 c.pos ∧ I64 c.op ∧ I64 c.n) (hTab : Tabs w) (hS : SentF am an w) (hT : TypeR w) :
    Calls Tryz.prog 6 #[.agg #[vd, vm, .int .i64 g], .agg q.cells, .slice la gs.length lc, .agg #[.int .i64 c.pos, .int .i64 c.op, .int .i64 c.n]] w fun e w' => e = .returned (.bool true) ∧ Below w.heap.size w w' := by
  have HTab := hid hTab; have HSE := hid hS; have HTY := hid hT
  have SH := hid (fun W (h : Below w.heap.size w W) => shown18_any W (HTab.out.below h (Nat.le_refl _)))
  obtain ⟨ad, cd, rfl, _, _, _⟩ := SlAt.shape hd
  obtain ⟨am', cm, rfl, _, _, _⟩ := SlAt.shape hm
  have CUT := hid (fun W (h : Below w.heap.size w W) => schCut_any _ _ ds ms g W (hd.below h) (hm.below h) td tm)
  have F15 := hid (fun W (h : QryN (Far 3 w) W q dq) => few15_any _ q dq W h ok)
  have QOK := hid (fewQ_ok ok hk)
  have GOK := hid (fewGs_ok (fun d hd => (hgo d hd).1))
  have GRP := hid (fun W (hb : Below w.heap.size w W) => groups_any (fun _ => True) la lc vs gs W (hgs.below hb) (fun d hd => (hgo d hd).2) hgl)
  obtain ⟨NG, hNG⟩ : ∃ NG, gs.length = NG := ⟨_, rfl⟩
  obtain ⟨NF, hNF⟩ : ∃ NF, (fewGs gs).length = NF := ⟨_, rfl⟩
  rw [hNG, hNF] at GRP
  rw [hNG]
  have HNF := hid hNF
  unfold GroupsPost at GRP
  have TD := hid (txt_ok td); have TM := hid (txt_ok tm)
  obtain ⟨ds', hds⟩ : ∃ ds', txtCut 30 10 ds = ds' := ⟨_, rfl⟩
  obtain ⟨ms', hms⟩ : ∃ ms', txtCut 30 10 ms = ms' := ⟨_, rfl⟩
  rw [hds] at CUT TD
  rw [hms] at CUT TM
  have H0 := hid (show ∀ X, X = (((w.alloc (.cells #[.slice ad ds.length cd, .slice am' ms.length cm, .int .i64 g] 45)).alloc (.cells q.cells 33)).alloc (.cells #[.int .i64 c.pos, .int .i64 c.op, .int .i64 c.n] 57)) → LSt w X #[.slice ad ds.length cd, .slice am' ms.length cm, .int .i64 g] q ∧ QryN (Far 3 w) X q dq ∧ X.heap[w.heap.size + 1 + 1]? = some (.cells #[.int .i64 c.pos, .int .i64 c.op, .int .i64 c.n] 57 (0, 0)) from fun X hX => by
    subst hX
    have hB : Below w.heap.size w (((w.alloc (.cells #[.slice ad ds.length cd, .slice am' ms.length cm, .int .i64 g] 45)).alloc (.cells q.cells 33)).alloc (.cells #[.int .i64 c.pos, .int .i64 c.op, .int .i64 c.n] 57)) := by (repeat' (first | (with_reducible exact Below.refl _ _) | (with_reducible assumption) | (with_reducible refine Below.new ?_ _) | (with_reducible refine Below.alloc ?_ ?_ _) | (with_reducible refine Below.drew ?_) | (with_reducible refine Below.drewN ?_ _) | (with_reducible refine Below.setCell ?_ ?_ _) | (refine Below.step ?_ (by assumption)) | go_size))
    exact ⟨⟨by (simp (disch := first | omega | (simp only [World.size_alloc, World.size_setCell, World.size_drew]; done) | (simp only [World.size_alloc, World.size_setCell, World.size_drew]; omega)) only [heap_at, heap_past, heap_set_other, heap_set_same]), by (simp (disch := first | omega | (simp only [World.size_alloc, World.size_setCell, World.size_drew]; done) | (simp only [World.size_alloc, World.size_setCell, World.size_drew]; omega)) only [heap_at, heap_past, heap_set_other, heap_set_same]), hB⟩, hq.all.keep (fun b h => .inl h) (fun b h _ => hB.block b h), by (simp (disch := first | omega | (simp only [World.size_alloc, World.size_setCell, World.size_drew]; done) | (simp only [World.size_alloc, World.size_setCell, World.size_drew]; omega)) only [heap_at, heap_past, heap_set_other, heap_set_same])⟩)
  clear hTab hS hT hd hm td tm hq ok hk hgs hgl hgo hNG hNF hds hms
  have HCC := hid hc
  go_enter Tryz.func6, Tryz.ntmps6
  go_upto_region 4 with (first
    | (go_at_call 8; go_loud ((with_reducible refine (SH.out _ (H0.out _ rfl).1.bel).mono ?_); rintro e x1 ⟨rfl, hb1⟩; have s1 := hid ((H0.out _ rfl).1.step hb1); have n1 := hid ((H0.out _ rfl).2.1.below hb1); have kc1 := hid (blk_below (H0.out _ rfl).2.2 hb1); clear hb1))
    | (refine wpList_load_row rfl _ _ rfl _ rfl _ _ _ _ s1.out.bs Tryz.underlying45 rfl (by exact sinfo3) ?_)
    | (go_at_call 13; go_loud ((with_reducible refine (CUT.out _ s1.out.bel).mono ?_); rintro e x2 ⟨v1, v2, rfl, ho1, ho2, hb2⟩; obtain ⟨a1, c1, rfl, _⟩ := SlAt.shape (SlAt.own ho1); obtain ⟨a2, c2, rfl, _⟩ := SlAt.shape (SlAt.own ho2); have s2 := hid (s1.out.step hb2); have n2 := hid (n1.out.below hb2); have d2 := hid (And.intro ((SlS.own ho1).keep (T := Far 3 w) (fun b hb => .inr (by have := (ho1.lt b hb).1; have := lt_of_block kc1.out; omega)) (fun _ _ _ => rfl)) ((SlS.own ho2).keep (T := Far 3 w) (fun b hb => .inr (by have := (ho2.lt b hb).1; have := lt_of_block kc1.out; omega)) (fun _ _ _ => rfl))); have kc2 := hid (blk_below kc1.out hb2); clear ho1 ho2 hb2))
    | (refine wpList_store_blk rfl _ _ _ rfl _ _ rfl rfl _ _ s2.out.bs (by exact sinfo3) (by rfl) (by simp [Value.oneCell']) ?_; intro x3 hh3 hg3 hz3; have s3 := hid (s2.out.putS hg3 hh3); have n3 := hid (n2.out.keep (fun _ h => h) (far_kept hg3 ⟨Nat.le_refl _, by omega⟩)); have d3 := hid (And.intro (d2.out.1.keep (fun _ h => h) (far_kept hg3 ⟨Nat.le_refl _, by omega⟩)) (d2.out.2.keep (fun _ h => h) (far_kept hg3 ⟨Nat.le_refl _, by omega⟩))); have kc3 := hid ((hg3.block _ (lt_of_block kc2.out) (fun e => by have := Option.some.inj e; omega)).trans kc2.out); clear hh3 hg3 hz3)
    | (refine wpList_load_row rfl _ _ rfl _ rfl _ _ _ _ s3.out.bq Tryz.underlying33 rfl (qinfo _) ?_)
    | (go_at_call 9; go_loud ((with_reducible refine (F15.out _ n3.out).mono ?_); rintro e x4 ⟨q1, rfl, hn, hb4⟩; have s4 := hid (s3.out.step hb4); have n4 := hid (hn.keep (T := Far 3 w) (fun b h => by rcases h with h | h; exact h.1; exact .inr (by have := lt_of_block kc3.out; omega)) (fun _ _ _ => rfl)); have d4 := hid (And.intro (d3.out.1.keep (fun _ h => h) (fun b _ hl => hb4.block b hl)) (d3.out.2.keep (fun _ h => h) (fun b _ hl => hb4.block b hl))); have kc4 := hid (blk_below kc3.out hb4); clear hn hb4))
    | (refine wpList_store_blk rfl _ _ _ rfl _ _ rfl rfl _ _ s4.out.bq (qinfo _) rfl (qcells_one _) ?_; intro x5 hh3 hg3 hz3; have s5 := hid (s4.out.putQ hg3 hh3); have IN := hid (show LawIn (Far 3 w) x5 (.slice a1 ds'.length c1) (.slice a2 ms'.length c2) ds' ms' q1 (fewQ dq) from ⟨d4.out.1.keep (fun _ h => h) (far_kept hg3 ⟨by omega, by omega⟩), d4.out.2.keep (fun _ h => h) (far_kept hg3 ⟨by omega, by omega⟩), n4.out.keep (fun _ h => h) (far_kept hg3 ⟨by omega, by omega⟩)⟩); have kc5 := hid ((hg3.block _ (lt_of_block kc4.out) (fun e => by have := Option.some.inj e; omega)).trans kc4.out); clear hh3 hg3 hz3))
  have k11 := cell_blk (i := 11) (x := .slice q1.ha q1.hn q1.hc) s5.out.bq rfl
  have f11 := free_blk (i := 11) s5.out.bq
  have k13 := cell_blk (i := 13) (x := .int .i64 q1.limit) s5.out.bq rfl
  have f13 := free_blk (i := 13) s5.out.bq
  go_upto_region 6 with fail
  obtain ⟨x6, hx6⟩ : ∃ x6, (x5.setCell ⟨w.heap.size + 1, 11, none⟩ (.slice none 0 0)).setCell ⟨w.heap.size + 1, 13, none⟩ (.int .i64 0) = x6 := ⟨_, rfl⟩
  rw [hx6]
  have s6 := hid (show LSt w x6 #[.slice a1 ds'.length c1, .slice a2 ms'.length c2, .int .i64 g] ((q1.hav none 0 0).lim 0) from by rw [← hx6]; exact (s5.out.set (q' := q1.hav none 0 0) 11 _ rfl).set 13 _ rfl)
  have i0 : I64 0 := by unfold I64; omega
  have IN6 := hid (show LawIn (Far 3 w) x6 (.slice a1 ds'.length c1) (.slice a2 ms'.length c2) ds' ms' ((q1.hav none 0 0).lim 0) (((fewQ dq).hav []).lim 0) from by
    have h := (IN.out.keep (fun _ h => h) (far_set (k := w.heap.size + 1) (o := 11) (v := .slice none 0 0) ⟨by omega, by omega⟩)).keep (fun _ h => h) (far_set (k := w.heap.size + 1) (o := 13) (v := .int .i64 0) ⟨by omega, by omega⟩)
    rw [hx6] at h
    exact ⟨h.hd, h.hm, (h.nq.hav (l := []) ⟨rfl, none, 0, rfl, Nat.le_refl _, by unfold maxLen; omega, fun _ => rfl, fun h => by simp at h⟩).lim 0⟩)
  have kc6 := hid (show x6.heap[w.heap.size + 1 + 1]? = some (.cells #[.int .i64 c.pos, .int .i64 c.op, .int .i64 c.n] 57 (0, 0)) from by rw [← hx6]; exact (heap_set_other (by omega)).trans ((heap_set_other (by omega)).trans kc5.out))
  have QOK6 := hid ((QOK.out.hav (l := []) (by simp) (fun c hc => by cases hc)).lim (n := 0) i0)
  clear k11 f11 k13 f13 hx6
  have QF6 := hid (fun (S : Nat → Prop) y (hb : Below x6.heap.size x6 y) ao cap vs' (hg : GrpsN S y (.slice ao NF cap) vs' (fewGs gs)) => lines_of g (IN6.out.below hb) TD.out TM.out HNF.out hg GOK.out QOK6.out (dep_few _) (HSE.out.below (s6.out.bel.step hb)) (HTY.out.below (s6.out.bel.step hb)))
  have GR6 := hid (fun W (hb : Below x6.heap.size x6 W) => GRP.out W (s6.out.bel.step hb))
  have hS0 : (fun w' : World => w'.heap[w.heap.size]? = some (.cells #[.slice a1 ds'.length c1, .slice a2 ms'.length c2, .int .i64 g] 45 (0, 0)) ∧ w'.heap[w.heap.size + 1]? = some (.cells #[.slice q1.aa q1.an q1.ac, .slice q1.ba q1.bn q1.bc, .int .i64 q1.mode, .slice q1.sa q1.sn q1.sc, .int .i64 q1.every, .int .i64 q1.kind, .string q1.name, .slice q1.wa q1.wn q1.wc, .int .i64 q1.fr, .int .i64 q1.till, .slice q1.la q1.ln q1.lc, .slice none 0 0, .slice q1.oa q1.on q1.oc, .int .i64 0] 33 (0, 0))) x6.drew := ⟨s6.out.bs, s6.out.bq⟩
  refine wp_region_some (fun w' : World => w'.heap[w.heap.size]? = some (.cells #[.slice a1 ds'.length c1, .slice a2 ms'.length c2, .int .i64 g] 45 (0, 0)) ∧ w'.heap[w.heap.size + 1]? = some (.cells #[.slice q1.aa q1.an q1.ac, .slice q1.ba q1.bn q1.bc, .int .i64 q1.mode, .slice q1.sa q1.sn q1.sc, .int .i64 q1.every, .int .i64 q1.kind, .string q1.name, .slice q1.wa q1.wn q1.wc, .int .i64 q1.fr, .int .i64 q1.till, .slice q1.la q1.ln q1.lc, .slice none 0 0, .slice q1.oa q1.on q1.oc, .int .i64 0] 33 (0, 0))) [5, 6, 7, 8, 9] (by kernel_rfl) ?_
  (refine wpMix_take (i := 0) (v := ?_) rfl (by kernel_rfl) (fun _ _ _ h => h) (Or.inl ⟨by rfl, ?_⟩) hS0 ?_; rotate_left 1; (focus (intro w' hSw; (try dsimp only at hSw); have k0 := cell_blk (i := 0) (x := .slice a1 ds'.length c1) hSw.1 rfl; have k1 := cell_blk (i := 1) (x := .slice a2 ms'.length c2) hSw.1 rfl; have k2 := cell_blk (i := 2) (x := .int .i64 g) hSw.1 rfl; clear hSw; go_simp; try (with_reducible rfl))); (try simp only [Act.put, List.setIfInBounds_toArray, List.set_cons_zero, List.set_cons_succ]))
  (refine wpMix_take (i := 1) (v := ?_) rfl (by kernel_rfl) (fun _ _ _ h => h) (Or.inl ⟨by rfl, ?_⟩) hS0 ?_; rotate_left 1; (focus (intro w' hSw; (try dsimp only at hSw); have k0 := cell_blk (i := 0) (x := .slice q1.aa q1.an q1.ac) hSw.2 rfl; have k1 := cell_blk (i := 1) (x := .slice q1.ba q1.bn q1.bc) hSw.2 rfl; have k2 := cell_blk (i := 2) (x := .int .i64 q1.mode) hSw.2 rfl; have k3 := cell_blk (i := 3) (x := .slice q1.sa q1.sn q1.sc) hSw.2 rfl; have k4 := cell_blk (i := 4) (x := .int .i64 q1.every) hSw.2 rfl; have k5 := cell_blk (i := 5) (x := .int .i64 q1.kind) hSw.2 rfl; have k6 := cell_blk (i := 6) (x := .string q1.name) hSw.2 rfl; have k7 := cell_blk (i := 7) (x := .slice q1.wa q1.wn q1.wc) hSw.2 rfl; have k8 := cell_blk (i := 8) (x := .int .i64 q1.fr) hSw.2 rfl; have k9 := cell_blk (i := 9) (x := .int .i64 q1.till) hSw.2 rfl; have k10 := cell_blk (i := 10) (x := .slice q1.la q1.ln q1.lc) hSw.2 rfl; have k11 := cell_blk (i := 11) (x := .slice none 0 0) hSw.2 rfl; have k12 := cell_blk (i := 12) (x := .slice q1.oa q1.on q1.oc) hSw.2 rfl; have k13 := cell_blk (i := 13) (x := .int .i64 0) hSw.2 rfl; clear hSw; go_simp; try (with_reducible rfl))); (try simp only [Act.put, List.setIfInBounds_toArray, List.set_cons_zero, List.set_cons_succ]))
  (refine wpMix_take (i := 2) (v := ?_) rfl (by kernel_rfl) (fun _ _ _ h => h) (Or.inl ⟨by rfl, ?_⟩) hS0 ?_; rotate_left 1; (focus (intro w hSw; (try dsimp only at hSw); go_simp; try (with_reducible rfl))); (try simp only [Act.put, List.setIfInBounds_toArray, List.set_cons_zero, List.set_cons_succ]))
  refine wpMix_next (t := 3) (by kernel_rfl) ?_
  simp only [opsAt, List.flatMap_cons, List.flatMap_nil, List.take_succ_cons, List.take_zero, List.drop_succ_cons, List.drop_zero, List.append_nil, List.cons_append, List.nil_append]
  go_wp2_with (go_at_call 14; go_loud ((with_reducible refine (GR6.out _ (Below.drew (Below.refl _ _))).mono ?_); rintro e y7 ⟨ao7, cap7, vs7, rfl, hg7, hb7⟩))
  have hB7 : Below x6.heap.size x6 y7 := (Below.drew (Below.refl _ _)).trans hb7
  have sy7 := hid (s6.out.step hB7)
  have HG7 := hid hg7
  have CL7 := hid (QF6.out _ _ hB7 _ _ _ hg7)
  have HB7 := hid hB7
  simp only [QryV.cells, QryV.hav, QryV.lim] at CL7
  refine ⟨⟨sy7.out.bs, sy7.out.bq⟩, ?_⟩
  clear hS0 hb7 hB7 hg7
  refine wpMix_next (t := 4) (by kernel_rfl) ?_
  simp only [opsAt, List.flatMap_cons, List.flatMap_nil, List.take_succ_cons, List.take_zero, List.drop_succ_cons, List.drop_zero, List.append_nil, List.cons_append, List.nil_append]
  go_wp2_with (go_at_call 15; go_loud ((with_reducible refine (CL7.out).mono ?_); rintro e z7 ⟨v7, rfl, hb7, h7⟩; have sz7 := hid (sy7.out.step hb7); have HZ7 := hid hb7; have R7 := hid h7; clear hb7 h7))
  refine ⟨⟨sz7.out.bs, sz7.out.bq⟩, ?_⟩
  (refine wpMix_free (i := 5) (v := ?_) rfl (by kernel_rfl) (fun _ _ _ h => h) (Or.inl ⟨by rfl, ?_⟩) ?_; rotate_left 1; (focus (intro w hSw; go_simp; try (with_reducible rfl))); (try simp only [Act.put, List.setIfInBounds_toArray, List.set_cons_zero, List.set_cons_succ]))
  (refine wpMix_free (i := 6) (v := ?_) rfl (by kernel_rfl) (fun _ _ _ h => h) (Or.inl ⟨by rfl, ?_⟩) ?_; rotate_left 1; (focus (intro w hSw; go_simp; try (with_reducible rfl))); (try simp only [Act.put, List.setIfInBounds_toArray, List.set_cons_zero, List.set_cons_succ]))
  (refine wpMix_free (i := 7) (v := ?_) rfl (by kernel_rfl) (fun _ _ _ h => h) (Or.inl ⟨by rfl, ?_⟩) ?_; rotate_left 1; (focus (intro w hSw; go_simp; try (with_reducible rfl))); (try simp only [Act.put, List.setIfInBounds_toArray, List.set_cons_zero, List.set_cons_succ]))
  refine wpMix_rest [8, 9] (by kernel_rfl) ?_
  simp only [opsAt, List.flatMap_cons, List.flatMap_nil, List.take_succ_cons, List.take_zero, List.drop_succ_cons, List.drop_zero, List.append_nil, List.cons_append, List.nil_append]
  go_upto_region 7 with fail
  obtain ⟨er, her⟩ : ∃ er, linesRes ds' ms' g (((fewQ dq).hav []).lim 0) (flatN 8 1 (((fewQ dq).hav []).lim 0).wher) (fewGs gs) = er := ⟨_, rfl⟩
  rw [her] at R7 ⊢
  have hz1 := HB7.out.size; have hz2 := HZ7.out.size
  rcases R7.out with ⟨hne, rfl⟩ | ⟨h0, T, hT⟩
  · have h1 : (er == 0) = false := by simpa using hne
    have h3 : (er != 0) = true := by simpa using hne
    go_wp2
    go_ret
    exact ⟨rfl, sz7.out.bel⟩
  · subst h0
    obtain ⟨hck, hle⟩ := res_zero her
    obtain ⟨a0, c0, rfl⟩ := told_len hT rfl
    rw [keptI_none _ _ _ _ _ rfl, HNF.out]
    have HCK := hid hck; have HLE := hid hle
    have kc7 := hid (blk_below (blk_below kc6.out HB7.out) HZ7.out)
    have p0 := cell_blk (i := 0) (x := .int .i64 c.pos) kc7.out rfl
    have p1 := cell_blk (i := 1) (x := .int .i64 c.op) kc7.out rfl
    have p2 := cell_blk (i := 2) (x := .int .i64 c.n) kc7.out rfl
    have g0 := cell_blk (i := 0) (x := .slice q1.aa q1.an q1.ac) sz7.out.bq rfl
    have hAN : q1.an = (fewQ dq).aggs.length := (SlAt.parts IN.out.nq.aggs.sl).1
    obtain ⟨NA, hNA⟩ : ∃ NA, (fewQ dq).aggs.length = NA := ⟨_, rfl⟩
    rw [hAN, hNA] at g0
    have HNA := hid hNA
    clear hT hck hle her R7 hAN hNA
    by_cases cp : c.pos < 0
    · have d1 : decide (c.pos < 0) = true := by simpa using cp
      go_wp2
      go_ret
      exact ⟨rfl, sz7.out.bel⟩
    by_cases cn : (NA : Int) ≤ c.pos
    · have d1 : decide (c.pos < 0) = false := by simpa using cp
      have d2 : decide ((NA : Int) ≤ c.pos) = true := by simpa using cn
      go_wp2
      go_ret
      exact ⟨rfl, sz7.out.bel⟩
    by_cases c1' : c.op < 1
    · have d1 : decide (c.pos < 0) = false := by simpa using cp
      have d2 : decide ((NA : Int) ≤ c.pos) = false := by simpa using cn
      have d3 : decide (c.op < 1) = true := by simpa using c1'
      go_wp2
      go_ret
      exact ⟨rfl, sz7.out.bel⟩
    by_cases c6' : 6 < c.op
    · have d1 : decide (c.pos < 0) = false := by simpa using cp
      have d2 : decide ((NA : Int) ≤ c.pos) = false := by simpa using cn
      have d3 : decide (c.op < 1) = false := by simpa using c1'
      have d4 : decide (6 < c.op) = true := by simpa using c6'
      go_wp2
      go_ret
      exact ⟨rfl, sz7.out.bel⟩
    have d1 : decide (c.pos < 0) = false := by simpa using cp
    have d2 : decide ((NA : Int) ≤ c.pos) = false := by simpa using cn
    have d3 : decide (c.op < 1) = false := by simpa using c1'
    have d4 : decide (6 < c.op) = false := by simpa using c6'
    have HOPR := hid (show 1 ≤ c.op ∧ c.op ≤ 6 from by omega)
    have HPOS := hid (show 0 ≤ c.pos ∧ c.pos < (NA : Int) from by omega)
    go_upto_region 9 with fail
    clear d1 d2 d3 d4 cp cn c1' c6' g0
    go_cut [12] (fun s12 wx => s12 = .pointer (some ⟨z7.heap.size, 0, none⟩) ∧ Below z7.heap.size z7 wx ∧ wx.heap[z7.heap.size]? = some (.cells #[.int .i64 c.pos, .int .i64 (oppI c.op), .int .i64 c.n] 57 (0, 0)))
    case first => as_aux_lemma =>
      have OPP := hid (fun W => opposite_any c.op W)
      have hS0 : (fun w' : World => w'.cell? ⟨w.heap.size + 1 + 1, 0, none⟩ = some (.int .i64 c.pos) ∧ w'.cell? ⟨w.heap.size + 1 + 1, 1, none⟩ = some (.int .i64 c.op) ∧ w'.cell? ⟨w.heap.size + 1 + 1, 2, none⟩ = some (.int .i64 c.n)) z7.drew := ⟨p0, p1, p2⟩
      refine wp_region_some (fun w' : World => w'.cell? ⟨w.heap.size + 1 + 1, 0, none⟩ = some (.int .i64 c.pos) ∧ w'.cell? ⟨w.heap.size + 1 + 1, 1, none⟩ = some (.int .i64 c.op) ∧ w'.cell? ⟨w.heap.size + 1 + 1, 2, none⟩ = some (.int .i64 c.n)) [7, 9] (by kernel_rfl) ?_
      (refine wpMix_take (i := 0) (v := ?_) rfl (by kernel_rfl) (fun _ _ _ h => h) (Or.inl ⟨by rfl, ?_⟩) hS0 ?_; rotate_left 1; (focus (intro w hSw; (try dsimp only at hSw); go_simp; try (with_reducible rfl))); (try simp only [Act.put, List.setIfInBounds_toArray, List.set_cons_zero, List.set_cons_succ]))
      (refine wpMix_take (i := 1) (v := ?_) rfl (by kernel_rfl) (fun _ _ _ h => h) (Or.inl ⟨by rfl, ?_⟩) hS0 ?_; rotate_left 1; (focus (intro w hSw; (try dsimp only at hSw); go_simp; try (with_reducible rfl))); (try simp only [Act.put, List.setIfInBounds_toArray, List.set_cons_zero, List.set_cons_succ]))
      (refine wpMix_take (i := 2) (v := ?_) rfl (by kernel_rfl) (fun _ _ _ h => h) (Or.inl ⟨by rfl, ?_⟩) hS0 ?_; rotate_left 1; (focus (intro w hSw; (try dsimp only at hSw); go_simp; try (with_reducible rfl))); (try simp only [Act.put, List.setIfInBounds_toArray, List.set_cons_zero, List.set_cons_succ]))
      (refine wpMix_take (i := 3) (v := ?_) rfl (by kernel_rfl) (fun _ _ _ h => h) (Or.inl ⟨by rfl, ?_⟩) hS0 ?_; rotate_left 1; (focus (intro w hSw; (try dsimp only at hSw); go_simp; try (with_reducible rfl))); (try simp only [Act.put, List.setIfInBounds_toArray, List.set_cons_zero, List.set_cons_succ]))
      (refine wpMix_take (i := 4) (v := ?_) rfl (by kernel_rfl) (fun _ _ _ h => h) (Or.inl ⟨by rfl, ?_⟩) hS0 ?_; rotate_left 1; (focus (intro w hSw; (try dsimp only at hSw); go_simp; try (with_reducible rfl))); (try simp only [Act.put, List.setIfInBounds_toArray, List.set_cons_zero, List.set_cons_succ]))
      (refine wpMix_take (i := 5) (v := ?_) rfl (by kernel_rfl) (fun _ _ _ h => h) (Or.inl ⟨by rfl, ?_⟩) hS0 ?_; rotate_left 1; (focus (intro w hSw; (try dsimp only at hSw); go_simp; try (with_reducible rfl))); (try simp only [Act.put, List.setIfInBounds_toArray, List.set_cons_zero, List.set_cons_succ]))
      have hba : Below z7.heap.size z7 (z7.drew.alloc (.cells #[.int .i64 0, .int .i64 0, .int .i64 0] 57)) := by (repeat' (first | (with_reducible exact Below.refl _ _) | (with_reducible assumption) | (with_reducible refine Below.new ?_ _) | (with_reducible refine Below.alloc ?_ ?_ _) | (with_reducible refine Below.drew ?_) | (with_reducible refine Below.drewN ?_ _) | (with_reducible refine Below.setCell ?_ ?_ _) | (refine Below.step ?_ (by assumption)) | go_size))
      refine wpMix_pick [6, 8] (by kernel_rfl) (pick_two ?_ ?_) (by simp)
      all_goals simp only [opsAt, List.flatMap_cons, List.flatMap_nil, List.take_succ_cons, List.take_zero, List.drop_succ_cons, List.drop_zero, List.append_nil, List.cons_append, List.nil_append]
      · go_wp2_with (go_at_call 18; go_loud ((with_reducible refine (OPP.out _).mono ?_); rintro e y ⟨rfl, rfl⟩))
        refine ⟨hS0, ?_⟩
        (refine wpMix_free (i := 7) (v := ?_) rfl (by kernel_rfl) (fun _ _ _ h => h) (Or.inl ⟨by rfl, ?_⟩) ?_; rotate_left 1; (focus (intro w hSw; go_simp; try (with_reducible rfl))); (try simp only [Act.put, List.setIfInBounds_toArray, List.set_cons_zero, List.set_cons_succ]))
        refine wpMix_next (t := 8) (by kernel_rfl) ?_
        simp only [opsAt, List.flatMap_cons, List.flatMap_nil, List.take_succ_cons, List.take_zero, List.drop_succ_cons, List.drop_zero, List.append_nil, List.cons_append, List.nil_append]
        go_wp2
        refine ⟨⟨cell_step p0 hba, cell_step p1 hba, cell_step p2 hba⟩, ?_⟩
        refine wpMix_rest [9] (by kernel_rfl) ?_
        simp only [opsAt, List.flatMap_cons, List.flatMap_nil, List.take_succ_cons, List.take_zero, List.drop_succ_cons, List.drop_zero, List.append_nil, List.cons_append, List.nil_append]
        go_wp2_with (go_loud (refine wpList_store_blk rfl _ _ _ rfl _ _ rfl rfl _ _ (heap_at rfl) (by exact cinfo3) (by rfl) (by simp [Value.oneCell']) ?_; intro X1 hh1 hg1 hz1))
        go_meet
        exact ⟨rfl, hba.grown hg1 hba.size (fun r e => by cases e; exact Nat.le_refl _), hh1⟩
      · go_wp2
        refine ⟨⟨cell_step p0 hba, cell_step p1 hba, cell_step p2 hba⟩, ?_⟩
        have hS1 : (fun w' : World => w'.cell? ⟨w.heap.size + 1 + 1, 0, none⟩ = some (.int .i64 c.pos) ∧ w'.cell? ⟨w.heap.size + 1 + 1, 1, none⟩ = some (.int .i64 c.op) ∧ w'.cell? ⟨w.heap.size + 1 + 1, 2, none⟩ = some (.int .i64 c.n)) (z7.drew.alloc (.cells #[.int .i64 0, .int .i64 0, .int .i64 0] 57)) := ⟨cell_step p0 hba, cell_step p1 hba, cell_step p2 hba⟩
        refine wpMix_next (t := 6) (by kernel_rfl) ?_
        simp only [opsAt, List.flatMap_cons, List.flatMap_nil, List.take_succ_cons, List.take_zero, List.drop_succ_cons, List.drop_zero, List.append_nil, List.cons_append, List.nil_append]
        go_wp2_with (go_at_call 18; go_loud ((with_reducible refine (OPP.out _).mono ?_); rintro e y ⟨rfl, rfl⟩))
        refine ⟨hS1, ?_⟩
        refine wpMix_rest [7, 9] (by kernel_rfl) ?_
        simp only [opsAt, List.flatMap_cons, List.flatMap_nil, List.take_succ_cons, List.take_zero, List.drop_succ_cons, List.drop_zero, List.append_nil, List.cons_append, List.nil_append]
        go_wp2_with (go_loud (refine wpList_store_blk rfl _ _ _ rfl _ _ rfl rfl _ _ (heap_at rfl) (by exact cinfo3) (by rfl) (by simp [Value.oneCell']) ?_; intro X1 hh1 hg1 hz1))
        go_meet
        exact ⟨rfl, hba.grown hg1 hba.size (fun r e => by cases e; exact Nat.le_refl _), hh1⟩
    case rest => as_aux_lemma =>
      obtain ⟨rfl, hbx, hox⟩ := hcut
      obtain ⟨x8, rfl⟩ : ∃ V, V = wc := ⟨_, rfl⟩
      have s8 := hid (sz7.out.step hbx)
      have kc8 := hid (blk_below kc7.out hbx)
      have HOX := hid hox
      have HX8 := hid ((HB7.out.trans (HZ7.out.mono hz1)).step hbx)
      have hw8 := lt_of_block kc8.out
      have hz8 := lt_of_block hox
      have NFL := hid (show NF ≤ 1000 from by have := GOK.out.len; rw [HNF.out] at this; exact this)
      have CND := hid (show condOkB (((fewQ dq).hav []).lim 0).aggs.length c = true from by
        have h1 := HPOS.out; have h2 := HOPR.out; have h3 := HNA.out
        unfold condOkB withinB
        simp only [Bool.and_eq_true, decide_eq_true_eq]
        show (0 ≤ c.pos ∧ c.pos ≤ ((fewQ dq).aggs.length : Int) - 1) ∧ _
        omega)
      have CND2 := hid (show condOkB (((fewQ dq).hav []).lim 0).aggs.length ⟨c.pos, oppI c.op, c.n⟩ = true from by
        have h1 := HPOS.out; have h2 := opp_range HOPR.out; have h3 := HNA.out
        unfold condOkB withinB
        simp only [Bool.and_eq_true, decide_eq_true_eq]
        show (0 ≤ c.pos ∧ c.pos ≤ ((fewQ dq).aggs.length : Int) - 1) ∧ _
        omega)
      have e0 := cell_blk (i := 0) (x := .int .i64 c.pos) kc8.out rfl
      have e1 := cell_blk (i := 1) (x := .int .i64 c.op) kc8.out rfl
      have e2 := cell_blk (i := 2) (x := .int .i64 c.n) kc8.out rfl
      have k11 := cell_blk (i := 11) (x := .slice none 0 0) s8.out.bq rfl
      have f11 := free_blk (i := 11) s8.out.bq
      have ow := lt_of_block s8.out.bq
      clear hbx hox p0 p1 p2
      go_upto_region 11 with fail
      obtain ⟨x9, hx9⟩ : ∃ x9, (x8.setCell ⟨w.heap.size + 1, 11, none⟩ (.slice (some ⟨x8.heap.size, 0, none⟩) 1 1)).alloc (.cells #[.int .i64 c.pos, .int .i64 c.op, .int .i64 c.n] 57) = x9 := ⟨_, rfl⟩
      rw [hx9]
      have s9 := hid (show LSt w x9 #[.slice a1 ds'.length c1, .slice a2 ms'.length c2, .int .i64 g] (((q1.hav none 0 0).lim 0).hav (some ⟨x8.heap.size, 0, none⟩) 1 1) from by rw [← hx9]; exact (s8.out.set (q' := ((q1.hav none 0 0).lim 0).hav (some ⟨x8.heap.size, 0, none⟩) 1 1) 11 _ rfl).step ((Below.refl _ _).new _))
      have IN9 := hid (show LawIn (Far 3 w) x9 (.slice a1 ds'.length c1) (.slice a2 ms'.length c2) ds' ms' (((q1.hav none 0 0).lim 0).hav (some ⟨x8.heap.size, 0, none⟩) 1 1) ((((fewQ dq).hav []).lim 0).hav [c]) from by
        have h := ((IN6.out.below HX8.out).keep (fun _ h => h) (far_set (k := w.heap.size + 1) (o := 11) (v := .slice (some ⟨x8.heap.size, 0, none⟩) 1 1) ⟨by omega, by omega⟩)).below ((Below.refl _ _).new (.cells #[.int .i64 c.pos, .int .i64 c.op, .int .i64 c.n] 57))
        have h2 := cond_new c (X := x8.setCell ⟨w.heap.size + 1, 11, none⟩ (.slice (some ⟨x8.heap.size, 0, none⟩) 1 1)) (w := w) (by simp only [World.size_setCell]; omega)
        rw [World.size_setCell] at h2
        rw [hx9] at h h2
        exact ⟨h.hd, h.hm, h.nq.hav h2⟩)
      have hb9 : w.heap.size + 1 + 1 < (x8.setCell ⟨w.heap.size + 1, 11, none⟩ (.slice (some ⟨x8.heap.size, 0, none⟩) 1 1)).heap.size ∧ z7.heap.size < (x8.setCell ⟨w.heap.size + 1, 11, none⟩ (.slice (some ⟨x8.heap.size, 0, none⟩) 1 1)).heap.size := by simp only [World.size_setCell]; omega
      have kc9 := hid (show x9.heap[w.heap.size + 1 + 1]? = some (.cells #[.int .i64 c.pos, .int .i64 c.op, .int .i64 c.n] 57 (0, 0)) from by rw [← hx9]; exact (heap_past hb9.1).trans ((heap_set_other (by omega)).trans kc8.out))
      have ko9 := hid (show x9.heap[z7.heap.size]? = some (.cells #[.int .i64 c.pos, .int .i64 (oppI c.op), .int .i64 c.n] 57 (0, 0)) from by rw [← hx9]; exact (heap_past hb9.2).trans ((heap_set_other (by have := sz7.out.size; omega)).trans HOX.out))
      have hz9 : x8.heap.size < x9.heap.size := by rw [← hx9]; simp
      have QOK9 := hid (QOK6.out.hav (l := [c]) (by simp) (fun d hd => by rw [List.mem_singleton] at hd; subst hd; exact HCC.out.2))
      have CH1 := hid (checkQ_hav HCK.out CND.out)
      have CH2 := hid (checkQ_hav HCK.out CND2.out)
      have LR1 : Hid (linesRes ds' ms' g ((((fewQ dq).hav []).lim 0).hav [c]) (flatN 8 1 ((((fewQ dq).hav []).lim 0).hav [c]).wher) (fewGs gs) = 0) := res_hav HCK.out CH1.out HLE.out
      have LR2 : Hid (linesRes ds' ms' g ((((fewQ dq).hav []).lim 0).hav [⟨c.pos, oppI c.op, c.n⟩]) (flatN 8 1 ((((fewQ dq).hav []).lim 0).hav [⟨c.pos, oppI c.op, c.n⟩]).wher) (fewGs gs) = 0) := res_hav HCK.out CH2.out HLE.out
      clear e0 e1 e2 k11 f11 hb9 hx9
      have QF9 := hid (fun (S : Nat → Prop) y (hb : Below x9.heap.size x9 y) ao cap vs' (hg : GrpsN S y (.slice ao NF cap) vs' (fewGs gs)) => lines_of g (IN9.out.below hb) TD.out TM.out HNF.out hg GOK.out QOK9.out (dep_few _) (HSE.out.below (s9.out.bel.step hb)) (HTY.out.below (s9.out.bel.step hb)))
      have GR9 := hid (fun W (hb : Below x9.heap.size x9 W) => GRP.out W (s9.out.bel.step hb))
      have hS0 : (fun w' : World => w'.heap[w.heap.size]? = some (.cells #[.slice a1 ds'.length c1, .slice a2 ms'.length c2, .int .i64 g] 45 (0, 0)) ∧ w'.heap[w.heap.size + 1]? = some (.cells #[.slice q1.aa q1.an q1.ac, .slice q1.ba q1.bn q1.bc, .int .i64 q1.mode, .slice q1.sa q1.sn q1.sc, .int .i64 q1.every, .int .i64 q1.kind, .string q1.name, .slice q1.wa q1.wn q1.wc, .int .i64 q1.fr, .int .i64 q1.till, .slice q1.la q1.ln q1.lc, .slice (some ⟨x8.heap.size, 0, none⟩) 1 1, .slice q1.oa q1.on q1.oc, .int .i64 0] 33 (0, 0))) x9.drew := ⟨s9.out.bs, s9.out.bq⟩
      refine wp_region_some (fun w' : World => w'.heap[w.heap.size]? = some (.cells #[.slice a1 ds'.length c1, .slice a2 ms'.length c2, .int .i64 g] 45 (0, 0)) ∧ w'.heap[w.heap.size + 1]? = some (.cells #[.slice q1.aa q1.an q1.ac, .slice q1.ba q1.bn q1.bc, .int .i64 q1.mode, .slice q1.sa q1.sn q1.sc, .int .i64 q1.every, .int .i64 q1.kind, .string q1.name, .slice q1.wa q1.wn q1.wc, .int .i64 q1.fr, .int .i64 q1.till, .slice q1.la q1.ln q1.lc, .slice (some ⟨x8.heap.size, 0, none⟩) 1 1, .slice q1.oa q1.on q1.oc, .int .i64 0] 33 (0, 0))) [5, 6, 7, 8, 9] (by kernel_rfl) ?_
      (refine wpMix_take (i := 0) (v := ?_) rfl (by kernel_rfl) (fun _ _ _ h => h) (Or.inl ⟨by rfl, ?_⟩) hS0 ?_; rotate_left 1; (focus (intro w' hSw; (try dsimp only at hSw); have k0 := cell_blk (i := 0) (x := .slice a1 ds'.length c1) hSw.1 rfl; have k1 := cell_blk (i := 1) (x := .slice a2 ms'.length c2) hSw.1 rfl; have k2 := cell_blk (i := 2) (x := .int .i64 g) hSw.1 rfl; clear hSw; go_simp; try (with_reducible rfl))); (try simp only [Act.put, List.setIfInBounds_toArray, List.set_cons_zero, List.set_cons_succ]))
      (refine wpMix_take (i := 1) (v := ?_) rfl (by kernel_rfl) (fun _ _ _ h => h) (Or.inl ⟨by rfl, ?_⟩) hS0 ?_; rotate_left 1; (focus (intro w' hSw; (try dsimp only at hSw); have k0 := cell_blk (i := 0) (x := .slice q1.aa q1.an q1.ac) hSw.2 rfl; have k1 := cell_blk (i := 1) (x := .slice q1.ba q1.bn q1.bc) hSw.2 rfl; have k2 := cell_blk (i := 2) (x := .int .i64 q1.mode) hSw.2 rfl; have k3 := cell_blk (i := 3) (x := .slice q1.sa q1.sn q1.sc) hSw.2 rfl; have k4 := cell_blk (i := 4) (x := .int .i64 q1.every) hSw.2 rfl; have k5 := cell_blk (i := 5) (x := .int .i64 q1.kind) hSw.2 rfl; have k6 := cell_blk (i := 6) (x := .string q1.name) hSw.2 rfl; have k7 := cell_blk (i := 7) (x := .slice q1.wa q1.wn q1.wc) hSw.2 rfl; have k8 := cell_blk (i := 8) (x := .int .i64 q1.fr) hSw.2 rfl; have k9 := cell_blk (i := 9) (x := .int .i64 q1.till) hSw.2 rfl; have k10 := cell_blk (i := 10) (x := .slice q1.la q1.ln q1.lc) hSw.2 rfl; have k11 := cell_blk (i := 11) (x := .slice (some ⟨x8.heap.size, 0, none⟩) 1 1) hSw.2 rfl; have k12 := cell_blk (i := 12) (x := .slice q1.oa q1.on q1.oc) hSw.2 rfl; have k13 := cell_blk (i := 13) (x := .int .i64 0) hSw.2 rfl; clear hSw; go_simp; try (with_reducible rfl))); (try simp only [Act.put, List.setIfInBounds_toArray, List.set_cons_zero, List.set_cons_succ]))
      (refine wpMix_take (i := 2) (v := ?_) rfl (by kernel_rfl) (fun _ _ _ h => h) (Or.inl ⟨by rfl, ?_⟩) hS0 ?_; rotate_left 1; (focus (intro w hSw; (try dsimp only at hSw); go_simp; try (with_reducible rfl))); (try simp only [Act.put, List.setIfInBounds_toArray, List.set_cons_zero, List.set_cons_succ]))
      refine wpMix_next (t := 3) (by kernel_rfl) ?_
      simp only [opsAt, List.flatMap_cons, List.flatMap_nil, List.take_succ_cons, List.take_zero, List.drop_succ_cons, List.drop_zero, List.append_nil, List.cons_append, List.nil_append]
      go_wp2_with (go_at_call 14; go_loud ((with_reducible refine (GR9.out _ (Below.drew (Below.refl _ _))).mono ?_); rintro e y10 ⟨ao10, cap10, vs10, rfl, hg10, hb10⟩))
      have hB10 : Below x9.heap.size x9 y10 := (Below.drew (Below.refl _ _)).trans hb10
      have sy10 := hid (s9.out.step hB10)
      have HG10 := hid hg10
      have CL10 := hid (QF9.out _ _ hB10 _ _ _ hg10)
      have HB10 := hid hB10
      simp only [QryV.cells, QryV.hav, QryV.lim] at CL10
      refine ⟨⟨sy10.out.bs, sy10.out.bq⟩, ?_⟩
      clear hS0 hb10 hB10 hg10
      refine wpMix_next (t := 4) (by kernel_rfl) ?_
      simp only [opsAt, List.flatMap_cons, List.flatMap_nil, List.take_succ_cons, List.take_zero, List.drop_succ_cons, List.drop_zero, List.append_nil, List.cons_append, List.nil_append]
      go_wp2_with (go_at_call 15; go_loud ((with_reducible refine (CL10.out).mono ?_); rintro e z10 ⟨v10, rfl, hb10, h10⟩; have sz10 := hid (sy10.out.step hb10); have HZ10 := hid hb10; have R10 := hid h10; clear hb10 h10))
      refine ⟨⟨sz10.out.bs, sz10.out.bq⟩, ?_⟩
      (refine wpMix_free (i := 5) (v := ?_) rfl (by kernel_rfl) (fun _ _ _ h => h) (Or.inl ⟨by rfl, ?_⟩) ?_; rotate_left 1; (focus (intro w hSw; go_simp; try (with_reducible rfl))); (try simp only [Act.put, List.setIfInBounds_toArray, List.set_cons_zero, List.set_cons_succ]))
      (refine wpMix_free (i := 6) (v := ?_) rfl (by kernel_rfl) (fun _ _ _ h => h) (Or.inl ⟨by rfl, ?_⟩) ?_; rotate_left 1; (focus (intro w hSw; go_simp; try (with_reducible rfl))); (try simp only [Act.put, List.setIfInBounds_toArray, List.set_cons_zero, List.set_cons_succ]))
      (refine wpMix_free (i := 7) (v := ?_) rfl (by kernel_rfl) (fun _ _ _ h => h) (Or.inl ⟨by rfl, ?_⟩) ?_; rotate_left 1; (focus (intro w hSw; go_simp; try (with_reducible rfl))); (try simp only [Act.put, List.setIfInBounds_toArray, List.set_cons_zero, List.set_cons_succ]))
      refine wpMix_rest [8, 9] (by kernel_rfl) ?_
      simp only [opsAt, List.flatMap_cons, List.flatMap_nil, List.take_succ_cons, List.take_zero, List.drop_succ_cons, List.drop_zero, List.append_nil, List.cons_append, List.nil_append]
      go_upto_region 12 with fail
      rw [LR1.out] at R10 ⊢
      rcases R10.out with ⟨hne, _⟩ | ⟨_, T1, hT1⟩
      · exact absurd rfl hne
      obtain ⟨a10, c10, rfl⟩ := told_len hT1 rfl
      have kc10 := hid (blk_below (blk_below kc9.out HB10.out) HZ10.out)
      have ko10 := hid (blk_below (blk_below ko9.out HB10.out) HZ10.out)
      have hw10 := lt_of_block kc10.out
      have HX10 := hid (HB10.out.trans (HZ10.out.mono HB10.out.size))
      have e0 := cell_blk (i := 0) (x := .int .i64 c.pos) ko10.out rfl
      have e1 := cell_blk (i := 1) (x := .int .i64 (oppI c.op)) ko10.out rfl
      have e2 := cell_blk (i := 2) (x := .int .i64 c.n) ko10.out rfl
      have k11 := cell_blk (i := 11) (x := .slice (some ⟨x8.heap.size, 0, none⟩) 1 1) sz10.out.bq rfl
      have f11 := free_blk (i := 11) sz10.out.bq
      have ow2 := lt_of_block sz10.out.bq
      have ow3 := lt_of_block ko10.out
      clear hT1 R10
      go_upto_region 13 with fail
      obtain ⟨x11, hx11⟩ : ∃ x11, (z10.setCell ⟨w.heap.size + 1, 11, none⟩ (.slice (some ⟨z10.heap.size, 0, none⟩) 1 1)).alloc (.cells #[.int .i64 c.pos, .int .i64 (oppI c.op), .int .i64 c.n] 57) = x11 := ⟨_, rfl⟩
      rw [hx11]
      have s11 := hid (show LSt w x11 #[.slice a1 ds'.length c1, .slice a2 ms'.length c2, .int .i64 g] ((((q1.hav none 0 0).lim 0).hav (some ⟨x8.heap.size, 0, none⟩) 1 1).hav (some ⟨z10.heap.size, 0, none⟩) 1 1) from by rw [← hx11]; exact (sz10.out.set (q' := (((q1.hav none 0 0).lim 0).hav (some ⟨x8.heap.size, 0, none⟩) 1 1).hav (some ⟨z10.heap.size, 0, none⟩) 1 1) 11 _ rfl).step ((Below.refl _ _).new _))
      have IN11 := hid (show LawIn (Far 3 w) x11 (.slice a1 ds'.length c1) (.slice a2 ms'.length c2) ds' ms' ((((q1.hav none 0 0).lim 0).hav (some ⟨x8.heap.size, 0, none⟩) 1 1).hav (some ⟨z10.heap.size, 0, none⟩) 1 1) ((((fewQ dq).hav []).lim 0).hav [⟨c.pos, oppI c.op, c.n⟩]) from by
        have h := ((IN9.out.below HX10.out).keep (fun _ h => h) (far_set (k := w.heap.size + 1) (o := 11) (v := .slice (some ⟨z10.heap.size, 0, none⟩) 1 1) ⟨by omega, by omega⟩)).below ((Below.refl _ _).new (.cells #[.int .i64 c.pos, .int .i64 (oppI c.op), .int .i64 c.n] 57))
        have h2 := cond_new ⟨c.pos, oppI c.op, c.n⟩ (X := z10.setCell ⟨w.heap.size + 1, 11, none⟩ (.slice (some ⟨z10.heap.size, 0, none⟩) 1 1)) (w := w) (by simp only [World.size_setCell]; omega)
        rw [World.size_setCell] at h2
        rw [hx11] at h h2
        exact ⟨h.hd, h.hm, h.nq.hav h2⟩)
      have QOK11 := hid (QOK6.out.hav (l := [⟨c.pos, oppI c.op, c.n⟩]) (by simp) (fun d hd => by rw [List.mem_singleton] at hd; subst hd; exact ⟨by have := opp_range HOPR.out; unfold I64; dsimp only; omega, HCC.out.2.2⟩))
      clear e0 e1 e2 k11 f11 hx11
      have QF11 := hid (fun (S : Nat → Prop) y (hb : Below x11.heap.size x11 y) ao cap vs' (hg : GrpsN S y (.slice ao NF cap) vs' (fewGs gs)) => lines_of g (IN11.out.below hb) TD.out TM.out HNF.out hg GOK.out QOK11.out (dep_few _) (HSE.out.below (s11.out.bel.step hb)) (HTY.out.below (s11.out.bel.step hb)))
      have GR11 := hid (fun W (hb : Below x11.heap.size x11 W) => GRP.out W (s11.out.bel.step hb))
      have hS0 : (fun w' : World => w'.heap[w.heap.size]? = some (.cells #[.slice a1 ds'.length c1, .slice a2 ms'.length c2, .int .i64 g] 45 (0, 0)) ∧ w'.heap[w.heap.size + 1]? = some (.cells #[.slice q1.aa q1.an q1.ac, .slice q1.ba q1.bn q1.bc, .int .i64 q1.mode, .slice q1.sa q1.sn q1.sc, .int .i64 q1.every, .int .i64 q1.kind, .string q1.name, .slice q1.wa q1.wn q1.wc, .int .i64 q1.fr, .int .i64 q1.till, .slice q1.la q1.ln q1.lc, .slice (some ⟨z10.heap.size, 0, none⟩) 1 1, .slice q1.oa q1.on q1.oc, .int .i64 0] 33 (0, 0))) x11.drew := ⟨s11.out.bs, s11.out.bq⟩
      refine wp_region_some (fun w' : World => w'.heap[w.heap.size]? = some (.cells #[.slice a1 ds'.length c1, .slice a2 ms'.length c2, .int .i64 g] 45 (0, 0)) ∧ w'.heap[w.heap.size + 1]? = some (.cells #[.slice q1.aa q1.an q1.ac, .slice q1.ba q1.bn q1.bc, .int .i64 q1.mode, .slice q1.sa q1.sn q1.sc, .int .i64 q1.every, .int .i64 q1.kind, .string q1.name, .slice q1.wa q1.wn q1.wc, .int .i64 q1.fr, .int .i64 q1.till, .slice q1.la q1.ln q1.lc, .slice (some ⟨z10.heap.size, 0, none⟩) 1 1, .slice q1.oa q1.on q1.oc, .int .i64 0] 33 (0, 0))) [5, 6, 7, 8, 9] (by kernel_rfl) ?_
      (refine wpMix_take (i := 0) (v := ?_) rfl (by kernel_rfl) (fun _ _ _ h => h) (Or.inl ⟨by rfl, ?_⟩) hS0 ?_; rotate_left 1; (focus (intro w' hSw; (try dsimp only at hSw); have k0 := cell_blk (i := 0) (x := .slice a1 ds'.length c1) hSw.1 rfl; have k1 := cell_blk (i := 1) (x := .slice a2 ms'.length c2) hSw.1 rfl; have k2 := cell_blk (i := 2) (x := .int .i64 g) hSw.1 rfl; clear hSw; go_simp; try (with_reducible rfl))); (try simp only [Act.put, List.setIfInBounds_toArray, List.set_cons_zero, List.set_cons_succ]))
      (refine wpMix_take (i := 1) (v := ?_) rfl (by kernel_rfl) (fun _ _ _ h => h) (Or.inl ⟨by rfl, ?_⟩) hS0 ?_; rotate_left 1; (focus (intro w' hSw; (try dsimp only at hSw); have k0 := cell_blk (i := 0) (x := .slice q1.aa q1.an q1.ac) hSw.2 rfl; have k1 := cell_blk (i := 1) (x := .slice q1.ba q1.bn q1.bc) hSw.2 rfl; have k2 := cell_blk (i := 2) (x := .int .i64 q1.mode) hSw.2 rfl; have k3 := cell_blk (i := 3) (x := .slice q1.sa q1.sn q1.sc) hSw.2 rfl; have k4 := cell_blk (i := 4) (x := .int .i64 q1.every) hSw.2 rfl; have k5 := cell_blk (i := 5) (x := .int .i64 q1.kind) hSw.2 rfl; have k6 := cell_blk (i := 6) (x := .string q1.name) hSw.2 rfl; have k7 := cell_blk (i := 7) (x := .slice q1.wa q1.wn q1.wc) hSw.2 rfl; have k8 := cell_blk (i := 8) (x := .int .i64 q1.fr) hSw.2 rfl; have k9 := cell_blk (i := 9) (x := .int .i64 q1.till) hSw.2 rfl; have k10 := cell_blk (i := 10) (x := .slice q1.la q1.ln q1.lc) hSw.2 rfl; have k11 := cell_blk (i := 11) (x := .slice (some ⟨z10.heap.size, 0, none⟩) 1 1) hSw.2 rfl; have k12 := cell_blk (i := 12) (x := .slice q1.oa q1.on q1.oc) hSw.2 rfl; have k13 := cell_blk (i := 13) (x := .int .i64 0) hSw.2 rfl; clear hSw; go_simp; try (with_reducible rfl))); (try simp only [Act.put, List.setIfInBounds_toArray, List.set_cons_zero, List.set_cons_succ]))
      (refine wpMix_take (i := 2) (v := ?_) rfl (by kernel_rfl) (fun _ _ _ h => h) (Or.inl ⟨by rfl, ?_⟩) hS0 ?_; rotate_left 1; (focus (intro w hSw; (try dsimp only at hSw); go_simp; try (with_reducible rfl))); (try simp only [Act.put, List.setIfInBounds_toArray, List.set_cons_zero, List.set_cons_succ]))
      refine wpMix_next (t := 3) (by kernel_rfl) ?_
      simp only [opsAt, List.flatMap_cons, List.flatMap_nil, List.take_succ_cons, List.take_zero, List.drop_succ_cons, List.drop_zero, List.append_nil, List.cons_append, List.nil_append]
      go_wp2_with (go_at_call 14; go_loud ((with_reducible refine (GR11.out _ (Below.drew (Below.refl _ _))).mono ?_); rintro e y12 ⟨ao12, cap12, vs12, rfl, hg12, hb12⟩))
      have hB12 : Below x11.heap.size x11 y12 := (Below.drew (Below.refl _ _)).trans hb12
      have sy12 := hid (s11.out.step hB12)
      have HG12 := hid hg12
      have CL12 := hid (QF11.out _ _ hB12 _ _ _ hg12)
      have HB12 := hid hB12
      simp only [QryV.cells, QryV.hav, QryV.lim] at CL12
      refine ⟨⟨sy12.out.bs, sy12.out.bq⟩, ?_⟩
      clear hS0 hb12 hB12 hg12
      refine wpMix_next (t := 4) (by kernel_rfl) ?_
      simp only [opsAt, List.flatMap_cons, List.flatMap_nil, List.take_succ_cons, List.take_zero, List.drop_succ_cons, List.drop_zero, List.append_nil, List.cons_append, List.nil_append]
      go_wp2_with (go_at_call 15; go_loud ((with_reducible refine (CL12.out).mono ?_); rintro e z12 ⟨v12, rfl, hb12, h12⟩; have sz12 := hid (sy12.out.step hb12); have HZ12 := hid hb12; have R12 := hid h12; clear hb12 h12))
      refine ⟨⟨sz12.out.bs, sz12.out.bq⟩, ?_⟩
      (refine wpMix_free (i := 5) (v := ?_) rfl (by kernel_rfl) (fun _ _ _ h => h) (Or.inl ⟨by rfl, ?_⟩) ?_; rotate_left 1; (focus (intro w hSw; go_simp; try (with_reducible rfl))); (try simp only [Act.put, List.setIfInBounds_toArray, List.set_cons_zero, List.set_cons_succ]))
      (refine wpMix_free (i := 6) (v := ?_) rfl (by kernel_rfl) (fun _ _ _ h => h) (Or.inl ⟨by rfl, ?_⟩) ?_; rotate_left 1; (focus (intro w hSw; go_simp; try (with_reducible rfl))); (try simp only [Act.put, List.setIfInBounds_toArray, List.set_cons_zero, List.set_cons_succ]))
      (refine wpMix_free (i := 7) (v := ?_) rfl (by kernel_rfl) (fun _ _ _ h => h) (Or.inl ⟨by rfl, ?_⟩) ?_; rotate_left 1; (focus (intro w hSw; go_simp; try (with_reducible rfl))); (try simp only [Act.put, List.setIfInBounds_toArray, List.set_cons_zero, List.set_cons_succ]))
      refine wpMix_rest [8, 9] (by kernel_rfl) ?_
      simp only [opsAt, List.flatMap_cons, List.flatMap_nil, List.take_succ_cons, List.take_zero, List.drop_succ_cons, List.drop_zero, List.append_nil, List.cons_append, List.nil_append]
      go_upto_region 14 with fail
      rw [LR2.out] at R12 ⊢
      rcases R12.out with ⟨hne, _⟩ | ⟨_, T2, hT2⟩
      · exact absurd rfl hne
      obtain ⟨a12, c12, rfl⟩ := told_len hT2 rfl
      have hsum := keptI_two ds' ms' g (((fewQ dq).hav []).lim 0) (fewGs gs) c.pos c.op c.n HOPR.out
      rw [HNF.out] at hsum
      have hc' : (⟨c.pos, c.op, c.n⟩ : CondD) = c := rfl
      rw [hc'] at hsum
      generalize (keptI ds' ms' g ((((fewQ dq).hav []).lim 0).hav [c]) (fewGs gs)).length = K1 at *
      generalize (keptI ds' ms' g ((((fewQ dq).hav []).lim 0).hav [⟨c.pos, oppI c.op, c.n⟩]) (fewGs gs)).length = K2 at *
      have w1 : ((K1 : Int) + (K2 : Int)) = (NF : Int) := by omega
      have w2 := wrapN NF (by have := NFL.out; omega)
      clear hT2 R12 hsum hc'
      go_wp2
      go_ret
      exact ⟨rfl, sz12.out.bel⟩
end Go.Proofs.YtejleplhmkmegaaGreatDoor
