/- Texts joined: OtV. -/
import Derived.Test.YtejleplhmkmegaaGreatDoorOw
set_option linter.unusedVariables false
set_option linter.unusedSimpArgs false
namespace Go.Proofs.YtejleplhmkmegaaGreatDoor
set_option linter.unusedVariables false
set_option linter.unusedSimpArgs false
set_option maxRecDepth 100000
open Go.ChangeShapes Go.WideShapes Go.ChangeAt Go.RowKit Go.Fl
theorem told_ahead {ds ms : List ByteArray} {g : Int} {q : QryD} {L : List (Nat × FilD)} {gs : List GroupD} {base : Nat} {w : World} {v : Value} {T : List El} (h : LinesAt ds ms g q gs base w v T) (he : linesErr ds ms g q L gs = 0) {i k : Nat} {x y : El} (hx : T[i]? = some x) (hy : T[k]? = some y) (hki : k < i) : decide (cmpK q.order x.l y.l < 0) = false := by
  obtain ⟨h1, h2⟩ := List.getElem?_eq_some_iff.1 hx
  obtain ⟨h3, h4⟩ := List.getElem?_eq_some_iff.1 hy
  have hp := (List.pairwise_iff_getElem.1 h.sorted) k i h3 h1 hki
  rw [h2, h4] at hp
  have fx : FormL q.by_.length (q.aggs.map aggFl) x.l := by
    obtain ⟨d, hd, _, _, hl⟩ := h.td x (List.mem_of_getElem? hx)
    rw [hl]; exact line_form (linesErr_all he d (List.mem_of_getElem? hd))
  have fy : FormL q.by_.length (q.aggs.map aggFl) y.l := by
    obtain ⟨d, hd, _, _, hl⟩ := h.td y (List.mem_of_getElem? hy)
    rw [hl]; exact line_form (linesErr_all he d (List.mem_of_getElem? hd))
  have := (cmpK_good q.order q.by_.length (q.aggs.map aggFl)).anti _ _ fx fy
  unfold ltE at hp
  simp
  omega
theorem told_holds {ds ms : List ByteArray} {g : Int} {q : QryD} {gs : List GroupD} {base : Nat} {w : World} {v : Value} {T : List El} (h : LinesAt ds ms g q gs base w v T) (hc : q.having.all (condOkB q.aggs.length) = true) {i : Nat} {x : El} (hx : T[i]? = some x) {c : CondD} (hcm : c ∈ q.having) :
    0 ≤ c.pos ∧ c.pos.toNat < x.l.nums.length ∧ holdsB c.op c.n (x.l.nums.getD c.pos.toNat ⟨0, false, 0⟩) = true := by
  have hco := List.all_eq_true.1 hc c hcm
  unfold condOkB withinB at hco
  simp only [Bool.and_eq_true, decide_eq_true_eq] at hco
  obtain ⟨d, hd, _, _, hl⟩ := h.td x (List.mem_of_getElem? hx)
  have hk := h.perm.mem_iff.1 (List.mem_map_of_mem (List.mem_of_getElem? hx))
  unfold keptI at hk
  have hk2 := (List.mem_filter.1 hk).2
  rw [hd] at hk2
  simp only [] at hk2
  have hh := List.all_eq_true.1 hk2 c hcm
  rw [← hl] at hh
  refine ⟨hco.1.1, ?_, hh⟩
  have := line_len ds ms g q d
  rw [← hl] at this
  omega
set_option maxHeartbeats 16000000 in
theorem OrderSorted_core (q : QryV) (dq : QryD) (vd vm : Value) (ds ms : List ByteArray) (g : Int) (la : Option Addr) (lc : Nat) (vs : List GrpV) (gs : List GroupD) (w : World) (am an : Addr) (hd : StrsSl w vd ds) (hm : StrsSl w vm ms) (td : ∀ s ∈ ds, s.size ≤ 9223372036854775807) (tm : ∀ s ∈ ms, s.size ≤ 9223372036854775807) (hq : QryIs w q dq) (ok : QryOk dq) (hk : ∀ e, KindsN e dq.wher)
    (hgs : GrpsN (fun _ => True) w (.slice la gs.length lc) vs gs) (hgl : gs.length ≤ 9223372036854775807) (hgo : ∀ d ∈ gs, GrpOk d ∧ ∀ v ∈ d.key, v.s.size ≤ 9223372036854775807) (hTab : Tabs w) (hS : SentF am an w) (hT : TypeR w) :
    Calls Tryz.prog 7 #[.agg #[vd, vm, .int .i64 g], .agg q.cells, .slice la gs.length lc] w fun e w' => e = .returned (.bool true) ∧ Below w.heap.size w w' := by
  have HTab := hid hTab; have HSE := hid hS; have HTY := hid hT
  have SH := hid (fun W (h : Below w.heap.size w W) => shown18_any W (HTab.out.below h (Nat.le_refl _)))
  obtain ⟨ad, cd, rfl, _, _, _⟩ := SlAt.shape hd
  obtain ⟨am', cm, rfl, _, _, _⟩ := SlAt.shape hm
  have CUT := hid (fun W (h : Below w.heap.size w W) => schCut_any _ _ ds ms g W (hd.below h) (hm.below h) td tm)
  have F15 := hid (fun W (h : QryN (Far 2 w) W q dq) => few15_any _ q dq W h ok)
  have QOK := hid (fewQ_ok ok hk)
  have GOK := hid (fewGs_ok (fun d hd => (hgo d hd).1))
  have GRP := hid (fun W (hb : Below w.heap.size w W) => groups_any (fun _ => True) la lc vs gs W (hgs.below hb) (fun d hd => (hgo d hd).2) hgl)
  obtain ⟨NG, hNG⟩ : ∃ NG, gs.length = NG := ⟨_, rfl⟩
  obtain ⟨NF, hNF⟩ : ∃ NF, (fewGs gs).length = NF := ⟨_, rfl⟩
  rw [hNG, hNF] at GRP
  rw [hNG]
  have HNF := hid hNF
  unfold GroupsPost at GRP
  have TD := hid (txt_ok td); have TM := hid (txt_ok tm)
  obtain ⟨ds', hds⟩ : ∃ ds', txtCut 30 10 ds = ds' := ⟨_, rfl⟩
  obtain ⟨ms', hms⟩ : ∃ ms', txtCut 30 10 ms = ms' := ⟨_, rfl⟩
  rw [hds] at CUT TD
  rw [hms] at CUT TM
  have H0 := hid (show ∀ X, X = ((w.alloc (.cells #[.slice ad ds.length cd, .slice am' ms.length cm, .int .i64 g] 45)).alloc (.cells q.cells 33)) → LSt w X #[.slice ad ds.length cd, .slice am' ms.length cm, .int .i64 g] q ∧ QryN (Far 2 w) X q dq from fun X hX => by
    subst hX
    have hB : Below w.heap.size w ((w.alloc (.cells #[.slice ad ds.length cd, .slice am' ms.length cm, .int .i64 g] 45)).alloc (.cells q.cells 33)) := by (repeat' (first | (with_reducible exact Below.refl _ _) | (with_reducible assumption) | (with_reducible refine Below.new ?_ _) | (with_reducible refine Below.alloc ?_ ?_ _) | (with_reducible refine Below.drew ?_) | (with_reducible refine Below.drewN ?_ _) | (with_reducible refine Below.setCell ?_ ?_ _) | (refine Below.step ?_ (by assumption)) | go_size))
    exact ⟨⟨by (simp (disch := first | omega | (simp only [World.size_alloc, World.size_setCell, World.size_drew]; done) | (simp only [World.size_alloc, World.size_setCell, World.size_drew]; omega)) only [heap_at, heap_past, heap_set_other, heap_set_same]), by (simp (disch := first | omega | (simp only [World.size_alloc, World.size_setCell, World.size_drew]; done) | (simp only [World.size_alloc, World.size_setCell, World.size_drew]; omega)) only [heap_at, heap_past, heap_set_other, heap_set_same]), hB⟩, hq.all.keep (fun b h => .inl h) (fun b h _ => hB.block b h)⟩)
  clear hTab hS hT hd hm td tm hq ok hk hgs hgl hgo hNG hNF hds hms
  go_enter Tryz.func7, Tryz.ntmps7
  go_upto_region 4 with (first
    | (go_at_call 8; go_loud ((with_reducible refine (SH.out _ (H0.out _ rfl).1.bel).mono ?_); rintro e x1 ⟨rfl, hb1⟩; have s1 := hid ((H0.out _ rfl).1.step hb1); have n1 := hid ((H0.out _ rfl).2.below hb1); clear hb1))
    | (refine wpList_load_row rfl _ _ rfl _ rfl _ _ _ _ s1.out.bs Tryz.underlying45 rfl (by exact sinfo3) ?_)
    | (go_at_call 13; go_loud ((with_reducible refine (CUT.out _ s1.out.bel).mono ?_); rintro e x2 ⟨v1, v2, rfl, ho1, ho2, hb2⟩; obtain ⟨a1, c1, rfl, _⟩ := SlAt.shape (SlAt.own ho1); obtain ⟨a2, c2, rfl, _⟩ := SlAt.shape (SlAt.own ho2); have s2 := hid (s1.out.step hb2); have n2 := hid (n1.out.below hb2); have d2 := hid (And.intro ((SlS.own ho1).keep (T := Far 2 w) (fun b hb => .inr (by have := (ho1.lt b hb).1; have := s1.out.size; omega)) (fun _ _ _ => rfl)) ((SlS.own ho2).keep (T := Far 2 w) (fun b hb => .inr (by have := (ho2.lt b hb).1; have := s1.out.size; omega)) (fun _ _ _ => rfl))); clear ho1 ho2 hb2))
    | (refine wpList_store_blk rfl _ _ _ rfl _ _ rfl rfl _ _ s2.out.bs (by exact sinfo3) (by rfl) (by simp [Value.oneCell']) ?_; intro x3 hh3 hg3 hz3; have s3 := hid (s2.out.putS hg3 hh3); have n3 := hid (n2.out.keep (fun _ h => h) (far_kept hg3 ⟨Nat.le_refl _, by omega⟩)); have d3 := hid (And.intro (d2.out.1.keep (fun _ h => h) (far_kept hg3 ⟨Nat.le_refl _, by omega⟩)) (d2.out.2.keep (fun _ h => h) (far_kept hg3 ⟨Nat.le_refl _, by omega⟩))); clear hh3 hg3 hz3)
    | (refine wpList_load_row rfl _ _ rfl _ rfl _ _ _ _ s3.out.bq Tryz.underlying33 rfl (qinfo _) ?_)
    | (go_at_call 9; go_loud ((with_reducible refine (F15.out _ n3.out).mono ?_); rintro e x4 ⟨q1, rfl, hn, hb4⟩; have s4 := hid (s3.out.step hb4); have n4 := hid (hn.keep (T := Far 2 w) (fun b h => by rcases h with h | h; exact h.1; exact .inr (by have := s3.out.size; omega)) (fun _ _ _ => rfl)); have d4 := hid (And.intro (d3.out.1.keep (fun _ h => h) (fun b _ hl => hb4.block b hl)) (d3.out.2.keep (fun _ h => h) (fun b _ hl => hb4.block b hl))); clear hn hb4))
    | (refine wpList_store_blk rfl _ _ _ rfl _ _ rfl rfl _ _ s4.out.bq (qinfo _) rfl (qcells_one _) ?_; intro x5 hh3 hg3 hz3; have s5 := hid (s4.out.putQ hg3 hh3); have IN := hid (show LawIn (Far 2 w) x5 (.slice a1 ds'.length c1) (.slice a2 ms'.length c2) ds' ms' q1 (fewQ dq) from ⟨d4.out.1.keep (fun _ h => h) (far_kept hg3 ⟨by omega, by omega⟩), d4.out.2.keep (fun _ h => h) (far_kept hg3 ⟨by omega, by omega⟩), n4.out.keep (fun _ h => h) (far_kept hg3 ⟨by omega, by omega⟩)⟩); clear hh3 hg3 hz3))
  have QF := hid (fun (S : Nat → Prop) y (hb : Below x5.heap.size x5 y) ao cap vs' (hg : GrpsN S y (.slice ao NF cap) vs' (fewGs gs)) => lines_of g (IN.out.below hb) TD.out TM.out HNF.out hg GOK.out QOK.out (dep_few _) (HSE.out.below (s5.out.bel.step hb)) (HTY.out.below (s5.out.bel.step hb)))
  have GR := hid (fun W (hb : Below x5.heap.size x5 W) => GRP.out W (s5.out.bel.step hb))
  go_upto_region 4 with fail
  have hS0 : (fun w' : World => w'.heap[w.heap.size]? = some (.cells #[.slice a1 ds'.length c1, .slice a2 ms'.length c2, .int .i64 g] 45 (0, 0)) ∧ w'.heap[w.heap.size + 1]? = some (.cells #[.slice q1.aa q1.an q1.ac, .slice q1.ba q1.bn q1.bc, .int .i64 q1.mode, .slice q1.sa q1.sn q1.sc, .int .i64 q1.every, .int .i64 q1.kind, .string q1.name, .slice q1.wa q1.wn q1.wc, .int .i64 q1.fr, .int .i64 q1.till, .slice q1.la q1.ln q1.lc, .slice q1.ha q1.hn q1.hc, .slice q1.oa q1.on q1.oc, .int .i64 q1.limit] 33 (0, 0))) x5.drew := ⟨s5.out.bs, s5.out.bq⟩
  refine wp_region_some (fun w' : World => w'.heap[w.heap.size]? = some (.cells #[.slice a1 ds'.length c1, .slice a2 ms'.length c2, .int .i64 g] 45 (0, 0)) ∧ w'.heap[w.heap.size + 1]? = some (.cells #[.slice q1.aa q1.an q1.ac, .slice q1.ba q1.bn q1.bc, .int .i64 q1.mode, .slice q1.sa q1.sn q1.sc, .int .i64 q1.every, .int .i64 q1.kind, .string q1.name, .slice q1.wa q1.wn q1.wc, .int .i64 q1.fr, .int .i64 q1.till, .slice q1.la q1.ln q1.lc, .slice q1.ha q1.hn q1.hc, .slice q1.oa q1.on q1.oc, .int .i64 q1.limit] 33 (0, 0))) [5, 6, 7, 8, 9] (by kernel_rfl) ?_
  (refine wpMix_take (i := 0) (v := ?_) rfl (by kernel_rfl) (fun _ _ _ h => h) (Or.inl ⟨by rfl, ?_⟩) hS0 ?_; rotate_left 1; (focus (intro w' hSw; (try dsimp only at hSw); have k0 := cell_blk (i := 0) (x := .slice a1 ds'.length c1) hSw.1 rfl; have k1 := cell_blk (i := 1) (x := .slice a2 ms'.length c2) hSw.1 rfl; have k2 := cell_blk (i := 2) (x := .int .i64 g) hSw.1 rfl; clear hSw; go_simp; try (with_reducible rfl))); (try simp only [Act.put, List.setIfInBounds_toArray, List.set_cons_zero, List.set_cons_succ]))
  (refine wpMix_take (i := 1) (v := ?_) rfl (by kernel_rfl) (fun _ _ _ h => h) (Or.inl ⟨by rfl, ?_⟩) hS0 ?_; rotate_left 1; (focus (intro w' hSw; (try dsimp only at hSw); have k0 := cell_blk (i := 0) (x := .slice q1.aa q1.an q1.ac) hSw.2 rfl; have k1 := cell_blk (i := 1) (x := .slice q1.ba q1.bn q1.bc) hSw.2 rfl; have k2 := cell_blk (i := 2) (x := .int .i64 q1.mode) hSw.2 rfl; have k3 := cell_blk (i := 3) (x := .slice q1.sa q1.sn q1.sc) hSw.2 rfl; have k4 := cell_blk (i := 4) (x := .int .i64 q1.every) hSw.2 rfl; have k5 := cell_blk (i := 5) (x := .int .i64 q1.kind) hSw.2 rfl; have k6 := cell_blk (i := 6) (x := .string q1.name) hSw.2 rfl; have k7 := cell_blk (i := 7) (x := .slice q1.wa q1.wn q1.wc) hSw.2 rfl; have k8 := cell_blk (i := 8) (x := .int .i64 q1.fr) hSw.2 rfl; have k9 := cell_blk (i := 9) (x := .int .i64 q1.till) hSw.2 rfl; have k10 := cell_blk (i := 10) (x := .slice q1.la q1.ln q1.lc) hSw.2 rfl; have k11 := cell_blk (i := 11) (x := .slice q1.ha q1.hn q1.hc) hSw.2 rfl; have k12 := cell_blk (i := 12) (x := .slice q1.oa q1.on q1.oc) hSw.2 rfl; have k13 := cell_blk (i := 13) (x := .int .i64 q1.limit) hSw.2 rfl; clear hSw; go_simp; try (with_reducible rfl))); (try simp only [Act.put, List.setIfInBounds_toArray, List.set_cons_zero, List.set_cons_succ]))
  (refine wpMix_take (i := 2) (v := ?_) rfl (by kernel_rfl) (fun _ _ _ h => h) (Or.inl ⟨by rfl, ?_⟩) hS0 ?_; rotate_left 1; (focus (intro w hSw; (try dsimp only at hSw); go_simp; try (with_reducible rfl))); (try simp only [Act.put, List.setIfInBounds_toArray, List.set_cons_zero, List.set_cons_succ]))
  refine wpMix_next (t := 3) (by kernel_rfl) ?_
  simp only [opsAt, List.flatMap_cons, List.flatMap_nil, List.take_succ_cons, List.take_zero, List.drop_succ_cons, List.drop_zero, List.append_nil, List.cons_append, List.nil_append]
  go_wp2_with (go_at_call 14; go_loud ((with_reducible refine (GR.out _ (Below.drew (Below.refl _ _))).mono ?_); rintro e y6 ⟨ao6, cap6, vs6, rfl, hg6, hb6⟩))
  have hB6 : Below x5.heap.size x5 y6 := (Below.drew (Below.refl _ _)).trans hb6
  have sy6 := hid (s5.out.step hB6)
  have HG6 := hid hg6
  have CL6 := hid (QF.out _ _ hB6 _ _ _ hg6)
  have HB6 := hid hB6
  simp only [QryV.cells, QryV.hav, QryV.lim] at CL6
  refine ⟨⟨sy6.out.bs, sy6.out.bq⟩, ?_⟩
  clear hS0 hb6 hB6 hg6
  refine wpMix_next (t := 4) (by kernel_rfl) ?_
  simp only [opsAt, List.flatMap_cons, List.flatMap_nil, List.take_succ_cons, List.take_zero, List.drop_succ_cons, List.drop_zero, List.append_nil, List.cons_append, List.nil_append]
  go_wp2_with (go_at_call 15; go_loud ((with_reducible refine (CL6.out).mono ?_); rintro e z6 ⟨v6, rfl, hb6, h6⟩; have sz6 := hid (sy6.out.step hb6); have HZ6 := hid hb6; have R6 := hid h6; clear hb6 h6))
  refine ⟨⟨sz6.out.bs, sz6.out.bq⟩, ?_⟩
  (refine wpMix_free (i := 5) (v := ?_) rfl (by kernel_rfl) (fun _ _ _ h => h) (Or.inl ⟨by rfl, ?_⟩) ?_; rotate_left 1; (focus (intro w hSw; go_simp; try (with_reducible rfl))); (try simp only [Act.put, List.setIfInBounds_toArray, List.set_cons_zero, List.set_cons_succ]))
  (refine wpMix_free (i := 6) (v := ?_) rfl (by kernel_rfl) (fun _ _ _ h => h) (Or.inl ⟨by rfl, ?_⟩) ?_; rotate_left 1; (focus (intro w hSw; go_simp; try (with_reducible rfl))); (try simp only [Act.put, List.setIfInBounds_toArray, List.set_cons_zero, List.set_cons_succ]))
  (refine wpMix_free (i := 7) (v := ?_) rfl (by kernel_rfl) (fun _ _ _ h => h) (Or.inl ⟨by rfl, ?_⟩) ?_; rotate_left 1; (focus (intro w hSw; go_simp; try (with_reducible rfl))); (try simp only [Act.put, List.setIfInBounds_toArray, List.set_cons_zero, List.set_cons_succ]))
  refine wpMix_rest [8, 9] (by kernel_rfl) ?_
  simp only [opsAt, List.flatMap_cons, List.flatMap_nil, List.take_succ_cons, List.take_zero, List.drop_succ_cons, List.drop_zero, List.append_nil, List.cons_append, List.nil_append]
  go_upto_region 5 with fail
  obtain ⟨er, her⟩ : ∃ er, linesRes ds' ms' g (fewQ dq) (flatN 8 1 (fewQ dq).wher) (fewGs gs) = er := ⟨_, rfl⟩
  rw [her] at R6 ⊢
  have hzs := s5.out.size
  have hz1 := HB6.out.size; have hz2 := HZ6.out.size
  rcases R6.out with ⟨hne, rfl⟩ | ⟨h0, T, hT⟩
  · have h1 : (er == 0) = false := by simpa using hne
    have h3 : (er != 0) = true := by simpa using hne
    go_wp2
    go_ret
    exact ⟨rfl, sz6.out.bel⟩
  · subst h0
    obtain ⟨hck, hle⟩ := res_zero her
    have hof := checkQ_typed hck
    have hlim := limit_ok hof
    have HAH := hid (fun i k x y hx hy hki => told_ahead hT hle (i := i) (k := k) (x := x) (y := y) hx hy hki)
    have HHO := hid (fun i x c hx hc => told_holds hT (isOfB_parts hof).2.2.1 (i := i) (x := x) (c := c) hx hc)
    have HEL := hid hT.el
    obtain ⟨K, hK⟩ : ∃ K, limN (fewQ dq).limit T.length = K := ⟨_, rfl⟩
    have hat := hT.at_
    rw [hK] at hat
    have hKT : K ≤ T.length := by rw [← hK]; unfold limN; split <;> omega
    have hKL : 0 < (fewQ dq).limit → (K : Int) ≤ (fewQ dq).limit := fun h => by
      rw [← hK]; unfold limN; rw [if_pos h]; omega
    obtain ⟨va, vc, rfl, hK1, hK2, _⟩ := SlAt.shape hat.sl
    have HAT := hid hat; have HKT := hid hKT; have HKL := hid hKL; have HLIM := hid hlim
    have hlq : q1.limit = (fewQ dq).limit := IN.out.nq.limit
    have HLQ := hid hlq
    have hhn : q1.hn = (fewQ dq).having.length := (SlAt.parts IN.out.nq.having.sl).1
    obtain ⟨NH, hNH⟩ : ∃ NH, (fewQ dq).having.length = NH := ⟨_, rfl⟩
    have HNH := hid (And.intro hhn hNH)
    have hz9 : NH ≤ 1000 := by have := QOK.out.sm.having; omega
    have HXZ := hid (HB6.out.trans (HZ6.out.mono hz1))
    have hz0 : K ≤ 1000000 := by
      have h1 := hT.perm.length_eq
      have h2 := keptI_len ds' ms' g (fewQ dq) (fewGs gs)
      rw [List.length_map] at h1
      have := GOK.out.len
      omega
    clear hT hck hle hof hat hKT hKL hlim hlq hhn hNH hK her R6
    go_wp2
    go_loopw [10, 11, 12, 13] (fun iv _ _ _ wr => ∃ j : Nat, j ≤ K ∧ iv = .int .i64 (j : Int) ∧ Below z6.heap.size z6 wr) (fun iv _ _ _ _ => K - (intOf iv).toNat)
    case atStart => exact ⟨0, Nat.zero_le _, rfl, Below.refl _ _⟩
    case round => as_aux_lemma =>
      obtain ⟨j, hj, rfl, hbr⟩ := hrel
      have HBR := hid hbr
      have hzr := hbr.size
      by_cases hjK : j < K
      · have d1 : decide (j < K) = true := by simpa using hjK
        obtain ⟨b, off, cap', x, hv, hx, c0, c1, c2, c3⟩ := ln_at HAT.out HKT.out hjK
        simp only [Value.slice.injEq] at hv
        obtain ⟨rfl, _, _⟩ := hv
        have HXX := hid hx
        have HC := hid (show _ ∧ _ ∧ _ ∧ _ from ⟨c0, c1, c2, c3⟩)
        have q1' : (0 : Int) ≤ (j : Int) := by omega
        have q2' : (j : Int) < (K : Int) := by omega
        clear hbr hx c0 c1 c2 c3
        go_wp2
        go_loopw [11] (fun kv wr2 => ∃ k : Nat, k ≤ j ∧ kv = .int .i64 (k : Int) ∧ Below z6.heap.size z6 wr2) (fun kv _ => j - (intOf kv).toNat)
        case atStart => exact ⟨0, Nat.zero_le _, rfl, HBR.out⟩
        case round => as_aux_lemma =>
          obtain ⟨k, hk, rfl, hb2⟩ := hrel
          have HB2 := hid hb2
          have hzr2 := hb2.size
          by_cases hkj : k < j
          · have d2 : decide (k < j) = true := by simpa using hkj
            obtain ⟨b', off', cap'', y, hv, hy, e0, e1, e2, e3⟩ := ln_at HAT.out HKT.out (show k < K by omega)
            simp only [Value.slice.injEq, Option.some.injEq, Addr.mk.injEq] at hv
            obtain ⟨⟨rfl, rfl, _⟩, _, _⟩ := hv
            have hah := HAH.out j k x y HXX.out hy hkj
            have AH := hid (fun W (hb : Below wr.heap.size wr W) => ahead_any q1 x.v y.v (fewQ dq).order x.l y.l W ((IN.out.nq.order.sl).below ((HXZ.out.step HB2.out).step hb)) (by have := QOK.out.sm.order; omega) ((HEL.out x (List.mem_of_getElem? HXX.out)).is.below (HB2.out.step hb)) ((HEL.out y (List.mem_of_getElem? hy)).is.below (HB2.out.step hb)))
            rw [hah] at AH
            unfold QryV.cells LnV.cells at AH
            have q3' : (0 : Int) ≤ (k : Int) := by omega
            have q4' : (k : Int) < (K : Int) := by omega
            obtain ⟨c0, c1, c2, c3⟩ := HC.out
            have p0 := World.plus_cell (cell_step c0 hb2); have p1 := World.plus_cell (cell_step c1 hb2); have p2 := World.plus_cell (cell_step c2 hb2); have p3 := World.plus_cell (cell_step c3 hb2)
            have p4 := World.plus_cell (cell_step e0 hb2); have p5 := World.plus_cell (cell_step e1 hb2); have p6 := World.plus_cell (cell_step e2 hb2); have p7 := World.plus_cell (cell_step e3 hb2)
            have hbq := (sz6.out.step hb2).bq
            have r0 := World.plus_cell (cell_blk (i := 0) (x := .slice q1.aa q1.an q1.ac) hbq rfl)
            have r1 := World.plus_cell (cell_blk (i := 1) (x := .slice q1.ba q1.bn q1.bc) hbq rfl)
            have r2 := World.plus_cell (cell_blk (i := 2) (x := .int .i64 q1.mode) hbq rfl)
            have r3 := World.plus_cell (cell_blk (i := 3) (x := .slice q1.sa q1.sn q1.sc) hbq rfl)
            have r4 := World.plus_cell (cell_blk (i := 4) (x := .int .i64 q1.every) hbq rfl)
            have r5 := World.plus_cell (cell_blk (i := 5) (x := .int .i64 q1.kind) hbq rfl)
            have r6 := World.plus_cell (cell_blk (i := 6) (x := .string q1.name) hbq rfl)
            have r7 := World.plus_cell (cell_blk (i := 7) (x := .slice q1.wa q1.wn q1.wc) hbq rfl)
            have r8 := World.plus_cell (cell_blk (i := 8) (x := .int .i64 q1.fr) hbq rfl)
            have r9 := World.plus_cell (cell_blk (i := 9) (x := .int .i64 q1.till) hbq rfl)
            have r10 := World.plus_cell (cell_blk (i := 10) (x := .slice q1.la q1.ln q1.lc) hbq rfl)
            have r11 := World.plus_cell (cell_blk (i := 11) (x := .slice q1.ha q1.hn q1.hc) hbq rfl)
            have r12 := World.plus_cell (cell_blk (i := 12) (x := .slice q1.oa q1.on q1.oc) hbq rfl)
            have r13 := World.plus_cell (cell_blk (i := 13) (x := .int .i64 q1.limit) hbq rfl)
            clear hbq hb2 hy hah c0 c1 c2 c3 e0 e1 e2 e3
            go_wp2
            refine wp_region_plus (by kernel_rfl) (by kernel_rfl) ?_
            repeat (first | go_big_quiet_skip | (go_big_quiet_want; go_big_quiet_op; first | go_big_quiet_on | go_big_quiet_call (((go_at_call 12; exact Calls.plus_of (AH.out _ (World.plus_below _ _)))))))
            refine wpQuiet_nil ?_
            rintro _ ⟨xq, rfl⟩
            have HP := hid (HB2.out.step (World.plus_below wr xq))
            clear p0 p1 p2 p3 p4 p5 p6 p7 r0 r1 r2 r3 r4 r5 r6 r7 r8 r9 r10 r11 r12 r13
            generalize World.plus wr xq = Y at *
            go_wp2
            go_roundw
            case rel => exact ⟨k + 1, hkj, by go_num, HP.out⟩
            case measure => simp [intOf]; omega
          · have d2 : decide (k < j) = false := by simpa using hkj
            clear hb2
            go_wp2
            go_loopw [12, 13] (fun kv _ wr2 => ∃ k : Nat, k ≤ NH ∧ kv = .int .i64 (k : Int) ∧ Below z6.heap.size z6 wr2) (fun kv _ _ => NH - (intOf kv).toNat)
            case atStart => exact ⟨0, Nat.zero_le _, rfl, HB2.out⟩
            case round => as_aux_lemma =>
              obtain ⟨m, hm, rfl, hb3⟩ := hrel
              have HB3 := hid hb3
              have hzr3 := hb3.size
              have hbq := (sz6.out.step hb3).bq
              have k11 := cell_blk (i := 11) (x := .slice q1.ha q1.hn q1.hc) hbq rfl
              rw [HNH.out.1, HNH.out.2] at k11
              by_cases hmN : m < NH
              · have d3 : decide (m < NH) = true := by simpa using hmN
                have hml : m < (fewQ dq).having.length := by rw [HNH.out.2]; exact hmN
                obtain ⟨ach, cph, hch, _, _, _, hhA⟩ := cond_parts (IN.out.nq.having.sl)
                obtain ⟨bh, oh, rfl, hcc⟩ := hhA (by omega)
                simp only [Value.slice.injEq] at hch
                rw [hch.1] at k11
                obtain ⟨f0, f1, f2⟩ := hcc m hml
                have hbx := HXZ.out.step hb3
                replace f0 := cell_step f0 hbx; replace f1 := cell_step f1 hbx; replace f2 := cell_step f2 hbx
                have hcm : (fewQ dq).having[m] ∈ (fewQ dq).having := List.getElem_mem hml
                obtain ⟨g1, g2, g3⟩ := HHO.out j x _ HXX.out hcm
                have g4 := QOK.out.conds _ hcm
                have hex := HEL.out x (List.mem_of_getElem? HXX.out)
                generalize (fewQ dq).having[m] = cd' at *
                obtain ⟨pos, op, n⟩ := cd'
                dsimp only at f0 f1 f2 g1 g2 g3 g4
                obtain ⟨p, rfl⟩ := Int.eq_ofNat_of_zero_le g1
                have g2' : p < x.l.nums.length := by simpa using g2
                obtain ⟨s0, s1, s2, _, s4⟩ := SlAt.parts hex.nums.sl
                have hlc := hex.nums.1
                obtain ⟨bn, on, hbn, hcn⟩ := s4 (by rw [hlc]; omega)
                have e0 : z6.cell? ⟨bn, on + p * 3, none⟩ = some (.bool x.l.nums[p].fl) := hcn _ _ ((flat_at 3 NumD.cells NumD.cells_len x.l.nums p 0 (by decide) g2').trans rfl)
                have e1 : z6.cell? ⟨bn, on + p * 3 + 1, none⟩ = some (.int .i64 x.l.nums[p].n) := hcn _ _ ((flat_at 3 NumD.cells NumD.cells_len x.l.nums p 1 (by decide) g2').trans rfl)
                have e2 : z6.cell? ⟨bn, on + p * 3 + 2, none⟩ = some (.float .f64 x.l.nums[p].f) := hcn _ _ ((flat_at 3 NumD.cells NumD.cells_len x.l.nums p 2 (by decide) g2').trans rfl)
                have HH := hid (fun W => holds_any (p : Int) op n x.l.nums[p] g4.2 g4.1 (hex.ok _ (List.getElem_mem g2')) W)
                rw [show holdsB op n x.l.nums[p] = true by
                  simp only [Int.toNat_natCast] at g3
                  rw [List.getD_eq_getElem?_getD, List.getElem?_eq_getElem g2'] at g3
                  exact g3] at HH
                obtain ⟨_, _, _, c3⟩ := HC.out
                rw [hbn, s0] at c3
                generalize x.l.nums[p].fl = x0 at *; generalize x.l.nums[p].n = x1 at *; generalize x.l.nums[p].f = x2 at *
                obtain ⟨NN, hNN⟩ : ∃ NN, x.l.nums.length = NN := ⟨_, rfl⟩
                rw [hNN] at c3 g2'
                replace e0 := cell_step e0 hb3; replace e1 := cell_step e1 hb3; replace e2 := cell_step e2 hb3; replace c3 := cell_step c3 hb3
                have v1 : decide (NN ≤ p) = false := by simp; omega
                have v2 : ¬ ((NN : Int) ≤ (p : Int)) := by omega
                have v3 : (p : Int) < (NN : Int) := by omega
                have v4 : (0 : Int) ≤ (p : Int) := by omega
                have v5 : (0 : Int) ≤ (m : Int) := by omega
                have v6 : (m : Int) < (NH : Int) := by omega
                have hbl := World.block_lt_of_cell? _ _ f0
                dsimp only at hbl
                clear hcc hhA hch hcm g1 g2 g3 g4 hex s0 s1 s2 s4 hlc hbn hcn hNN hbq hbx
                go_upto_region 19 with (refine wpList_store_blk rfl _ _ _ rfl _ _ rfl rfl _ _ (heap_at rfl) (by exact cinfo3) (by rfl) (by simp [Value.oneCell']) ?_; intro X1 hh1 hg1 hz1)
                have hB1 : Below wr.heap.size wr X1 := ((Below.refl _ _).new _).grown hg1 (by simp) (fun r e => by cases e; omega)
                have u0 := World.plus_cell (cell_blk (i := 0) (x := .int .i64 (p : Int)) hh1 rfl); have u1 := World.plus_cell (cell_blk (i := 1) (x := .int .i64 op) hh1 rfl); have u2 := World.plus_cell (cell_blk (i := 2) (x := .int .i64 n) hh1 rfl)
                have u3 := World.plus_cell (cell_step c3 hB1); have u4 := World.plus_cell (cell_step e0 hB1); have u5 := World.plus_cell (cell_step e1 hB1); have u6 := World.plus_cell (cell_step e2 hB1)
                have HB4 := hid (HB3.out.step hB1)
                clear hh1 hg1 hz1 hB1 c3 e0 e1 e2 f0 f1 f2 hb3 k11
                simp only [Act.put]
                refine wp_region_plus (by kernel_rfl) (by kernel_rfl) ?_
                repeat (first | go_big_quiet_skip | (go_big_quiet_want; go_big_quiet_op; first | go_big_quiet_on | go_big_quiet_call (((go_at_call 19; exact Calls.plus_of (HH.out _))))))
                refine wpQuiet_nil ?_
                rintro _ ⟨xq, rfl⟩
                have HP := hid (HB4.out.step (World.plus_below X1 xq))
                clear u0 u1 u2 u3 u4 u5 u6
                generalize World.plus X1 xq = Y at *
                go_wp2
                go_roundw
                case rel => exact ⟨m + 1, hmN, by go_num, HP.out⟩
                case measure => simp [intOf]; omega
              · have d3 : decide (m < NH) = false := by simpa using hmN
                clear hb3 hbq
                go_wp2
                go_roundw
                case rel => exact ⟨j + 1, hjK, by go_num, HB3.out⟩
                case measure => simp [intOf]; omega
      · have d1 : decide (j < K) = false := by simpa using hjK
        clear hbr
        have k13 := cell_blk (i := 13) (x := .int .i64 q1.limit) (sz6.out.step HBR.out).bq rfl
        have hlm := HLIM.out
        have hkl := HKL.out
        rw [HLQ.out] at k13
        by_cases hl0 : (fewQ dq).limit = 0
        · rw [hl0] at k13
          go_wp2
          go_ret
          exact ⟨rfl, sz6.out.bel.step HBR.out⟩
        · have hl1 : ((fewQ dq).limit == 0) = false := by simpa using hl0
          have hl2 : decide ((K : Int) ≤ (fewQ dq).limit) = true := by simp; exact hkl (by omega)
          go_wp2
          go_ret
          exact ⟨rfl, sz6.out.bel.step HBR.out⟩
end Go.Proofs.YtejleplhmkmegaaGreatDoor
