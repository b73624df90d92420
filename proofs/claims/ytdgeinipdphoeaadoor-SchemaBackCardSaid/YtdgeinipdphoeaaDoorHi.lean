/- Texts joined: SciA, SciC, SciD. -/
import Derived.Test.YtdgeinipdphoeaaDoorHh
import Derived.Test.YtdgeinipdphoeaaDoorHf
/- Reading a row: the values, up to the numbers. -/
namespace Go.Proofs.YtdgeinipdphoeaaDoor
set_option linter.unusedVariables false
set_option linter.unusedSimpArgs false
set_option maxRecDepth 100000
open Go.ChangeShapes Go.WideShapes Go.ChangeAt Go.RowKit Go.Shelf
attribute [local go_sem] Oper.semAt_some

theorem sinfo_i64 : (Tryd.prog.info? 2).map (fun i => (i.zero, i.size, i.bytes)) = some (some (.int .i64 0), 1, 8) := by kernel_rfl
theorem stab_step {B : Nat} {p : World → Prop} (h : Stab B p) {X Y : World} (hs : p X) (hb : Below X.heap.size X Y) : p Y :=
  h X Y none hs ⟨hb.os, hb.tape, hb.output, hb.size, fun k hk _ => hb.block k hk⟩ (fun r e => by cases e)
theorem blk2_new {w : World} (x y u v : Value) (t : TypeId) : (((w.alloc (.cells #[x, y] t)).setCell ⟨w.heap.size, 0, none⟩ u).setCell ⟨w.heap.size, 1, none⟩ v).heap[w.heap.size]? = some (.cells #[u, v] t (0, 0)) := by
  have h : (w.alloc (.cells #[x, y] t)).heap[w.heap.size]? = some (.cells #[x, y] t (0, 0)) := heap_at rfl
  have := blk_set (o := 1) (v := v) (blk_set (o := 0) (v := u) h)
  simpa using this

theorem OnlyAt.grow {R : Nat} {w X Y : World} {row : Option Nat} (h : OnlyAt R w X) (hg : X.grownBy Y row) (hr : ∀ r, row = some r → w.heap.size ≤ r) : OnlyAt R w Y :=
  ⟨hg.os.trans h.os, hg.tape.trans h.tape, hg.output.trans h.output, Nat.le_trans h.size hg.size, fun k hk hne => (hg.block k (by have := h.size; omega) (fun e => by have := hr k e.symm; omega)).trans (h.block k hk hne)⟩
/-- A region is shown for what ends as it should alone. -/
def Qn (Q : Exit → Act → World → Prop) : Exit → Act → World → Prop
  | .normal, a, w => Q .normal a w
  | _, _, _ => False
theorem wp_norm {P : Program} {c : Code} {Q : Exit → Act → World → Prop} {a : Act} {w : World} (h : c.wp P (Qn Q) a w) : c.wp P Q a w := Go.wp_mono h fun e a w hq => by
  cases e <;> first | exact hq | exact hq.elim
theorem qn {Q : Exit → Act → World → Prop} {a : Act} {w : World} (h : Q .normal a w) : Qn Q .normal a w := h
/-- What is to show of 'row'. -/
def RowPost (w : World) (R : Nat) (F : RowF) (e : Ending) (w' : World) : Prop :=
  ∃ vd vn, e = .returned (.tuple #[.agg #[.int .i64 F.time, vd, vn], wrongE F.code]) ∧ w'.ownsRow w.heap.size 41 2 vd F.dims.length (F.dims.flatMap ValD.cells) ∧
    w'.ownsRow w.heap.size 2 1 vn F.nums.length (F.nums.map (Value.int .i64)) ∧ (F.code = 0 → w'.heap[R]? = some (.cells #[.string F.rest] 60 (0, 0))) ∧ OnlyAt R w w'
theorem OnlyAt.turn {R D : Nat} {w X Y : World} (h : OnlyAt R w X) (hT : Turn D X Y) (hD : w.heap.size ≤ D) : OnlyAt R w Y :=
  ⟨hT.grown.os.trans h.os, hT.grown.tape.trans h.tape, hT.grown.output.trans h.output, by rw [hT.size]; exact h.size, fun k hk hne => (hT.block (by have := h.size; omega) (by omega)).trans (h.block k hk hne)⟩

set_option maxHeartbeats 4000000 in
theorem row_main (am an : Addr) (s : ByteArray) (hs : s.size ≤ 9223372036854775807) (R : Nat) (ad an' : Option Addr) (nd cd nm cm : Nat) (g : Int) (hnd : nd ≤ 1000) (hnm : nm ≤ 1000) (w : World)
    (hR : w.heap[R]? = some (.cells #[.string s] 60 (0, 0))) (hsent : Sent am an w) (hr0 : 2 ≠ R) (hr1 : 1 ≠ R) (hr2 : am.block ≠ R) (hr3 : an.block ≠ R)
    {N K : Nat} (hx : numV 1000000000000 (bytesOf s) = (0, N, K)) :
    Calls Tryd.prog 24 #[.pointer (some ⟨R, 0, none⟩), .agg #[.slice ad nd cd, .slice an' nm cm, .int .i64 g]] w (RowPost w R (rowF nd nm s)) := by
  obtain ⟨j0, hj0, hjz0, hjz1, hjz2⟩ := info_parts sinfo_i64
  have hlt : R < w.heap.size := blk_lt hR
  obtain ⟨hb0, hb1', hb2, hb3⟩ := hsent.lt
  obtain ⟨i0, hi, hiz0, hiz1, hiz2⟩ := info_parts info_val
  have HNum : Hid (∀ (u : ByteArray) (C M J : Nat) (W : World) (most : Nat), most < 18446744073709551616 → u.size ≤ 9223372036854775807 → numV most (bytesOf u) = (C, M, J) → W.heap[R]? = some (.cells #[.string u] 60 (0, 0)) → Sent am an W → Calls Tryd.prog 40 #[.pointer (some ⟨R, 0, none⟩), .int .u64 (most : Int)] W fun e w' => e = .returned (.tuple #[.int .u64 (M : Int), wrongE C]) ∧ w'.heap[R]? = some (.cells #[.string (u.extract J u.size)] 60 (0, 0)) ∧ OnlyAt R W w') :=
    hid (fun u C M J W most h0 h1 h2 h3 h4 => number_is am an u h1 most h0 h2 R W h3 h4)
  have HN : Hid (∀ W : World, W.heap[R]? = some (.cells #[.string s] 60 (0, 0)) → Sent am an W → Calls Tryd.prog 40 #[.pointer (some ⟨R, 0, none⟩), .int .u64 1000000000000] W fun e w' => e = .returned (.tuple #[.int .u64 (N : Int), .nilIface]) ∧ w'.heap[R]? = some (.cells #[.string (s.extract K s.size)] 60 (0, 0)) ∧ OnlyAt R W w') :=
    hid (fun W h1 h2 => number_is am an s hs 1000000000000 (by decide) hx R W h1 h2)
  have hN := numV_le hx
  obtain ⟨s1, hs1⟩ : ∃ s1, s.extract K s.size = s1 := ⟨_, rfl⟩
  have hs1z : s1.size ≤ 9223372036854775807 := by rw [← hs1]; simp; omega
  have HX := hid hx; have HS1 := hid hs1
  rw [hs1] at HN
  have HB := hid hR
  have HS := hid hsent
  clear hR hsent hx hs1
  refine calls_marks Tryd.func24 rfl ?_
  simp only [Tryd.ntmps24, List.size_toArray, List.length_cons, List.length_nil, Nat.reduceAdd, Nat.reduceSub, Array.replicate_succ, Array.replicate_zero, List.push_toArray, List.append_toArray, List.nil_append, List.cons_append]
  go_wp2_with (first
    | (go_at_call 40; ((with_reducible refine (HN.out _ (blk_below HB.out (by (repeat' (first | (with_reducible exact Below.refl _ _) | (with_reducible assumption) | (with_reducible refine Below.new ?_ _) | (with_reducible refine Below.alloc ?_ ?_ _) | (with_reducible refine Below.drew ?_) | (with_reducible refine Below.drewN ?_ _) | (with_reducible refine Below.setCell ?_ ?_ _) | (refine Below.step ?_ (by assumption)) | go_size)))) (HS.out.below (by (repeat' (first | (with_reducible exact Below.refl _ _) | (with_reducible assumption) | (with_reducible refine Below.new ?_ _) | (with_reducible refine Below.alloc ?_ ?_ _) | (with_reducible refine Below.drew ?_) | (with_reducible refine Below.drewN ?_ _) | (with_reducible refine Below.setCell ?_ ?_ _) | (refine Below.step ?_ (by assumption)) | go_size))))).mono ?_); rintro e w1 ⟨rfl, hb1, ho1⟩; have q0 := (ho1.block w.heap.size (by simp; omega) (by omega)).trans (show _ = some (Obj.cells #[.slice ad nd cd, .slice an' nm cm, .int .i64 g] 24 (0, 0)) by (simp (disch := first | omega | (simp only [World.size_alloc, World.size_setCell, World.size_drew]; done) | (simp only [World.size_alloc, World.size_setCell, World.size_drew]; omega)) only [heap_at, heap_past, heap_set_other, heap_set_same])); have q1 := (ho1.block (w.heap.size + 1) (by simp) (by omega)).trans (show _ = some zeroR by (simp (disch := first | omega | (simp only [World.size_alloc, World.size_setCell, World.size_drew]; done) | (simp only [World.size_alloc, World.size_setCell, World.size_drew]; omega)) only [heap_at, heap_past, heap_set_other, heap_set_same])); have q2 := (ho1.block (w.heap.size + 1 + 1) (by simp) (by omega)).trans (show _ = some (Obj.cells #[.nilIface] 49 (0, 0)) by (simp (disch := first | omega | (simp only [World.size_alloc, World.size_setCell, World.size_drew]; done) | (simp only [World.size_alloc, World.size_setCell, World.size_drew]; omega)) only [heap_at, heap_past, heap_set_other, heap_set_same])); have hz1 := ho1.size; (try simp only [World.size_alloc] at hz1); have hl0 : w.heap.size < w1.heap.size := (by omega); have hl1 : w.heap.size + 1 < w1.heap.size := (by omega); have hl2 : w.heap.size + 1 + 1 < w1.heap.size := (by omega); obtain ⟨d0, d1, d2, d3, d4, d5⟩ := three_at q0))
    | (go_at_call 41; (go_loud ((with_reducible refine (svalues_any _ _ _).mono ?_); rintro e w3 ⟨rfl, hw3⟩))))
  clear hw3
  have hrd : RdS R s1 ((w1.alloc (.cells #[.int .i64 (N : Int), .slice none 0 0, .slice none 0 0] 28)).alloc (.cells #[.pointer (some ⟨R, 0, none⟩)] 56)) := blk_below hb1 (by (repeat' (first | (with_reducible exact Below.refl _ _) | (with_reducible assumption) | (with_reducible refine Below.new ?_ _) | (with_reducible refine Below.alloc ?_ ?_ _) | (with_reducible refine Below.drew ?_) | (with_reducible refine Below.drewN ?_ _) | (with_reducible refine Below.setCell ?_ ?_ _) | (refine Below.step ?_ (by assumption)) | go_size)))
  have hS1 : Sent am an w1 := HS.out.only ho1.of_alloc.of_alloc.of_alloc hr0 hr1 hr2 hr3
  refine wp_rangeR2 (gf := 51) (lb := #[.pointer (some ⟨w1.heap.size + 1 + 1, 0, none⟩), .pointer (some ⟨w1.heap.size + 1, 0, none⟩)]) rfl (enters_of Tryd.func51 (by kernel_rfl) rfl)
    (svalues_seq am an R (w1.heap.size + 1) (w1.heap.size + 1 + 1) nd s1 hs1z w.heap.size (w1.heap.size + 1) (w1.heap.size + 1 + 1 + 1) _ hlt (by omega) (by omega) (by omega) (by simp) hnd (by (simp (disch := first | omega | (simp only [World.size_alloc, World.size_setCell, World.size_drew]; done) | (simp only [World.size_alloc, World.size_setCell, World.size_drew]; omega)) only [heap_at, heap_past, heap_set_other, heap_set_same])) (by (simp (disch := first | omega | (simp only [World.size_alloc, World.size_setCell, World.size_drew]; done) | (simp only [World.size_alloc, World.size_setCell, World.size_drew]; omega)) only [heap_at, heap_past, heap_set_other, heap_set_same])) (blk_below hb1 (by (repeat' (first | (with_reducible exact Below.refl _ _) | (with_reducible assumption) | (with_reducible refine Below.new ?_ _) | (with_reducible refine Below.alloc ?_ ?_ _) | (with_reducible refine Below.drew ?_) | (with_reducible refine Below.drewN ?_ _) | (with_reducible refine Below.setCell ?_ ?_ _) | (refine Below.step ?_ (by assumption)) | go_size)))) (hS1.below (by (repeat' (first | (with_reducible exact Below.refl _ _) | (with_reducible assumption) | (with_reducible refine Below.new ?_ _) | (with_reducible refine Below.alloc ?_ ?_ _) | (with_reducible refine Below.drew ?_) | (with_reducible refine Below.drewN ?_ _) | (with_reducible refine Below.setCell ?_ ?_ _) | (refine Below.step ?_ (by assumption)) | go_size)))) (fun W W' hp h => h.prot hp hb0 hb1' hb2 hb3) (fun W W' ho h => h.only ho hr0 hr1 hr2 hr3))
    (fun _ => Stab.block) (by simp; omega) (fun _ => rfl) (rwI w R w1.heap.size N (.cells #[.slice ad nd cd, .slice an' nm cm, .int .i64 g] 24 (0, 0)) s1) (rwX w R nd s1) (rwI_stab (by simp; omega)) (rwX_stab (by simp; omega)) (rwI_own hlt (by omega)) ?start ?round ?done ?stop
  case start =>
    refine ⟨fun j hj => absurd hj (Nat.not_lt_zero _), ⟨.slice none 0 0, by (simp (disch := first | omega | (simp only [World.size_alloc, World.size_setCell, World.size_drew]; done) | (simp only [World.size_alloc, World.size_setCell, World.size_drew]; omega)) only [heap_at, heap_past, heap_set_other, heap_set_same]), World.ownsRow_nil _ _ _ _⟩, blk_below q0 (by (repeat' (first | (with_reducible exact Below.refl _ _) | (with_reducible assumption) | (with_reducible refine Below.new ?_ _) | (with_reducible refine Below.alloc ?_ ?_ _) | (with_reducible refine Below.drew ?_) | (with_reducible refine Below.drewN ?_ _) | (with_reducible refine Below.setCell ?_ ?_ _) | (refine Below.step ?_ (by assumption)) | go_size))), blk_below q1 (by (repeat' (first | (with_reducible exact Below.refl _ _) | (with_reducible assumption) | (with_reducible refine Below.new ?_ _) | (with_reducible refine Below.alloc ?_ ?_ _) | (with_reducible refine Below.drew ?_) | (with_reducible refine Below.drewN ?_ _) | (with_reducible refine Below.setCell ?_ ?_ _) | (refine Below.step ?_ (by assumption)) | go_size))), blk_below q2 (by (repeat' (first | (with_reducible exact Below.refl _ _) | (with_reducible assumption) | (with_reducible refine Below.new ?_ _) | (with_reducible refine Below.alloc ?_ ?_ _) | (with_reducible refine Below.drew ?_) | (with_reducible refine Below.drewN ?_ _) | (with_reducible refine Below.setCell ?_ ?_ _) | (refine Below.step ?_ (by assumption)) | go_size))), ho1.of_alloc.of_alloc.of_alloc.step (by (repeat' (first | (with_reducible exact Below.refl _ _) | (with_reducible assumption) | (with_reducible refine Below.new ?_ _) | (with_reducible refine Below.alloc ?_ ?_ _) | (with_reducible refine Below.drew ?_) | (with_reducible refine Below.drewN ?_ _) | (with_reducible refine Below.setCell ?_ ?_ _) | (refine Below.step ?_ (by assumption)) | go_size)))⟩
  case round =>
    intro ln k W hkN hI hS hl hlt2 hW
    simp only [World.size_alloc] at hl hW
    obtain ⟨C, v, J, hv⟩ : ∃ C v J, readV (restV s1 k) = (C, v, J) := ⟨_, _, _, rfl⟩
    have HV := hid hv
    rw [hv]
    dsimp only
    clear hv
    gi_wp2
    refine ⟨Kept.alloc (Kept.refl _ _ _ _ _) (by omega) (by omega) _, fun W2 hT => ?_⟩
    have hI1 := (rwI_stab (B := w.heap.size) (Nat.le_refl _) k).turn ((rwI_stab (B := w.heap.size) (Nat.le_refl _) k).alloc (.cells #[.string v.s, .bool v.nl] 41) hI) hT (by omega)
    have hbx : W2.heap[W.heap.size]? = some (.cells #[.string v.s, .bool v.nl] 41 (0, 0)) := (hT.block (by simp) (by omega)).trans (heap_at rfl)
    have hzW : W2.heap.size = W.heap.size + 1 := by rw [hT.size]; simp
    have hzV : W.heap.size < W2.heap.size := by omega
    clear hI hS hT hzW
    obtain ⟨hok, ⟨vd, hbox, hrow⟩, hsc, hzr, hze, hoa⟩ := hI1
    obtain ⟨e0, e1, e2, e3, e4, e5⟩ := three_at hbox
    obtain ⟨x0, x1, x2, x3⟩ := two_at hbx
    obtain ⟨z0, z1, z2, z3, z4, z5⟩ := three_at hzr
    have y0 := cell_of_one hze
    have y1 := free_of_one hze
    have HOK := hid hok
    clear hok
    by_cases hC : C = 0
    · subst hC
      rw [show wrongE 0 = .nilIface from rfl]
      obtain ⟨ao, cap, rfl⟩ := hrow.shape
      have hown0 : ∀ g0, (Value.slice ao k cap).ownBlock = some g0 → w1.heap.size + 1 + 1 + 1 ≤ g0 ∧ g0 < W2.heap.size := fun g0 e => hrow.lt g0 e
      gi_wp2_with (gi_at_builtin; go_loud (refine wpListIn_append_own _ rfl _ _ 25 rfl (w1.heap.size + 1 + 1 + 1) 41 i0 (.agg #[.string { data := #[] }, .bool false]) 2 24 Tryd.underlying25 hi hiz0 hiz1 hiz2 rfl (by decide) _ _ _ rfl (hrow.alloc _) ⟨W2.heap.size, 0, none⟩ 1 1 [.string v.s, .bool v.nl] rfl rfl (two_new _ _ _ _) (val_one _ _) (by unfold maxLen; omega) (by omega) (by simp; omega) ?_); intro v' w1' hown' hgrow' hnil'; obtain ⟨g', cap', rfl⟩ := ownsRow_succ hown'; have hbox' := (hgrow'.block w1.heap.size (by simp; omega) (fun e => by have := hown0 _ e.symm; omega)).trans ((heap_past (by omega)).trans hbox); obtain ⟨e0', e1', e2', e3', e4', e5'⟩ := three_at hbox')
      have hnr := row_of_own (hrow.alloc (.cells #[.string v.s, .bool v.nl] 41))
      have hown2 : w1'.ownsRow (w1.heap.size + 1 + 1 + 1) 41 2 (.slice (some ⟨g', 0, none⟩) (k + 1) cap') (k + 1) (valsT s1 (k + 1)) := by rw [valsT_succ, HV.out]; exact hown'
      have hg3 := (row_of_own hown2 g' rfl).1
      have hgz := hgrow'.size
      simp only [World.size_alloc] at hgz
      have far : ∀ (b : Nat) (o : Obj), b < w1.heap.size + 1 + 1 + 1 → W2.heap[b]? = some o → w1'.heap[b]? = some o := fun b o hb ho => (hgrow'.block b (by have := blk_lt ho; simp; omega) (fun e => by have := hown0 _ e.symm; omega)).trans ((heap_past (by have := blk_lt ho; omega)).trans ho)
      refine ⟨Kept.setCell (Kept.grown (Kept.alloc (Kept.refl _ _ _ _ _) (by omega) (by omega) _) hgrow' (by simp; omega) (by simp; omega) fun r e => ⟨by have := (hown0 r e).1; omega, .inr (hown0 r e).1, (hnr r e).2⟩) (by simp; omega) (.inl (by simp)) _, ?_⟩
      refine ⟨okTill_succ HOK.out (by rw [HV.out]), ⟨_, by simpa using blk_set (o := 1) (v := .slice (some ⟨g', 0, none⟩) (k + 1) cap') hbox', ownsRow_setCell_other hown2 (by simp [Value.ownBlock]; omega) _⟩, ?_, ?_, ?_, ?_⟩
      · exact (heap_set_other (by omega)).trans (far _ _ (by omega) hsc)
      · exact (heap_set_other (by omega)).trans (far _ _ (by omega) hzr)
      · exact (heap_set_other (by omega)).trans (far _ _ (by omega) hze)
      · exact OnlyAt.setNew (OnlyAt.grow (hoa.allocd _) hgrow' (fun r e => by have := (hown0 r e).1; omega)) (by omega) _
    · rw [show wrongE C = wrongV C by unfold wrongE; rw [if_neg hC]]
      gi_wp2
      refine ⟨?_, rfl, C, hC, (valsF_bad nd s1 k hkN HOK.out (by rw [HV.out]; exact hC)).trans (by rw [HV.out]), ?_, ?_, ?_⟩
      · exact Kept.setCell (Kept.setCell (Kept.setCell (Kept.setCell (Kept.refl _ _ _ _ _) (by simp) (.inl (show w.heap.size + 1 < w1.heap.size + 1 by omega)) _) (by simp) (.inl (show w.heap.size + 1 < w1.heap.size + 1 by omega)) _) (by simp) (.inl (show w.heap.size + 1 < w1.heap.size + 1 by omega)) _) (by simp; omega) (.inl (show w.heap.size + 1 + 1 < w1.heap.size + 1 by omega)) _
      · exact (heap_set_other (by omega)).trans (set3 hzr)
      · exact heap_set_same (set3_other hze (by omega))
      · exact (((hoa.setNew (by omega) _).setNew (by omega) _).setNew (by omega) _).setNew (by omega) _
  case stop =>
    intro D c k X hD hkN hX hKD
    obtain ⟨rfl, C, hC, hv, hzr, hze, hoa⟩ := hX
    simp only [World.size_alloc] at hD
    go_wp2
    refine ret_mark (.inl rfl) hKD fun w' hT => ?_
    have hzr' := (hT.block (blk_lt hzr) (by omega)).trans hzr
    have hze' := (hT.block (blk_lt hze) (by omega)).trans hze
    obtain ⟨z0, z1, z2, z3, z4, z5⟩ := three_at hzr'
    have y0 := cell_of_one hze'
    refine ⟨_, by simp only [results, Tryd.results24]; go_simp; try rfl, ?_⟩
    rw [rowF_dims HX.out (by rw [HS1.out]; exact hv) hC]
    exact ⟨.slice none 0 0, .slice none 0 0, by unfold wrongE; rw [if_neg hC], World.ownsRow_nil _ _ _ _, World.ownsRow_nil _ _ _ _, fun h => absurd h hC, hoa.turn hT (by omega)⟩
  case done =>
    intro D X hD hI hS hKD
    simp only [World.size_alloc] at hD
    obtain ⟨hok, ⟨vd, hbox, hrow⟩, hsc, hzr, hze, hoa⟩ := hI
    have hS2 : X.heap[R]? = some (.cells #[.string (restV s1 nd)] 60 (0, 0)) := by
      have := hS; rw [show min (nd + 1) nd = nd by omega] at this; exact this
    have hvf := valsF_ok nd s1 hok
    have hvt : valsT s1 nd = ((List.range nd).map fun i => (readV (restV s1 i)).2.1).flatMap ValD.cells := rfl
    have hll : ((List.range nd).map fun i => (readV (restV s1 i)).2.1).length = nd := by simp
    obtain ⟨l, hl⟩ : ∃ l, ((List.range nd).map fun i => (readV (restV s1 i)).2.1) = l := ⟨_, rfl⟩
    obtain ⟨s2, hs2⟩ : ∃ s2, restV s1 nd = s2 := ⟨_, rfl⟩
    have hs2z : s2.size ≤ 9223372036854775807 := by have := restV_le s1 nd; rw [hs2] at this; omega
    rw [hl] at hvf hvt hll
    rw [hs2] at hvf hS2
    rw [hvt] at hrow
    have HVF := hid hvf; have HLL := hid hll
    clear hS hok hvf hvt hl hs2 hll
    obtain ⟨c0, c1, c2, c3, c4, c5⟩ := three_at hsc
    have hlX : w1.heap.size + 1 + 1 + 1 ≤ X.heap.size := by have := blk_lt hKD; omega
    have hVD : ∀ g0, vd.ownBlock = some g0 → g0 < X.heap.size := fun g0 e => (hrow.lt g0 e).2
    have HVD := hid hVD
    clear hVD
    go_wp2
    clear c0 c1 c2 c3 c4 c5 hsc
    go_loopw [45] (fun i wr => ∃ (j : Nat) (ys : List Int) (u : ByteArray), i = .int .i64 j ∧ NumsRd nm s2 j ys u ∧ wr.heap[R]? = some (.cells #[.string u] 60 (0, 0)) ∧
      (∃ vn, wr.heap[w1.heap.size]? = some (.cells #[.int .i64 (N : Int), vd, vn] 28 (0, 0)) ∧ wr.ownsRow X.heap.size 2 1 vn j (ys.map (Value.int .i64))) ∧ wr.ownsRow (w1.heap.size + 1 + 1 + 1) 41 2 vd nd (l.flatMap ValD.cells) ∧
      wr.heap[w.heap.size + 1]? = some zeroR ∧ wr.heap[w.heap.size + 1 + 1]? = some (.cells #[.nilIface] 49 (0, 0)) ∧ wr.heap[D]? = some (.deferred (some [])) ∧ OnlyAt R w wr ∧ X.heap.size ≤ wr.heap.size) (fun i _ => nm - (intOf i).toNat)
    case atStart => exact ⟨0, [], s2, rfl, NumsRd.zero _ _, hS2, ⟨_, hbox, World.ownsRow_nil _ _ _ _⟩, hrow, hzr, hze, hKD, hoa, Nat.le_refl _⟩
    case round =>
      have hDX := blk_lt hKD
      clear hS2 hbox hrow hzr hze hKD hoa
      obtain ⟨j, ys, u, rfl, hnr, hrd, ⟨vn, hbox, hrn⟩, hrow, hzr, hze, hKD, hoa, hzX⟩ := hrel
      have hsw : Sent am an wr := HS.out.only hoa hr0 hr1 hr2 hr3
      by_cases hjn : j < nm
      · obtain ⟨C, n, k, hv⟩ : ∃ C n k, numV 18446744073709551615 (bytesOf u) = (C, n, k) := ⟨_, _, _, rfl⟩
        have HC : Hid (Calls Tryd.prog 40 #[.pointer (some ⟨R, 0, none⟩), .int .u64 18446744073709551615] wr fun e w' => e = .returned (.tuple #[.int .u64 (n : Int), wrongE C]) ∧ w'.heap[R]? = some (.cells #[.string (u.extract k u.size)] 60 (0, 0)) ∧ OnlyAt R wr w') :=
          hid (HNum.out u C n k wr 18446744073709551615 (by decide) (by have := hnr.size; omega) hv hrd hsw)
        have hn := numV_le hv
        have HV2 := hid hv; have HNR := hid hnr
        clear hv hnr hsw
        by_cases hC : C = 0
        · subst hC
          rw [show wrongE 0 = .nilIface from rfl] at HC
          obtain ⟨bo, bcap, rfl⟩ := hrn.shape
          go_wp2_with (go_at_call 40; go_loud ((with_reducible refine (HC.out).mono ?_); rintro e w5 ⟨rfl, hb5, ho5⟩; have hbox5 := (ho5.block w1.heap.size (by omega) (by omega)).trans hbox; obtain ⟨e0, e1, e2, e3, e4, e5⟩ := three_at hbox5))
          have HBK := hid (fun W => back_any (n : Int) (by omega) W)
          have hrn5 := ho5.row hrn (show R < X.heap.size by omega)
          have hrow5 := ho5.row hrow (show R < w1.heap.size + 1 + 1 + 1 by omega)
          have hz5 := ho5.size
          have blk5 : ∀ (b : Nat) (o : Obj), b ≠ R → wr.heap[b]? = some o → w5.heap[b]? = some o := fun b o hb ho => (ho5.block b (blk_lt ho) hb).trans ho
          have hzr5 := blk5 _ _ (by omega) hzr
          have hze5 := blk5 _ _ (by omega) hze
          have hKD5 := blk5 _ _ (by omega) hKD
          have hoa5 := hoa.trans ho5
          have hRb : R < X.heap.size := by omega
          clear blk5 hrn hrow hbox hzr hze hKD hoa ho5 hrd HC
          have hS0 : (fun w' : World => w'.cell? ⟨w1.heap.size, 2, none⟩ = some (.slice bo j bcap)) w5.drew := by go_simp
          refine wp_norm ?_
          refine wp_region_some (fun w' : World => w'.cell? ⟨w1.heap.size, 2, none⟩ = some (.slice bo j bcap)) [5, 6, 7] (by kernel_rfl) ?_
          (refine wpMix_take (i := 0) (v := ?_) rfl (by kernel_rfl) (fun _ _ _ h => h) (Or.inl ⟨by rfl, ?_⟩) hS0 ?_; rotate_left 1; (focus (intro w hSw; (try dsimp only at hSw); go_simp; try (with_reducible rfl))); (try simp only [Act.put, List.setIfInBounds_toArray, List.set_cons_zero, List.set_cons_succ]))
          (refine wpMix_take (i := 1) (v := ?_) rfl (by kernel_rfl) (fun _ _ _ h => h) (Or.inl ⟨by rfl, ?_⟩) hS0 ?_; rotate_left 1; (focus (intro w hSw; (try dsimp only at hSw); go_simp; try (with_reducible rfl))); (try simp only [Act.put, List.setIfInBounds_toArray, List.set_cons_zero, List.set_cons_succ]))
          (refine wpMix_take (i := 2) (v := ?_) rfl (by kernel_rfl) (fun _ _ _ h => h) (Or.inl ⟨by rfl, ?_⟩) hS0 ?_; rotate_left 1; (focus (intro w hSw; (try dsimp only at hSw); go_simp; try (with_reducible rfl))); (try simp only [Act.put, List.setIfInBounds_toArray, List.set_cons_zero, List.set_cons_succ]))
          refine wpMix_next (t := 3) (by kernel_rfl) ?_
          simp only [opsAt, List.flatMap_cons, List.flatMap_nil, List.take_succ_cons, List.take_zero, List.drop_succ_cons, List.drop_zero, List.append_nil, List.cons_append, List.nil_append]
          go_wp2_with (go_at_call 42; go_loud ((with_reducible refine (HBK.out _).mono ?_); rintro e w6 ⟨rfl, hb6⟩))
          refine ⟨cell_step hS0 hb6, ?_⟩
          have hS6 := cell_step hS0 hb6
          refine wpMix_next (t := 4) (by kernel_rfl) ?_
          simp only [opsAt, List.flatMap_cons, List.flatMap_nil, List.take_succ_cons, List.take_zero, List.drop_succ_cons, List.drop_zero, List.append_nil, List.cons_append, List.nil_append]
          go_wp2
          refine ⟨cell_new hS6 _, ?_⟩
          refine wpMix_rest [5, 6, 7] (by kernel_rfl) ?_
          simp only [opsAt, List.flatMap_cons, List.flatMap_nil, List.take_succ_cons, List.take_zero, List.drop_succ_cons, List.drop_zero, List.append_nil, List.cons_append, List.nil_append]
          have hz6 := hb6.size
          simp only [World.size_drew] at hz6
          have hB6 : Below w5.heap.size w5 w6 := (Below.drew (Below.refl _ _)).trans hb6
          have hrn6 : w6.ownsRow X.heap.size 2 1 (.slice bo j bcap) j (ys.map (Value.int .i64)) := row_below hrn5 hB6
          have hrow6 := row_below hrow5 hB6
          have hbox6 := blk_below hbox5 hB6
          have hjl := HNR.out.le
          clear hrn5 hrow5 hS0 hS6
          go_wp2_with (at_builtin; go_loud (refine wpList_append_own _ rfl _ _ 26 rfl (X.heap.size) 2 j0 (.int .i64 0) 1 8 Tryd.underlying26 hj0 hjz0 hjz1 hjz2 rfl (by decide) _ _ _ rfl (hrn6.alloc _) ⟨w6.heap.size, 0, none⟩ 1 1 [.int .i64 (backV (n : Int))] rfl rfl (one_new _ _ _) (one_int _ _) (by unfold maxLen; omega) (by omega) (by simp; omega) ?_); intro v' w1' hown' hgrow' hnil'; obtain ⟨g', cap', rfl⟩ := ownsRow_succ hown'; have hbox' := (hgrow'.block w1.heap.size (by simp; omega) (fun e => by have := (hrn6.lt _ e.symm).1; omega)).trans ((heap_past (by omega)).trans hbox6); obtain ⟨e0', e1', e2', e3', e4', e5'⟩ := three_at hbox')
          refine qn ?_
          have hgz := hgrow'.size
          simp only [World.size_alloc] at hgz
          have hX6 : X.heap.size ≤ w6.heap.size := by omega
          have far : ∀ (b : Nat) (o : Obj), b < X.heap.size → w5.heap[b]? = some o → (w1'.setCell ⟨w1.heap.size, 2, none⟩ (.slice (some ⟨g', 0, none⟩) (j + 1) cap')).heap[b]? = (if b = w1.heap.size then (w1'.setCell ⟨w1.heap.size, 2, none⟩ (.slice (some ⟨g', 0, none⟩) (j + 1) cap')).heap[b]? else some o) := fun b o hb ho => by
            split
            · rfl
            · exact (heap_set_other (by omega)).trans ((hgrow'.block b (by simp; omega) (fun e => by have := (hrn6.lt _ e.symm).1; omega)).trans ((heap_past (by omega)).trans (blk_below ho hB6)))
          have hown2 : w1'.ownsRow X.heap.size 2 1 (.slice (some ⟨g', 0, none⟩) (j + 1) cap') (j + 1) ((ys ++ [backV (n : Int)]).map (Value.int .i64)) := by rw [List.map_append]; exact hown'
          have hvr : w1'.ownsRow (w1.heap.size + 1 + 1 + 1) 41 2 vd nd (l.flatMap ValD.cells) := (row_below hrow6 (by (repeat' (first | (with_reducible exact Below.refl _ _) | (with_reducible assumption) | (with_reducible refine Below.new ?_ _) | (with_reducible refine Below.alloc ?_ ?_ _) | (with_reducible refine Below.drew ?_) | (with_reducible refine Below.drewN ?_ _) | (with_reducible refine Below.setCell ?_ ?_ _) | (refine Below.step ?_ (by assumption)) | go_size)))).kept hgrow' (by
            cases hq : vd.ownBlock with
            | none => exact .inl rfl
            | some g0 => exact .inr fun e => by have := HVD.out g0 hq; have := (hrn6.lt g0 e.symm).1; omega)
          have hoa7 : OnlyAt R w (w1'.setCell ⟨w1.heap.size, 2, none⟩ (.slice (some ⟨g', 0, none⟩) (j + 1) cap')) :=
            ((((hoa5.step hB6).allocd _).grow hgrow' (fun r e => by have := (hrn6.lt r e).1; omega))).setNew (by omega) _
          have g0 := (far _ _ hRb hb5).trans (if_neg (by omega))
          have g1 := (far _ _ (by omega) hzr5).trans (if_neg (by omega))
          have g2 := (far _ _ (by omega) hze5).trans (if_neg (by omega))
          have g3 := (far _ _ hDX hKD5).trans (if_neg (by omega))
          go_wp2
          go_roundw
          case rel => exact ⟨j + 1, _, _, by go_num, HNR.out.step hjn HV2.out, g0, ⟨_, by simpa using blk_set (o := 2) (v := .slice (some ⟨g', 0, none⟩) (j + 1) cap') hbox', row_far hown2 (by omega)⟩, row_far hvr (by omega), g1, g2, g3, hoa7, by simp; omega⟩
          case measure => simp [intOf]; omega
        · rw [show wrongE C = wrongV C by unfold wrongE; rw [if_neg hC]] at HC
          go_wp2_with (go_at_call 40; go_loud ((with_reducible refine (HC.out).mono ?_); rintro e w5 ⟨rfl, hb5, ho5⟩; have hzr5 := (ho5.block (w.heap.size + 1) (by omega) (by omega)).trans hzr; have hze5 := (ho5.block (w.heap.size + 1 + 1) (by omega) (by omega)).trans hze; obtain ⟨z0, z1, z2, z3, z4, z5⟩ := three_at hzr5; have y0 := cell_of_one hze5; have y1 := free_of_one hze5))
          refine ret_mark (.inl rfl) ((heap_set_other (by omega)).trans (set3_other ((ho5.block D (blk_lt hKD) (by omega)).trans hKD) (by omega))) fun w' hT => ?_
          have f1 := (hT.block (by have := blk_lt hzr5; simp; omega) (by omega)).trans ((heap_set_other (by omega)).trans (set3 hzr5))
          have f2 := (hT.block (by have := blk_lt hze5; simp; omega) (by omega)).trans (heap_set_same (set3_other hze5 (by omega)))
          obtain ⟨r0, r1, r2, r3, r4, r5⟩ := three_at f1
          have r6 := cell_of_one f2
          refine ⟨_, by simp only [results, Tryd.results24]; go_simp; try rfl, ?_⟩
          rw [rowF_nums HX.out (by rw [HS1.out]; exact HVF.out) (HNR.out.bad hjn HV2.out hC) hC]
          exact ⟨.slice none 0 0, .slice none 0 0, by unfold wrongE; rw [if_neg hC], World.ownsRow_nil _ _ _ _, World.ownsRow_nil _ _ _ _, fun h => absurd h hC, ((((((hoa.trans ho5).setNew (by omega) _).setNew (by omega) _).setNew (by omega) _).setNew (by omega) _)).turn hT (by omega)⟩
      · obtain rfl : j = nm := by have := hnr.le; omega
        obtain ⟨e0, e1, e2, e3, e4, e5⟩ := three_at hbox
        obtain ⟨z0, z1, z2, z3, z4, z5⟩ := three_at hzr
        have y0 := cell_of_one hze
        have y1 := free_of_one hze
        obtain ⟨bo, bcap, rfl⟩ := hrn.shape
        obtain ⟨ao, acap, rfl⟩ := hrow.shape
        go_wp2
        refine ret_mark (.inl rfl) ((heap_set_other (by omega)).trans (set3_other hKD (by omega))) fun w' hT => ?_
        have f1 := (hT.block (by have := blk_lt hzr; simp; omega) (by omega)).trans ((heap_set_other (by omega)).trans (set3 hzr))
        have f2 := (hT.block (by have := blk_lt hze; simp; omega) (by omega)).trans (heap_set_same (set3_other hze (by omega)))
        obtain ⟨r0, r1, r2, r3, r4, r5⟩ := three_at f1
        have r6 := cell_of_one f2
        refine ⟨_, by simp only [results, Tryd.results24]; go_simp; try rfl, ?_⟩
        rw [rowF_ok HX.out (by rw [HS1.out]; exact HVF.out) hnr.done]
        refine ⟨_, _, rfl, ?_, ?_, fun _ => (hT.block (by have := blk_lt hrd; simp; omega) (by omega)).trans ((heap_set_other (by omega)).trans (set3_other hrd (by omega))), ((((hoa.setNew (by omega) _).setNew (by omega) _).setNew (by omega) _).setNew (by omega) _).turn hT (by omega)⟩
        · dsimp only
          rw [HLL.out]
          exact (Stab.row.turn (row_far (row_far3 hrow (by omega)) (by omega)) hT (Nat.zero_le _)).base_le (by omega)
        · dsimp only
          rw [hnr.len]
          exact (Stab.row.turn (row_far (row_far3 hrn (by omega)) (by omega)) hT (Nat.zero_le _)).base_le (by omega)
end Go.Proofs.YtdgeinipdphoeaaDoor
/- A row of bytes: the program's 'Decode'. -/
namespace Go.Proofs.YtdgeinipdphoeaaDoor
set_option linter.unusedVariables false
set_option linter.unusedSimpArgs false
set_option maxRecDepth 100000
open Go.ChangeShapes Go.WideShapes Go.ChangeAt Go.RowKit

theorem srow_is (am an : Addr) (s : ByteArray) (hs : s.size ≤ 9223372036854775807) (R : Nat) (ad an' : Option Addr) (nd cd nm cm : Nat) (g : Int) (hnd : nd ≤ 1000) (hnm : nm ≤ 1000) (w : World)
    (hR : w.heap[R]? = some (.cells #[.string s] 60 (0, 0))) (hsent : Sent am an w) (hr0 : 2 ≠ R) (hr1 : 1 ≠ R) (hr2 : am.block ≠ R) (hr3 : an.block ≠ R) :
    Calls Tryd.prog 24 #[.pointer (some ⟨R, 0, none⟩), .agg #[.slice ad nd cd, .slice an' nm cm, .int .i64 g]] w (RowPost w R (rowF nd nm s)) := by
  obtain ⟨C, N, K, hx⟩ : ∃ C N K, numV 1000000000000 (bytesOf s) = (C, N, K) := ⟨_, _, _, rfl⟩
  by_cases hC : C = 0
  · subst hC
    exact row_main am an s hs R ad an' nd cd nm cm g hnd hnm w hR hsent hr0 hr1 hr2 hr3 hx
  · refine (row_time am an s hs R ad an' nd cd nm cm g w hR hsent hx hC).mono ?_
    rintro e w' ⟨rfl, ho⟩
    have hF : rowF nd nm s = ⟨C, 0, [], [], s⟩ := by unfold rowF; simp [hx, hC]
    rw [hF]
    exact ⟨.slice none 0 0, .slice none 0 0, by unfold wrongE; rw [if_neg hC], World.ownsRow_nil _ _ _ _, World.ownsRow_nil _ _ _ _, fun h => absurd h hC, ho⟩
theorem rowF_bad {nd nm : Nat} {s : ByteArray} (h : (rowF nd nm s).code ≠ 0) : rowF nd nm s = ⟨(rowF nd nm s).code, 0, [], [], s⟩ := by
  unfold rowF at h ⊢
  dsimp only at h ⊢
  split
  · rfl
  · rename_i h1
    rw [if_neg h1] at h
    split
    · rfl
    · rename_i h2
      rw [if_neg h2] at h
      split
      · rfl
      · rename_i h3
        rw [if_neg h3] at h
        exact absurd rfl h
theorem TypeG.below {w w' : World} (h : TypeG w) (hb : Below w.heap.size w w') : TypeG w' := cell_step h hb
theorem TypeG.only {R : Nat} {w w' : World} (h : TypeG w) (ho : OnlyAt R w w') (hR : R ≠ 0) : TypeG w' := ho.cell h (Ne.symm hR)
theorem TypeG.lt {w : World} (h : TypeG w) : 0 < w.heap.size := World.block_lt_of_cell? _ _ h

set_option maxHeartbeats 1000000 in
theorem decode_bad (am an : Addr) (vd vm : Value) (ds ms : List ByteArray) (g : Int) (s : ByteArray) (hs : s.size ≤ 9223372036854775807) (w : World) (hd : StrsSl w vd ds) (hm : StrsSl w vm ms) (td : Texts ds) (tm : Texts ms) (hr : rightS ds ms g = true)
    (hsent : Sent am an w) (hty : TypeG w) (hF : (rowF ds.length ms.length s).code ≠ 0) :
    Calls Tryd.prog 10 #[.agg #[vd, vm, .int .i64 g], .string s] w (DecPost w (rowF ds.length ms.length s)) := by
  have HR := hid (fun W (h : Below w.heap.size w W) => right_any vd vm ds ms g W (hd.below h) (hm.below h) td tm)
  rw [hr] at HR
  unfold rightS at hr
  simp only [Bool.and_eq_true, decide_eq_true_eq] at hr
  obtain ⟨⟨_, hd6⟩, hm4, _⟩ := hr
  have HW := hid (fun (R : Nat) (ad an' : Option Addr) (cd cm : Nat) (W : World) => srow_is am an s hs R ad an' ds.length cd ms.length cm g (by omega) (by omega) W)
  obtain ⟨C, hC⟩ : ∃ C, (rowF ds.length ms.length s).code = C := ⟨_, rfl⟩
  have hFF := rowF_bad hF
  rw [hC] at hFF hF
  rw [hFF] at HW ⊢
  obtain ⟨ad, cd, rfl, _, _, _⟩ := SlAt.shape hd
  obtain ⟨am', cm, rfl, _, _, _⟩ := SlAt.shape hm
  have HS := hid hsent; have HT := hid hty
  obtain ⟨l0, l1, l2, l3⟩ := hsent.lt
  have l4 := hty.lt
  clear hd hm hC hFF hsent hty
  generalize ds.length = nd at *
  generalize ms.length = nm at *
  go_enter Tryd.func10, Tryd.ntmps10
  go_wp2_with (first
    | (go_at_call 14; ((with_reducible refine (HR.out _ (by (repeat' (first | (with_reducible exact Below.refl _ _) | (with_reducible assumption) | (with_reducible refine Below.new ?_ _) | (with_reducible refine Below.alloc ?_ ?_ _) | (with_reducible refine Below.drew ?_) | (with_reducible refine Below.drewN ?_ _) | (with_reducible refine Below.setCell ?_ ?_ _) | (refine Below.step ?_ (by assumption)) | go_size)))).mono ?_); rintro e w1 ⟨rfl, hb1⟩; have q1 := (hb1.block (w.heap.size + 1) (by simp)).trans (show _ = some zeroR by (simp (disch := first | omega | (simp only [World.size_alloc, World.size_setCell, World.size_drew]; done) | (simp only [World.size_alloc, World.size_setCell, World.size_drew]; omega)) only [heap_at, heap_past, heap_set_other, heap_set_same])); obtain ⟨hc1, hf1, hk1, hz1⟩ := bcell3 hb1; (try simp only [World.size_alloc, World.size_drew] at hz1); have : w.heap.size < w1.heap.size := (by omega); have : w.heap.size + 1 < w1.heap.size := (by omega)))
    | (go_at_call 24; go_loud ((with_reducible refine (HW.out w1.heap.size _ _ _ _ _ (heap_at rfl) (HS.out.below (by (repeat' (first | (with_reducible exact Below.refl _ _) | (with_reducible assumption) | (with_reducible refine Below.new ?_ _) | (with_reducible refine Below.alloc ?_ ?_ _) | (with_reducible refine Below.drew ?_) | (with_reducible refine Below.drewN ?_ _) | (with_reducible refine Below.setCell ?_ ?_ _) | (refine Below.step ?_ (by assumption)) | go_size)))) (by omega) (by omega) (by omega) (by omega)).mono ?_); rintro e w2 ⟨v1, v2, rfl, hr1, hr2, -, ho2⟩; obtain ⟨a1, k1, rfl⟩ := hr1.shape; obtain ⟨a2, k2, rfl⟩ := hr2.shape; have hz2 := ho2.size; (try simp only [World.size_alloc] at hz2); have hB2 : Below w1.heap.size w1 w2 := ho2.below (by (repeat' (first | (with_reducible exact Below.refl _ _) | (with_reducible assumption) | (with_reducible refine Below.new ?_ _) | (with_reducible refine Below.alloc ?_ ?_ _) | (with_reducible refine Below.drew ?_) | (with_reducible refine Below.drewN ?_ _) | (with_reducible refine Below.setCell ?_ ?_ _) | (refine Below.step ?_ (by assumption)) | go_size))) (Nat.le_refl _) (by simp); rw [show wrongE C = wrongV C by unfold wrongE; rw [if_neg hF]]; have q2 := (hB2.block (w.heap.size + 1) (by omega)).trans q1; have hl2 : w.heap.size + 1 < w2.heap.size := (by omega)))
    | (go_at_call 25; go_loud ((with_reducible refine (stold_any (C : Int) _ (HT.out.below (by (repeat' (first | (with_reducible exact Below.refl _ _) | (with_reducible assumption) | (with_reducible refine Below.new ?_ _) | (with_reducible refine Below.alloc ?_ ?_ _) | (with_reducible refine Below.drew ?_) | (with_reducible refine Below.drewN ?_ _) | (with_reducible refine Below.setCell ?_ ?_ _) | (refine Below.step ?_ (by assumption)) | go_size))))).mono ?_); rintro e w3 ⟨rfl, hb3⟩; have q3 := (hb3.block (w.heap.size + 1) (by simp; omega)).trans (by first | exact q2 | exact (heap_past (by omega)).trans q2); obtain ⟨r0, r1, r2, r3, r4, r5⟩ := three_at q3)))
  ((show bodyPost _ _ _ _ _ _); refine bodyPost_ret (by simp only [results, Tryd.results10]; go_simp; try rfl) rfl ?_)
  have hz3 := hb3.size
  simp only [World.size_alloc] at hz3
  have hBw2 : Below w.heap.size w w2 := (show Below w.heap.size w w1 by (repeat' (first | (with_reducible exact Below.refl _ _) | (with_reducible assumption) | (with_reducible refine Below.new ?_ _) | (with_reducible refine Below.alloc ?_ ?_ _) | (with_reducible refine Below.drew ?_) | (with_reducible refine Below.drewN ?_ _) | (with_reducible refine Below.setCell ?_ ?_ _) | (refine Below.step ?_ (by assumption)) | go_size))).trans (hB2.mono (by omega))
  have hB3 : Below w.heap.size w w3 := (hBw2.alloc (by omega) _).trans (hb3.mono (by simp; omega))
  exact DecPost.bad (below3 hB3 (by omega))
set_option maxHeartbeats 1000000 in
theorem decode_ok (am an : Addr) (vd vm : Value) (ds ms : List ByteArray) (g : Int) (s : ByteArray) (hs : s.size ≤ 9223372036854775807) (w : World) (hd : StrsSl w vd ds) (hm : StrsSl w vm ms) (td : Texts ds) (tm : Texts ms) (hr : rightS ds ms g = true)
    (hsent : Sent am an w) (hF : (rowF ds.length ms.length s).code = 0) :
    Calls Tryd.prog 10 #[.agg #[vd, vm, .int .i64 g], .string s] w (DecPost w (rowF ds.length ms.length s)) := by
  have HR := hid (fun W (h : Below w.heap.size w W) => right_any vd vm ds ms g W (hd.below h) (hm.below h) td tm)
  rw [hr] at HR
  unfold rightS at hr
  simp only [Bool.and_eq_true, decide_eq_true_eq] at hr
  obtain ⟨⟨_, hd6⟩, hm4, _⟩ := hr
  have HW := hid (fun (R : Nat) (ad an' : Option Addr) (cd cm : Nat) (W : World) => srow_is am an s hs R ad an' ds.length cd ms.length cm g (by omega) (by omega) W)
  obtain ⟨ad, cd, rfl, _, _, _⟩ := SlAt.shape hd
  obtain ⟨am', cm, rfl, _, _, _⟩ := SlAt.shape hm
  have HS := hid hsent
  obtain ⟨l0, l1, l2, l3⟩ := hsent.lt
  clear hd hm hsent
  generalize ds.length = nd at *
  generalize ms.length = nm at *
  obtain ⟨C, t, dl, nl, r, hq⟩ : ∃ C t dl nl r, rowF nd nm s = ⟨C, t, dl, nl, r⟩ := ⟨_, _, _, _, _, rfl⟩
  rw [hq] at hF HW ⊢
  dsimp only at hF
  subst hF
  clear hq
  obtain ⟨L, hL⟩ : ∃ L, dl.length = L := ⟨_, rfl⟩
  obtain ⟨M, hM⟩ : ∃ M, nl.length = M := ⟨_, rfl⟩
  have HL := hid hL; have HM := hid hM
  clear hL hM
  go_enter Tryd.func10, Tryd.ntmps10
  go_wp2_with (first
    | (go_at_call 14; ((with_reducible refine (HR.out _ (by (repeat' (first | (with_reducible exact Below.refl _ _) | (with_reducible assumption) | (with_reducible refine Below.new ?_ _) | (with_reducible refine Below.alloc ?_ ?_ _) | (with_reducible refine Below.drew ?_) | (with_reducible refine Below.drewN ?_ _) | (with_reducible refine Below.setCell ?_ ?_ _) | (refine Below.step ?_ (by assumption)) | go_size)))).mono ?_); rintro e w1 ⟨rfl, hb1⟩; have q1 := (hb1.block (w.heap.size + 1) (by simp)).trans (show _ = some zeroR by (simp (disch := first | omega | (simp only [World.size_alloc, World.size_setCell, World.size_drew]; done) | (simp only [World.size_alloc, World.size_setCell, World.size_drew]; omega)) only [heap_at, heap_past, heap_set_other, heap_set_same])); obtain ⟨hc1, hf1, hk1, hz1⟩ := bcell3 hb1; (try simp only [World.size_alloc, World.size_drew] at hz1); have : w.heap.size < w1.heap.size := (by omega); have : w.heap.size + 1 < w1.heap.size := (by omega)))
    | (go_at_call 24; go_loud ((with_reducible refine (HW.out w1.heap.size _ _ _ _ _ (heap_at rfl) (HS.out.below (by (repeat' (first | (with_reducible exact Below.refl _ _) | (with_reducible assumption) | (with_reducible refine Below.new ?_ _) | (with_reducible refine Below.alloc ?_ ?_ _) | (with_reducible refine Below.drew ?_) | (with_reducible refine Below.drewN ?_ _) | (with_reducible refine Below.setCell ?_ ?_ _) | (refine Below.step ?_ (by assumption)) | go_size)))) (by omega) (by omega) (by omega) (by omega)).mono ?_); rintro e w2 ⟨v1, v2, rfl, hr1, hr2, hrd, ho2⟩; rw [HL.out] at hr1; rw [HM.out] at hr2; replace hrd := hrd rfl; obtain ⟨a1, k1, rfl⟩ := hr1.shape; obtain ⟨a2, k2, rfl⟩ := hr2.shape; have hz2 := ho2.size; (try simp only [World.size_alloc] at hz2); have hB2 : Below w1.heap.size w1 w2 := ho2.below (by (repeat' (first | (with_reducible exact Below.refl _ _) | (with_reducible assumption) | (with_reducible refine Below.new ?_ _) | (with_reducible refine Below.alloc ?_ ?_ _) | (with_reducible refine Below.drew ?_) | (with_reducible refine Below.drewN ?_ _) | (with_reducible refine Below.setCell ?_ ?_ _) | (refine Below.step ?_ (by assumption)) | go_size))) (Nat.le_refl _) (by simp); rw [show wrongE 0 = .nilIface from rfl]; have q2 := (hB2.block (w.heap.size + 1) (by omega)).trans q1; have hl2 : w.heap.size + 1 < w2.heap.size := (by omega); have hl3 : w1.heap.size < w2.heap.size := (by omega); have p0 := cell_of_one hrd; obtain ⟨r0, r1, r2, r3, r4, r5⟩ := three_at q2)))
  have hS0 : (fun w' : World => w'.cell? ⟨w2.heap.size, 0, none⟩ = some (.int .i64 t) ∧ w'.cell? ⟨w2.heap.size, 1, none⟩ = some (.slice a1 L k1) ∧ w'.cell? ⟨w2.heap.size, 2, none⟩ = some (.slice a2 M k2) ∧ w'.cell? ⟨w1.heap.size, 0, none⟩ = some (.string r)) (w2.alloc (.cells #[.int .i64 t, .slice a1 L k1, .slice a2 M k2] 28)).drew := ⟨by go_simp, by go_simp, by go_simp, by go_simp⟩
  refine wp_region_some (fun w' : World => w'.cell? ⟨w2.heap.size, 0, none⟩ = some (.int .i64 t) ∧ w'.cell? ⟨w2.heap.size, 1, none⟩ = some (.slice a1 L k1) ∧ w'.cell? ⟨w2.heap.size, 2, none⟩ = some (.slice a2 M k2) ∧ w'.cell? ⟨w1.heap.size, 0, none⟩ = some (.string r)) [7, 8] (by kernel_rfl) ?_
  (refine wpMix_take (i := 0) (v := ?_) rfl (by kernel_rfl) (fun _ _ _ h => h) (Or.inl ⟨by rfl, ?_⟩) hS0 ?_; rotate_left 1; (focus (intro w hSw; (try dsimp only at hSw); go_simp; try (with_reducible rfl))); (try simp only [Act.put, List.setIfInBounds_toArray, List.set_cons_zero, List.set_cons_succ]))
  (refine wpMix_take (i := 1) (v := ?_) rfl (by kernel_rfl) (fun _ _ _ h => h) (Or.inl ⟨by rfl, ?_⟩) hS0 ?_; rotate_left 1; (focus (intro w hSw; (try dsimp only at hSw); go_simp; try (with_reducible rfl))); (try simp only [Act.put, List.setIfInBounds_toArray, List.set_cons_zero, List.set_cons_succ]))
  (refine wpMix_take (i := 2) (v := ?_) rfl (by kernel_rfl) (fun _ _ _ h => h) (Or.inl ⟨by rfl, ?_⟩) hS0 ?_; rotate_left 1; (focus (intro w hSw; (try dsimp only at hSw); go_simp; try (with_reducible rfl))); (try simp only [Act.put, List.setIfInBounds_toArray, List.set_cons_zero, List.set_cons_succ]))
  (refine wpMix_take (i := 3) (v := ?_) rfl (by kernel_rfl) (fun _ _ _ h => h) (Or.inl ⟨by rfl, ?_⟩) hS0 ?_; rotate_left 1; (focus (intro w hSw; (try dsimp only at hSw); go_simp; try (with_reducible rfl))); (try simp only [Act.put, List.setIfInBounds_toArray, List.set_cons_zero, List.set_cons_succ]))
  (refine wpMix_take (i := 4) (v := ?_) rfl (by kernel_rfl) (fun _ _ _ h => h) (Or.inl ⟨by rfl, ?_⟩) hS0 ?_; rotate_left 1; (focus (intro w hSw; (try dsimp only at hSw); go_simp; try (with_reducible rfl))); (try simp only [Act.put, List.setIfInBounds_toArray, List.set_cons_zero, List.set_cons_succ]))
  (refine wpMix_take (i := 5) (v := ?_) rfl (by kernel_rfl) (fun _ _ _ h => h) (Or.inl ⟨by rfl, ?_⟩) hS0 ?_; rotate_left 1; (focus (intro w hSw; (try dsimp only at hSw); go_simp; try (with_reducible rfl))); (try simp only [Act.put, List.setIfInBounds_toArray, List.set_cons_zero, List.set_cons_succ]))
  refine wpMix_next (t := 6) (by kernel_rfl) ?_
  simp only [opsAt, List.flatMap_cons, List.flatMap_nil, List.take_succ_cons, List.take_zero, List.drop_succ_cons, List.drop_zero, List.append_nil, List.cons_append, List.nil_append]
  go_wp2
  refine ⟨⟨by go_simp, by go_simp, by go_simp, by go_simp⟩, ?_⟩
  refine wpMix_rest [7, 8] (by kernel_rfl) ?_
  simp only [opsAt, List.flatMap_cons, List.flatMap_nil, List.take_succ_cons, List.take_zero, List.drop_succ_cons, List.drop_zero, List.append_nil, List.cons_append, List.nil_append]
  go_wp2
  ((show bodyPost _ _ _ _ _ _); refine bodyPost_ret (by simp only [results, Tryd.results10]; go_simp; try rfl) rfl ?_)
  have hBw2 : Below w.heap.size w w2 := (show Below w.heap.size w w1 by (repeat' (first | (with_reducible exact Below.refl _ _) | (with_reducible assumption) | (with_reducible refine Below.new ?_ _) | (with_reducible refine Below.alloc ?_ ?_ _) | (with_reducible refine Below.drew ?_) | (with_reducible refine Below.drewN ?_ _) | (with_reducible refine Below.setCell ?_ ?_ _) | (refine Below.step ?_ (by assumption)) | go_size))).trans (hB2.mono (by omega))
  refine ⟨.slice a1 L k1, .slice a2 M k2, rfl, ?_, ?_, ((below3 hBw2 (by omega)).alloc (by simp; omega) _).drew⟩
  · dsimp only
    rw [HL.out]
    exact (((row_far3 hr1 (by simp; omega)).alloc _).drew).base_le (by simp; omega)
  · dsimp only
    rw [HM.out]
    exact (((row_far3 hr2 (by simp; omega)).alloc _).drew).base_le (by simp; omega)
/-- Decode, whatever is given. -/
theorem decode_is (am an : Addr) (vd vm : Value) (ds ms : List ByteArray) (g : Int) (s : ByteArray) (hs : s.size ≤ 9223372036854775807) (w : World) (hd : StrsSl w vd ds) (hm : StrsSl w vm ms) (td : Texts ds) (tm : Texts ms)
    (hsent : Sent am an w) (hty : TypeG w) : Calls Tryd.prog 10 #[.agg #[vd, vm, .int .i64 g], .string s] w (DecPost w (decF ds ms g s)) := by
  unfold decF
  by_cases hr : rightS ds ms g = true
  · rw [if_pos hr]
    by_cases hF : (rowF ds.length ms.length s).code = 0
    · exact decode_ok am an vd vm ds ms g s hs w hd hm td tm hr hsent hF
    · exact decode_bad am an vd vm ds ms g s hs w hd hm td tm hr hsent hty hF
  · rw [if_neg hr]
    exact decode_wrong vd vm ds ms g s w hd hm td tm (by simpa using hr)
end Go.Proofs.YtdgeinipdphoeaaDoor
/- A row of bytes: the reference's 'Decode'. -/
namespace Go.Proofs.YtdgeinipdphoeaaDoor
set_option linter.unusedVariables false
set_option linter.unusedSimpArgs false
set_option maxRecDepth 100000
open Go.ChangeShapes Go.WideShapes Go.ChangeAt Go.RowKit

set_option maxHeartbeats 4000000 in
theorem refDecode_time (vd vm : Value) (ds ms : List ByteArray) (g : Int) (s : ByteArray) (hs : s.size ≤ 9223372036854775807) (w : World) (hd : StrsSl w vd ds) (hm : StrsSl w vm ms) (td : Texts ds) (tm : Texts ms) (hr : rightS ds ms g = true)
    (hC : (numV 1000000000000 (bytesOf s)).1 ≠ 0) {F : RowF} (hF : rowF ds.length ms.length s = F) :
    Calls Tryd.prog 11 #[.agg #[vd, vm, .int .i64 g], .string s] w (DecPost w F) := by
  have HR := hid (fun W (h : Below w.heap.size w W) => refRight_any vd vm ds ms g W (hd.below h) (hm.below h) td tm)
  rw [hr] at HR
  unfold rightS at hr
  simp only [Bool.and_eq_true, decide_eq_true_eq] at hr
  obtain ⟨⟨_, hd6⟩, hm4, _⟩ := hr
  obtain ⟨c, n, k, hx⟩ : ∃ c n k, nextV (bytesOf s) = (c, n, k) := ⟨_, _, _, rfl⟩
  have HG1 := hid (fun W => refGet_is s hs hx W)
  have hn64 := (nextV_is (bytesOf s)).1
  rw [hx] at hn64
  dsimp only at hn64
  obtain ⟨ad, cd, rfl, _, _, _⟩ := SlAt.shape hd
  obtain ⟨am', cm, rfl, _, _, _⟩ := SlAt.shape hm
  clear hd hm
  generalize ds.length = nd at *
  generalize ms.length = nm at *
  rcases numV_cases (most := 1000000000000) hx with ⟨hc, hv⟩ | ⟨rfl, hn, hv⟩ | ⟨rfl, hn, hv⟩
  · have hFF : F = ⟨c, 0, [], [], s⟩ := by rw [← hF]; unfold rowF; simp [hv, hc]
    subst hFF
    have hc1 : decide ((c : Int) = 0) = false := by simp; omega
    have hc2 : ¬ (c : Int) = 0 := by omega
    have hc3 : ((c : Int) == 0) = false := by simp; omega
    clear hv hF hx hC
    go_enter Tryd.func11, Tryd.ntmps11
    go_wp2_with (first
      | (go_at_call 20; ((with_reducible refine (HR.out _ (by (repeat' (first | (with_reducible exact Below.refl _ _) | (with_reducible assumption) | (with_reducible refine Below.new ?_ _) | (with_reducible refine Below.alloc ?_ ?_ _) | (with_reducible refine Below.drew ?_) | (with_reducible refine Below.drewN ?_ _) | (with_reducible refine Below.setCell ?_ ?_ _) | (refine Below.step ?_ (by assumption)) | go_size)))).mono ?_); rintro e w1 ⟨rfl, hb1⟩; have q1 := (hb1.block (w.heap.size + 1) (by simp)).trans (show _ = some zeroR by (simp (disch := first | omega | (simp only [World.size_alloc, World.size_setCell, World.size_drew]; done) | (simp only [World.size_alloc, World.size_setCell, World.size_drew]; omega)) only [heap_at, heap_past, heap_set_other, heap_set_same])); obtain ⟨hc1, hf1, hk1, hz1⟩ := bcell3 hb1; (try simp only [World.size_alloc, World.size_drew] at hz1); have : w.heap.size < w1.heap.size := (by omega); have : w.heap.size + 1 < w1.heap.size := (by omega)))
      | (go_at_call 26; go_loud ((with_reducible refine (HG1.out _).mono ?_); rintro e w2 ⟨rfl, hb2⟩; obtain ⟨hc2, hf2, hk2, hz2⟩ := bcell3 hb2; (try simp only [World.size_alloc, World.size_drew] at hz2); have : w.heap.size < w2.heap.size := (by omega); have : w.heap.size + 1 < w2.heap.size := (by omega); have q2 := blk_below q1 hb2)))
    have g1 : (0 : Int) < (nd : Int) := by omega
    refine wp_loop_rounds 1 ?_
    rw [rounds_succ]
    go_wp2
    refine wp_loop_rounds 1 ?_
    rw [rounds_succ]
    by_cases hnm : nm = 0
    · subst hnm
      go_wp2
      ((show bodyPost _ _ _ _ _ _); refine bodyPost_ret (by simp only [results, Tryd.results11]; go_simp; try rfl) rfl ?_)
      exact DecPost.bad (by (repeat' (first | (with_reducible exact Below.refl _ _) | (with_reducible assumption) | (with_reducible refine Below.new ?_ _) | (with_reducible refine Below.alloc ?_ ?_ _) | (with_reducible refine Below.drew ?_) | (with_reducible refine Below.drewN ?_ _) | (with_reducible refine Below.setCell ?_ ?_ _) | (refine Below.step ?_ (by assumption)) | go_size)))
    · have g2 : (0 : Int) < (nm : Int) := by omega
      go_wp2
      ((show bodyPost _ _ _ _ _ _); refine bodyPost_ret (by simp only [results, Tryd.results11]; go_simp; try rfl) rfl ?_)
      exact DecPost.bad (by (repeat' (first | (with_reducible exact Below.refl _ _) | (with_reducible assumption) | (with_reducible refine Below.new ?_ _) | (with_reducible refine Below.alloc ?_ ?_ _) | (with_reducible refine Below.drew ?_) | (with_reducible refine Below.drewN ?_ _) | (with_reducible refine Below.setCell ?_ ?_ _) | (refine Below.step ?_ (by assumption)) | go_size)))
  · have hFF : F = ⟨101, 0, [], [], s⟩ := by rw [← hF]; unfold rowF; simp [hv]
    subst hFF
    have hn2 : (1000000000000 : Int) < (n : Int) := by omega
    clear hv hF hx hC
    go_enter Tryd.func11, Tryd.ntmps11
    go_wp2_with (first
      | (go_at_call 20; ((with_reducible refine (HR.out _ (by (repeat' (first | (with_reducible exact Below.refl _ _) | (with_reducible assumption) | (with_reducible refine Below.new ?_ _) | (with_reducible refine Below.alloc ?_ ?_ _) | (with_reducible refine Below.drew ?_) | (with_reducible refine Below.drewN ?_ _) | (with_reducible refine Below.setCell ?_ ?_ _) | (refine Below.step ?_ (by assumption)) | go_size)))).mono ?_); rintro e w1 ⟨rfl, hb1⟩; have q1 := (hb1.block (w.heap.size + 1) (by simp)).trans (show _ = some zeroR by (simp (disch := first | omega | (simp only [World.size_alloc, World.size_setCell, World.size_drew]; done) | (simp only [World.size_alloc, World.size_setCell, World.size_drew]; omega)) only [heap_at, heap_past, heap_set_other, heap_set_same])); obtain ⟨hc1, hf1, hk1, hz1⟩ := bcell3 hb1; (try simp only [World.size_alloc, World.size_drew] at hz1); have : w.heap.size < w1.heap.size := (by omega); have : w.heap.size + 1 < w1.heap.size := (by omega)))
      | (go_at_call 26; go_loud ((with_reducible refine (HG1.out _).mono ?_); rintro e w2 ⟨rfl, hb2⟩; obtain ⟨hc2, hf2, hk2, hz2⟩ := bcell3 hb2; (try simp only [World.size_alloc, World.size_drew] at hz2); have : w.heap.size < w2.heap.size := (by omega); have : w.heap.size + 1 < w2.heap.size := (by omega); have q2 := blk_below q1 hb2)))
    have g1 : (0 : Int) < (nd : Int) := by omega
    refine wp_loop_rounds 1 ?_
    rw [rounds_succ]
    go_wp2
    refine wp_loop_rounds 1 ?_
    rw [rounds_succ]
    by_cases hnm : nm = 0
    · subst hnm
      go_wp2
      ((show bodyPost _ _ _ _ _ _); refine bodyPost_ret (by simp only [results, Tryd.results11]; go_simp; try rfl) rfl ?_)
      exact DecPost.bad (by (repeat' (first | (with_reducible exact Below.refl _ _) | (with_reducible assumption) | (with_reducible refine Below.new ?_ _) | (with_reducible refine Below.alloc ?_ ?_ _) | (with_reducible refine Below.drew ?_) | (with_reducible refine Below.drewN ?_ _) | (with_reducible refine Below.setCell ?_ ?_ _) | (refine Below.step ?_ (by assumption)) | go_size)))
    · have g2 : (0 : Int) < (nm : Int) := by omega
      go_wp2
      ((show bodyPost _ _ _ _ _ _); refine bodyPost_ret (by simp only [results, Tryd.results11]; go_simp; try rfl) rfl ?_)
      exact DecPost.bad (by (repeat' (first | (with_reducible exact Below.refl _ _) | (with_reducible assumption) | (with_reducible refine Below.new ?_ _) | (with_reducible refine Below.alloc ?_ ?_ _) | (with_reducible refine Below.drew ?_) | (with_reducible refine Below.drewN ?_ _) | (with_reducible refine Below.setCell ?_ ?_ _) | (refine Below.step ?_ (by assumption)) | go_size)))
  · exact absurd (by rw [hv]) hC
end Go.Proofs.YtdgeinipdphoeaaDoor
