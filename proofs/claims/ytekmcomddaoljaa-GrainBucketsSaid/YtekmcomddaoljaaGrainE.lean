/- A span's buckets by package grain: the iterator over the multiples, and the loop over it that appends them. -/
import Derived.Test.YtekmcomddaoljaaGrainD
import Derived.Test.YtekmcomddaoljaaSeq
namespace Go.Proofs.Ytekmcomddaoljaa
set_option linter.unusedVariables false
set_option linter.unusedSimpArgs false
open Go.ChangeShapes Go.WideShapes Go.ChangeAt Go.RowKit Go.Shelf
attribute [local go_sem] Oper.semAt_some

theorem mults_step (f g : Int) (k : Nat) : f + (k : Int) * g + g = f + ((k + 1 : Nat) : Int) * g := by
  have : ((k + 1 : Nat) : Int) * g = (k : Int) * g + g := by rw [Int.natCast_add, Int.add_mul]; simp
  rw [this]; omega

theorem multiples_any (f t g : Int) (w : World) :
    Calls Try.prog 54 #[.agg #[.int .i64 f, .int .i64 t], .int .i64 g] w fun e w' => e = .returned (.func (.func 66) #[] #[.pointer (some ⟨w.heap.size, 0, none⟩), .pointer (some ⟨w.heap.size + 1, 0, none⟩)]) ∧
      w' = (w.alloc (.cells #[.int .i64 f, .int .i64 t] 29)).alloc (.cells #[.int .i64 g] 2) := by
  go_enter Try.func54, Try.ntmps54
  go_wp2
  go_ret
  exact ⟨rfl, rfl⟩

set_option maxRecDepth 100000 in
set_option maxHeartbeats 1000000 in
theorem multiples_seq (f t g : Int) (b1 b2 n₀ lo hi : Nat) (w : World) (hb1 : lo ≤ b1 ∧ b1 < hi) (hb2 : lo ≤ b2 ∧ b2 < hi) (hw : hi ≤ w.heap.size)
    (hf : 0 ≤ f ∧ f ≤ t ∧ t ≤ 1000000000001) (hg : 1 ≤ g ∧ g ≤ 1000000000)
    (c0 : w.cell? ⟨b1, 0, none⟩ = some (.int .i64 f)) (c1 : w.cell? ⟨b1, 1, none⟩ = some (.int .i64 t)) (c2 : w.cell? ⟨b2, 0, none⟩ = some (.int .i64 g)) :
    SeqI Try.prog 66 #[.pointer (some ⟨b1, 0, none⟩), .pointer (some ⟨b2, 0, none⟩)] (fun k : Nat => #[Value.int .i64 (f + (k : Int) * g)]) n₀ lo hi (bucketsN f t g) w := by
  intro n l J Jx W hn hW hJ hJx hY h0
  have HN := hid (fun k : Nat => bucket_lt (f := f) (t := t) (g := g) (by omega) (by omega) k)
  have d0 := (hW.cell (p := ⟨b1, 0, none⟩) (by simp; omega)).trans c0
  have d1 := (hW.cell (p := ⟨b1, 1, none⟩) (by simp; omega)).trans c1
  have d2 := (hW.cell (p := ⟨b2, 0, none⟩) (by simp; omega)).trans c2
  obtain ⟨N, hN⟩ : ∃ N, bucketsN f t g = N := ⟨_, rfl⟩
  rw [hN] at HN hY ⊢
  clear hN c0 c1 c2
  refine callsIn_of_wp Try.func66 rfl trivial ?_ rfl
  simp only [Try.ntmps66, List.size_toArray, List.length_cons, List.length_nil, Nat.reduceAdd, Nat.reduceSub, Array.replicate_succ, Array.replicate_zero, List.push_toArray, List.append_toArray, List.nil_append, List.cons_append]
  gi_wp2
  refine wpIn_scope_straight ?_
  gi_wp2
  refine wpIn_label ?_
  gi_wp2
  gi_loopw [4] (fun tt wr => ∃ k : Nat, k ≤ N ∧ tt = .int .i64 (f + (k : Int) * g) ∧ J k wr ∧ Prot n₀ lo hi W wr) (fun tt _ => (t - intOf tt).toNat)
  case atStart => exact ⟨0, Nat.zero_le _, by simp, h0, Prot.refl _ _ _ _⟩
  case round =>
    obtain ⟨k, hk, rfl, hJs, hP⟩ := hrel
    have e0 := (hP.cell (b := b1) (o := 0) (.inr hb1)).trans d0
    have e1 := (hP.cell (b := b1) (o := 1) (.inr hb1)).trans d1
    have e2 := (hP.cell (b := b2) (o := 0) (.inr hb2)).trans d2
    have hkg : 0 ≤ (k : Int) * g := Int.mul_nonneg (by omega) (by omega)
    by_cases hlt : k < N
    · have hlt' := (HN.out k).2 hlt
      obtain ⟨fn, tmps, assign, body, hy, hR⟩ := hY k hlt wr hJs
      (try dsimp only at hy)
      clear hY hJ hJx
      gi_wp2
      refine hR.mono ?_
      rintro e W3 (⟨rfl, hJ3, hP3⟩ | ⟨rfl, hJx3⟩)
      · have f2 := (hP3.cell (b := b2) (o := 0) (.inr hb2)).trans e2
        gi_wp2
        go_roundw
        case rel => exact ⟨k + 1, by omega, by rw [mults_step], hJ3, hP.trans hP3⟩
        case measure => simp [intOf]; omega
      · gi_wp2
        rw [Exit.noGoto_normal]
        go_end0
        exact ⟨⟨_, rfl⟩, .inr ⟨k, hlt, hJx3⟩⟩
    · have hge : ¬ f + (k : Int) * g < t := fun h => hlt ((HN.out k).1 h)
      obtain rfl : k = N := by omega
      clear hY hJ hJx
      gi_wp2
      go_end0
      exact ⟨⟨_, rfl⟩, .inl hJs⟩

theorem bucketsOk_iff (f t g : Int) (h : fitsB f t g = true) : bucketsOk f t g = decide (bucketsN f t g ≤ 1000) := by simp [bucketsOk, h]

/-- What the program's loop over the multiples keeps: the list so far, in its box; the results' boxes. -/
def bucketsI (w w1 : World) (f g : Int) (k : Nat) (W : World) : Prop :=
  (∃ v, W.heap[w1.heap.size]? = some (.cells #[v] 33 (0, 0)) ∧ W.ownsRow (w1.heap.size + 1 + 1 + 1) 2 1 v k ((multsL f g k).map (Value.int .i64)) ∧ (v = .slice none 0 0 ↔ k = 0)) ∧
  W.heap[w.heap.size + 1]? = some (.cells #[.slice none 0 0] 33 (0, 0)) ∧ W.heap[w.heap.size + 1 + 1]? = some (.cells #[.int .i64 0] 23 (0, 0)) ∧ Below w.heap.size w W ∧ k ≤ 1000
def bucketsX (w : World) (c : Code) (k : Nat) (W : World) : Prop :=
  c = .ret ∧ W.heap[w.heap.size + 1]? = some (.cells #[.slice none 0 0] 33 (0, 0)) ∧ W.heap[w.heap.size + 1 + 1]? = some (.cells #[.int .i64 110] 23 (0, 0)) ∧ Below w.heap.size w W ∧ 1000 ≤ k

theorem bucketsI_stab (w w1 : World) (f g : Int) (B : Nat) (hB : w.heap.size ≤ B) (k : Nat) : Stab B (bucketsI w w1 f g k) :=
  Stab.and (Stab.ex fun v => Stab.and Stab.block (Stab.and Stab.row (Stab.pure _))) (Stab.and Stab.block (Stab.and Stab.block (Stab.and (Stab.below (Nat.le_refl _) hB) (Stab.pure _))))
theorem bucketsX_stab (w : World) (B : Nat) (hB : w.heap.size ≤ B) (c : Code) (k : Nat) : Stab B (bucketsX w c k) :=
  Stab.and (Stab.pure _) (Stab.and Stab.block (Stab.and Stab.block (Stab.and (Stab.below (Nat.le_refl _) hB) (Stab.pure _))))

set_option maxRecDepth 100000 in
set_option maxHeartbeats 2000000 in
theorem buckets_any (f t g : Int) (w : World) :
    Calls Try.prog 24 #[.agg #[.int .i64 f, .int .i64 t], .int .i64 g] w fun e w' => ∃ v, e = .returned (.tuple #[v, .int .i64 (bucketsE f t g)]) ∧
      w'.ownsRow w.heap.size 2 1 v (bucketsL f t g).length ((bucketsL f t g).map (Value.int .i64)) ∧ (v = .slice none 0 0 ↔ bucketsL f t g = []) ∧ Below w.heap.size w w' := by
  cases h1 : fitsB f t g with
  | true =>
    have h1' := (fitsB_iff f t g).1 h1
    have hok := bucketsOk_iff f t g h1
    obtain ⟨i0, hi, hiz0, hiz1, hiz2⟩ := info_parts info_i64
    have H1 := hid h1; have HO := hid hok; clear h1 hok
    refine calls_marks Try.func24 rfl ?_
    simp only [Try.ntmps24, List.size_toArray, List.length_cons, List.length_nil, Nat.reduceAdd, Nat.reduceSub, Array.replicate_succ, Array.replicate_zero, List.push_toArray, List.append_toArray, List.nil_append, List.cons_append]
    go_wp2_with (first
      | (go_at_call 21; ((with_reducible refine (fits_any _ _ _ _).mono ?_); rintro e w1 ⟨rfl, hb1⟩; rw [H1.out]; obtain ⟨hc1, hf1, hk1, hz1⟩ := bcell3 hb1; (try simp only [World.size_alloc] at hz1); have : w.heap.size < w1.heap.size := (by omega); have : w.heap.size + 1 < w1.heap.size := (by omega); have : w.heap.size + 1 + 1 < w1.heap.size := (by omega)))
      | (go_at_call 54; ((with_reducible refine (multiples_any _ _ _ _).mono ?_); rintro e w2 ⟨rfl, rfl⟩)))
    have hbel := hb1
    refine wp_range (gf := 66) (lb := #[.pointer (some ⟨w1.heap.size + 1, 0, none⟩), .pointer (some ⟨w1.heap.size + 1 + 1, 0, none⟩)]) rfl (enters_of Try.func66 (by kernel_rfl) rfl)
      (multiples_seq f t g (w1.heap.size + 1) (w1.heap.size + 1 + 1) w.heap.size (w1.heap.size + 1) (w1.heap.size + 1 + 1 + 1) _ (by omega) (by omega) (by simp) h1'.1 h1'.2.1 (by go_simp) (by go_simp) (by go_simp))
      (by simp; omega) (fun _ => rfl) (bucketsI w w1 f g) (bucketsX w) (bucketsI_stab _ _ _ _ _ (by simp; omega)) (bucketsX_stab _ _ (by simp; omega)) ?start ?round ?done ?stop
    case start =>
      refine ⟨⟨.slice none 0 0, by (simp (disch := first | omega | (simp only [World.size_alloc, World.size_setCell, World.size_drew]; done) | (simp only [World.size_alloc, World.size_setCell, World.size_drew]; omega)) only [heap_at, heap_past, heap_set_other, heap_set_same]), World.ownsRow_nil _ _ _ _, by simp⟩, ?_, ?_, by (repeat' (first | (with_reducible exact Below.refl _ _) | (with_reducible assumption) | (with_reducible refine Below.new ?_ _) | (with_reducible refine Below.alloc ?_ ?_ _) | (with_reducible refine Below.drew ?_) | (with_reducible refine Below.setCell ?_ ?_ _) | (refine Below.step ?_ (by assumption)) | go_size)), by omega⟩
      · (simp (disch := first | omega | (simp only [World.size_alloc, World.size_setCell, World.size_drew]; done) | (simp only [World.size_alloc, World.size_setCell, World.size_drew]; omega)) only [heap_at, heap_past, heap_set_other, heap_set_same]); rw [hb1.block _ (by simp)]; (simp (disch := first | omega | (simp only [World.size_alloc, World.size_setCell, World.size_drew]; done) | (simp only [World.size_alloc, World.size_setCell, World.size_drew]; omega)) only [heap_at, heap_past, heap_set_other, heap_set_same])
      · (simp (disch := first | omega | (simp only [World.size_alloc, World.size_setCell, World.size_drew]; done) | (simp only [World.size_alloc, World.size_setCell, World.size_drew]; omega)) only [heap_at, heap_past, heap_set_other, heap_set_same]); rw [hb1.block _ (by simp)]; (simp (disch := first | omega | (simp only [World.size_alloc, World.size_setCell, World.size_drew]; done) | (simp only [World.size_alloc, World.size_setCell, World.size_drew]; omega)) only [heap_at, heap_past, heap_set_other, heap_set_same])
    case round =>
      intro l k W hkN hI hl hlt hW
      gi_wp2
      refine ⟨Kept.refl _ _ _ _ _, fun W2 hT => ?_⟩
      have hI2 := (bucketsI_stab w w1 f g w.heap.size (Nat.le_refl _) k).turn hI hT (by simp at hl; omega)
      obtain ⟨⟨v, hbox, hrow, hnil⟩, hr1, hr2, hB, hk⟩ := hI2
      have hc1 := cell_of_one hbox; have hf1 := free_of_one hbox
      have hwl : w1.heap.size + 1 + 1 + 1 ≤ W2.heap.size := by rw [hT.size]; simp at hW; omega
      have hz2 := hB.size
      have ho1 := cell_of_one hr1; have ho1f := free_of_one hr1; have ho2 := cell_of_one hr2; have ho2f := free_of_one hr2
      have hms := hid (multsL_succ f g k)
      have HN := hid hnil; clear hnil
      obtain ⟨ao, cap, rfl⟩ := hrow.form
      by_cases hk1000 : k = 1000
      · subst hk1000
        gi_wp2
        refine ⟨by (repeat' (first | (with_reducible exact Kept.refl _ _ _ _ _) | (with_reducible assumption) | (with_reducible refine Kept.alloc ?_ ?_ ?_ _) | (with_reducible refine Kept.drew ?_) | (with_reducible refine Kept.setCell ?_ ?_ ?_ _) | (refine Kept.step ?_ ?_ ?_ (by assumption)) | go_size)), rfl, by (simp (disch := first | omega | (simp only [World.size_alloc, World.size_setCell, World.size_drew]; done) | (simp only [World.size_alloc, World.size_setCell, World.size_drew]; omega)) only [heap_at, heap_past, heap_set_other, heap_set_same]), ?_, (hB.setCell (by simp) _).setCell (by simp; omega) _, Nat.le_refl _⟩
        refine heap_set_same (v := .int .i64 0) ?_
        rw [heap_set_other (by simp)]; exact hr2
      · have hne : ((k : Int) == 1000) = false := by simp; omega
        have hne0 := hrow.alloc (.cells #[.int .i64 (f + (k : Int) * g)] 2)
        have hbx : ∀ g0, (Value.slice ao k cap).ownBlock = some g0 → w1.heap.size + 1 + 1 + 1 ≤ g0 ∧ g0 < W2.heap.size := fun g0 e => hrow.lt g0 e
        gi_wp2_with (gi_at_builtin; go_loud (refine wpListIn_append_own _ rfl _ _ 33 rfl (w1.heap.size + 1 + 1 + 1) 2 i0 (.int .i64 0) 1 8 Try.underlying33 hi hiz0 hiz1 hiz2 rfl (by decide) _ _ _ rfl (hrow.alloc _) ⟨W2.heap.size, 0, none⟩ 1 1 [.int .i64 (f + (k : Int) * g)] rfl rfl (one_new _ _ _) (one_int _ _) (by unfold maxLen; omega) (by omega) (by simp; omega) ?_); intro v' w1' hown' hgrow' hnil'; obtain ⟨g', cap', rfl⟩ := ownsRow_succ hown'; have hbox' := (hgrow'.block w1.heap.size (by simp; omega) (fun e => by have := hbx _ e.symm; omega)).trans ((heap_past (by omega)).trans hbox); have hc1' := cell_of_one hbox'; have hf1' := free_of_one hbox')
        have hnr := row_of_own (hrow.alloc (.cells #[.int .i64 (f + (k : Int) * g)] 2))
        have hne1 : ∀ b, b < w1.heap.size + 1 + 1 + 1 → some b ≠ (Value.slice ao k cap).ownBlock := fun b hb e => by have := (hbx b e.symm).1; omega
        have hown2 : w1'.ownsRow (w1.heap.size + 1 + 1 + 1) 2 1 (.slice (some ⟨g', 0, none⟩) (k + 1) cap') (k + 1) ((multsL f g (k + 1)).map (Value.int .i64)) := by rw [hms.out, List.map_append]; exact hown'
        have hg3 := (row_of_own hown2 g' rfl).1
        have hgb := hgrow'.size
        simp only [World.size_alloc] at hgb
        have hr1' := (hgrow'.block (w.heap.size + 1) (by simp; omega) (hne1 _ (by omega))).trans ((heap_past (by omega)).trans hr1)
        have hr2' := (hgrow'.block (w.heap.size + 1 + 1) (by simp; omega) (hne1 _ (by omega))).trans ((heap_past (by omega)).trans hr2)
        have hB2 : Below w.heap.size w w1' := (hB.alloc (by omega) _).grown hgrow' (by simp; omega) (fun r e => by have := (hbx r e).1; omega)
        refine ⟨?_, ⟨_, heap_set_same hbox', ownsRow_setCell_other hown2 (by simp [Value.ownBlock]; omega) _, by simp⟩, by (simp (disch := first | omega | (simp only [World.size_alloc, World.size_setCell, World.size_drew]; done) | (simp only [World.size_alloc, World.size_setCell, World.size_drew]; omega)) only [heap_at, heap_past, heap_set_other, heap_set_same]); exact hr1', by (simp (disch := first | omega | (simp only [World.size_alloc, World.size_setCell, World.size_drew]; done) | (simp only [World.size_alloc, World.size_setCell, World.size_drew]; omega)) only [heap_at, heap_past, heap_set_other, heap_set_same]); exact hr2', hB2.setCell (by simp; omega) _, by omega⟩
        refine Kept.setCell (Kept.grown (Kept.alloc (Kept.refl _ _ _ _ _) (by omega) (by omega) _) hgrow' (by simp; omega) (by simp; omega) fun r e => ⟨by have := (hbx r e).1; omega, .inr (hbx r e).1, (hnr r e).2⟩) (by simp; omega) (.inl (by simp)) _
    case done =>
      intro D W hD hI hK
      obtain ⟨⟨v, hbox, hrow, hnil⟩, hr1, hr2, hB, hk⟩ := hI
      have hc1 := cell_of_one hbox; have hf1 := free_of_one hbox
      have ho1 := cell_of_one hr1; have ho1f := free_of_one hr1; have ho2 := cell_of_one hr2; have ho2f := free_of_one hr2
      have HN := hid hnil; clear hnil
      obtain ⟨ao, cap, rfl⟩ := hrow.form
      have hL : bucketsL f t g = multsL f g (bucketsN f t g) := by rw [bucketsL, HO.out, if_pos (by simpa using hk)]
      have hE : bucketsE f t g = 0 := by rw [bucketsE, HO.out, if_pos (by simpa using hk)]
      have HL := hid hL; have HE := hid hE; clear hL hE
      simp only [World.size_alloc] at hD
      go_wp2
      have q1 : ∀ X, (X = (W.setCell ⟨w.heap.size + 1, 0, none⟩ (.slice ao (bucketsN f t g) cap)).setCell ⟨w.heap.size + 1 + 1, 0, none⟩ (.int .i64 0)) → X.heap[w.heap.size + 1]? = some (.cells #[.slice ao (bucketsN f t g) cap] 33 (0, 0)) ∧ X.heap[w.heap.size + 1 + 1]? = some (.cells #[.int .i64 0] 23 (0, 0)) ∧ X.heap[D]? = some (.deferred (some [])) ∧ Below w.heap.size w X ∧ X.ownsRow (w1.heap.size + 1 + 1 + 1) 2 1 (.slice ao (bucketsN f t g) cap) (bucketsN f t g) ((multsL f g (bucketsN f t g)).map (Value.int .i64)) := by
        rintro X rfl
        have hne : ∀ b, b < w1.heap.size + 1 + 1 + 1 → (Value.slice ao (bucketsN f t g) cap).ownBlock ≠ some b := fun b hb e => by have := (hrow.lt b e).1; omega
        refine ⟨by (simp (disch := first | omega | (simp only [World.size_alloc, World.size_setCell, World.size_drew]; done) | (simp only [World.size_alloc, World.size_setCell, World.size_drew]; omega)) only [heap_at, heap_past, heap_set_other, heap_set_same]), ?_, by (simp (disch := first | omega | (simp only [World.size_alloc, World.size_setCell, World.size_drew]; done) | (simp only [World.size_alloc, World.size_setCell, World.size_drew]; omega)) only [heap_at, heap_past, heap_set_other, heap_set_same]); exact hK, (hB.setCell (by simp) _).setCell (by simp; omega) _, ownsRow_setCell_other (ownsRow_setCell_other hrow (hne _ (by dsimp only; omega)) _) (hne _ (by dsimp only; omega)) _⟩
        refine heap_set_same (v := .int .i64 0) ?_
        rw [heap_set_other (by simp)]; exact hr2
      obtain ⟨x1, x2, x3, x4, x5⟩ := q1 _ rfl
      clear q1
      refine ret_mark (.inl rfl) x3 fun w' hT => ?_
      have y1 := cell_of_one ((hT.block (lt_of_block x1) (by omega)).trans x1); have y2 := cell_of_one ((hT.block (lt_of_block x2) (by omega)).trans x2)
      refine ⟨_, by simp only [results, Try.results24]; go_simp; try rfl, ?_⟩
      rw [HL.out, HE.out, multsL_length]
      refine ⟨_, rfl, (Stab.row.turn x5 hT (Nat.zero_le _)).base_le (by omega), HN.out.trans ?_, (Stab.below (Nat.le_refl _) (Nat.le_refl _)).turn x4 hT (by omega)⟩
      rw [← List.length_eq_zero_iff, multsL_length]
    case stop =>
      intro D c k W hD hkN hX hK
      obtain ⟨rfl, hr1, hr2, hB, hk⟩ := hX
      have hL : bucketsL f t g = [] := by rw [bucketsL, HO.out, if_neg (by simp; omega)]
      have hE : bucketsE f t g = 110 := by rw [bucketsE, HO.out, if_neg (by simp; omega)]
      have HL := hid hL; have HE := hid hE; clear hL hE
      simp only [World.size_alloc] at hD
      go_wp2
      refine ret_mark (.inl rfl) hK fun w' hT => ?_
      have y1 := cell_of_one ((hT.block (lt_of_block hr1) (by omega)).trans hr1); have y2 := cell_of_one ((hT.block (lt_of_block hr2) (by omega)).trans hr2)
      refine ⟨_, by simp only [results, Try.results24]; go_simp; try rfl, ?_⟩
      rw [HL.out, HE.out]
      exact ⟨_, rfl, World.ownsRow_nil _ _ _ _, by simp, (Stab.below (Nat.le_refl _) (Nat.le_refl _)).turn hB hT (by omega)⟩
  | false =>
    have hL : bucketsL f t g = [] := by simp [bucketsL, bucketsOk, h1]
    have hE : bucketsE f t g = 110 := by simp [bucketsE, bucketsOk, h1]
    rw [hL, hE]
    have H1 := hid h1; clear h1 hL hE
    refine calls_marks Try.func24 rfl ?_
    simp only [Try.ntmps24, List.size_toArray, List.length_cons, List.length_nil, Nat.reduceAdd, Nat.reduceSub, Array.replicate_succ, Array.replicate_zero, List.push_toArray, List.append_toArray, List.nil_append, List.cons_append]
    go_wp2_with (go_at_call 21; ((with_reducible refine (fits_any _ _ _ _).mono ?_); rintro e w1 ⟨rfl, hb1⟩; rw [H1.out]; obtain ⟨hc1, hf1, hk1, hz1⟩ := bcell3 hb1; (try simp only [World.size_alloc] at hz1); have : w.heap.size < w1.heap.size := (by omega); have : w.heap.size + 1 < w1.heap.size := (by omega); have : w.heap.size + 1 + 1 < w1.heap.size := (by omega)))
    refine ret_plain (.inl rfl) (by simp only [results, Try.results24]; go_simp; try rfl) ?_
    exact ⟨_, rfl, World.ownsRow_nil _ _ _ _, by simp, by (repeat' (first | (with_reducible exact Below.refl _ _) | (with_reducible assumption) | (with_reducible refine Below.new ?_ _) | (with_reducible refine Below.alloc ?_ ?_ _) | (with_reducible refine Below.drew ?_) | (with_reducible refine Below.setCell ?_ ?_ _) | (refine Below.step ?_ (by assumption)) | go_size))⟩
end Go.Proofs.Ytekmcomddaoljaa
