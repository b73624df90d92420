/- RollupCounts holds: merged cells are of as many rows as both together, and are no more cells. No condition. -/
import Derived.Test.YtdgeinipdphoeaaGl
import Derived.Test.YtdgeinipdphoeaaGm
import Derived.Test.YtdgeinipdphoeaaGa
namespace Go.Proofs.Ytdgeinipdphoeaa
set_option linter.unusedVariables false
set_option linter.unusedSimpArgs false
set_option maxRecDepth 100000
open Go.ChangeShapes Go.WideShapes Go.ChangeAt Go.RowKit Go.Joins

theorem rollL_len (s : SchD) (rows : List RowD) : (rollL s rows).length ≤ rows.length := by
  have h : (rollL s rows).length ≤ ([] : List CellD).length + (rows.map (ofC s)).length := (Put.puts_len (cellRule s.ms.length) [] (rows.map (ofC s))).2
  simpa using h
theorem mergeL_swap {s : SchD} {a b : List CellD} (ha : RightL s a) (hb : RightL s b) : mergeL s a b = mergeL s b a := by
  have e1 : mergeL s a b = puts s.ms.length [] (a ++ b) := by
    show puts s.ms.length a b = _
    rw [show puts s.ms.length [] (a ++ b) = puts s.ms.length (puts s.ms.length [] a) b from Put.puts_append (cellRule s.ms.length) [] a b, ha.self]
  have e2 : mergeL s b a = puts s.ms.length [] (b ++ a) := by
    show puts s.ms.length b a = _
    rw [show puts s.ms.length [] (b ++ a) = puts s.ms.length (puts s.ms.length [] b) a from Put.puts_append (cellRule s.ms.length) [] b a, hb.self]
  rw [e1, e2]
  refine Put.puts_perm (cellRule s.ms.length) List.perm_append_comm (fun c hc => by simp at hc) (fun c hc => ?_)
  rcases List.mem_append.1 hc with h | h
  · exact ha.rolled.all c h
  · exact hb.rolled.all c h
theorem mergeL_len {s : SchD} {a b : List CellD} (ha : RightL s a) (hb : RightL s b) : (mergeL s a b).length ≤ a.length + b.length ∧ a.length ≤ (mergeL s a b).length ∧ b.length ≤ (mergeL s a b).length := by
  have h1 : a.length ≤ (mergeL s a b).length ∧ (mergeL s a b).length ≤ a.length + b.length := Put.puts_len (cellRule s.ms.length) a b
  have h2 : b.length ≤ (mergeL s b a).length ∧ _ := Put.puts_len (cellRule s.ms.length) b a
  rw [← mergeL_swap ha hb] at h2
  exact ⟨h1.2, h1.1, h2.1⟩
/-- Two lists of few rows, rolled: merged. -/
theorem merge_rolls {s : SchD} {R T : List RowD} (h1 : rollE s R = 0) (h2 : rollE s T = 0) (k1 : RowsOk R) (k2 : RowsOk T) (l1 : R.length ≤ 100) (l2 : T.length ≤ 100) :
    mergeE s (rollL s R) (rollL s T) = 0 ∧ countW (mergeL s (rollL s R) (rollL s T)) = R.length + T.length ∧ countW (rollL s R) = R.length ∧ countW (rollL s T) = T.length := by
  have r1 := rightB_roll h1 k1
  have r2 := rightB_roll h2 k2
  have p1 := right_parts r1
  have p2 := right_parts r2
  have hr := mergeL_rolled p1 p2
  have hc : countT (mergeL s (rollL s R) (rollL s T)) = R.length + T.length := by
    show countT (puts s.ms.length (rollL s R) (rollL s T)) = _
    rw [countT_puts, rollL_count, rollL_count]
  have hE : endsB (mergeL s (rollL s R) (rollL s T)) = true := by
    have q1 := rollL_len s R
    have q2 := rollL_len s T
    have q3 := (mergeL_len p1 p2).1
    unfold endsB
    have hany : (mergeL s (rollL s R) (rollL s T)).any manyB = false := by
      rw [List.any_eq_false]
      intro c hcm
      have := le_countT hr.nonneg c hcm
      rw [hc] at this
      unfold manyB
      simp
      omega
    rw [hany]
    simp
    omega
  refine ⟨?_, ?_, ?_, ?_⟩
  · unfold mergeE
    rw [p1.sch, r1, r2, hE]
    rfl
  · rw [countW_is hr.nonneg (by rw [hc]; omega), hc]
  · have := rollL_count s R
    rw [countW_is p1.rolled.nonneg (by rw [this]; omega), this]
  · have := rollL_count s T
    rw [countW_is p2.rolled.nonneg (by rw [this]; omega), this]

set_option maxHeartbeats 4000000 in
theorem RollupCounts_walk (vd vm : Value) (ds ms : List ByteArray) (g : Int) (v : Value) (rows : List RowD) (v' : Value) (rows' : List RowD) (w : World)
    (hd : StrsSl w vd ds) (hm : StrsSl w vm ms) (td : ∀ s ∈ ds, s.size ≤ 9223372036854775807) (tm : ∀ s ∈ ms, s.size ≤ 9223372036854775807) (hg : I64 g) (hv : RowsSl w v rows) (hf : ∀ r ∈ rows, RowFine r) (hv' : RowsSl w v' rows') (hf' : ∀ r ∈ rows', RowFine r) :
    Calls Try.prog 9 #[.agg #[vd, vm, .int .i64 g], v, v'] w fun e w' => e = .returned (.bool true) ∧ Below w.heap.size w w' := by
  have HCUT := hid (fun W (h : Below w.heap.size w W) => cut_any vd vm ds ms g W (hd.below h) (hm.below h) td tm)
  have HROWS : Hid (∀ W, Below w.heap.size w W → Calls Try.prog 26 #[v, .int .i64 40] W (RowsPost2 w W (rowsCut 40 rows))) := fun W h => lawRows2_any rows 40 v w W h hv (fun r hr => (hf r hr).1) (by decide)
  have HROWS' : Hid (∀ W, Below w.heap.size w W → Calls Try.prog 26 #[v', .int .i64 40] W (RowsPost2 w W (rowsCut 40 rows'))) := fun W h => lawRows2_any rows' 40 v' w W h hv' (fun r hr => (hf' r hr).1) (by decide)
  have HROK := hid (rows_fine (n := 40) hf)
  have HRLN := hid (rows_few 40 rows)
  have HROK' := hid (rows_fine (n := 40) hf')
  have HRLN' := hid (rows_few 40 rows')
  have HTD := hid (txt_fine ds); have HTM := hid (txt_fine ms)
  obtain ⟨ad, cd, rfl, _, _, _⟩ := SlAt.shape hd
  obtain ⟨am, cm, rfl, _, _, _⟩ := SlAt.shape hm
  obtain ⟨av, cv, rfl, _, _, _⟩ := hv.shape
  obtain ⟨av', cv', rfl, _, _, _⟩ := hv'.shape
  clear hd hm td tm hv hf hv' hf'
  generalize ds.length = nd at *
  generalize ms.length = nm at *
  generalize rows.length = nr at *
  generalize rows'.length = nr' at *
  obtain ⟨D, hD⟩ : ∃ D, txtCut 30 10 ds = D := ⟨_, rfl⟩
  obtain ⟨M, hM⟩ : ∃ M, txtCut 30 10 ms = M := ⟨_, rfl⟩
  obtain ⟨R, hR⟩ : ∃ R, rowsCut 40 rows = R := ⟨_, rfl⟩
  obtain ⟨T, hT⟩ : ∃ T, rowsCut 40 rows' = T := ⟨_, rfl⟩
  rw [hD, hM] at HCUT; rw [hD] at HTD; rw [hM] at HTM; rw [hR] at HROWS HROK HRLN; rw [hT] at HROWS' HROK' HRLN'
  clear hD hM hR hT
  go_enter Try.func9, Try.ntmps9
  go_wp2_with (go_at_call 25; ((with_reducible refine (shown12_any _).mono ?_); rintro e w1 ⟨rfl, hb1⟩; have r0 : w1.heap[w.heap.size]? = some (.cells #[.slice ad nd cd, .slice am nm cm, .int .i64 g] 24 (0, 0)) := blk_below (by ((simp (disch := first | omega | (simp only [World.size_alloc, World.size_setCell, World.size_drew]; done) | (simp only [World.size_alloc, World.size_setCell, World.size_drew]; omega)) only [heap_at, heap_past, heap_set_other, heap_set_same]))) hb1; have hB1 : Below w.heap.size w w1 := (by (repeat' (first | (with_reducible exact Below.refl _ _) | (with_reducible assumption) | (with_reducible refine Below.new ?_ _) | (with_reducible refine Below.alloc ?_ ?_ _) | (with_reducible refine Below.drew ?_) | (with_reducible refine Below.drewN ?_ _) | (with_reducible refine Below.setCell ?_ ?_ _) | (refine Below.step ?_ (by assumption)) | go_size))); clear hb1; (obtain ⟨c0, c1, c2, f0, f1, f2⟩ := three_at r0)))
  refine (HCUT.out _ hB1).mono ?_
  rintro e w2 ⟨v1, v2, rfl, ho1, ho2, hb2⟩
  obtain ⟨a1, k1, rfl, _, _, _⟩ := SlAt.shape (SlAt.own ho1)
  obtain ⟨a2, k2, rfl, _, _, _⟩ := SlAt.shape (SlAt.own ho2)
  have HP := hid (pre_sch (g := g) hB1 r0 (Nat.le_refl _) hb2 ho1 ho2)
  have p0 := blk_below r0 hb2
  clear c0 c1 c2 f0 f1 f2 r0 ho1 ho2 hb2 hB1
  obtain ⟨c0, c1, c2, f0, f1, f2⟩ := three_at p0
  clear p0
  go_wp2_with fail
  clear c0 c1 c2 f0 f1 f2
  generalize hW2 : ((w2.setCell ⟨w.heap.size, 0, none⟩ (.slice a1 D.length k1)).setCell ⟨w.heap.size, 1, none⟩ (.slice a2 M.length k2)).setCell ⟨w.heap.size, 2, none⟩ (.int .i64 g) = W2 at *
  obtain ⟨hBW, q0, o1, o2⟩ := HP.out
  clear HP hW2
  have s1 := StrsSl.own o1; have s2 := StrsSl.own o2
  have HS := hid (And.intro s1 s2)
  have HRO := hid (fun W v (h : Below W2.heap.size W2 W) (hv : RowsSl W v R) => roll_out ⟨D, M, g⟩ R _ _ v W (s1.below h) (s2.below h) HTD.out HTM.out hv HROK.out (by have := HRLN.out; omega))
  have HRO' := hid (fun W v (h : Below W2.heap.size W2 W) (hv : RowsSl W v T) => roll_out ⟨D, M, g⟩ T _ _ v W (s1.below h) (s2.below h) HTD.out HTM.out hv HROK'.out (by have := HRLN'.out; omega))
  have HQ0 := hid q0
  have HBW := hid hBW
  obtain ⟨c0, c1, c2, _, _, _⟩ := three_at q0
  have zA := blk_lt q0
  clear o1 o2 s1 s2 hBW q0
  have hS0 : (fun w' : World => w'.cell? ⟨w.heap.size, 0, none⟩ = some (.slice a1 D.length k1) ∧ w'.cell? ⟨w.heap.size, 1, none⟩ = some (.slice a2 M.length k2) ∧ w'.cell? ⟨w.heap.size, 2, none⟩ = some (.int .i64 g)) W2.drew := ⟨c0, c1, c2⟩
  refine wp_region_some (fun w' : World => w'.cell? ⟨w.heap.size, 0, none⟩ = some (.slice a1 D.length k1) ∧ w'.cell? ⟨w.heap.size, 1, none⟩ = some (.slice a2 M.length k2) ∧ w'.cell? ⟨w.heap.size, 2, none⟩ = some (.int .i64 g)) [4, 5, 6, 7, 8] (by kernel_rfl) ?_
  (refine wpMix_take (i := 0) (v := ?_) rfl (by kernel_rfl) (fun _ _ _ h => h) (Or.inl ⟨by rfl, ?_⟩) hS0 ?_; rotate_left 1; (focus (intro w hSw; (try dsimp only at hSw); go_simp; try (with_reducible rfl))); (try simp only [Act.put, List.setIfInBounds_toArray, List.set_cons_zero, List.set_cons_succ]))
  (refine wpMix_take (i := 1) (v := ?_) rfl (by kernel_rfl) (fun _ _ _ h => h) (Or.inl ⟨by rfl, ?_⟩) hS0 ?_; rotate_left 1; (focus (intro w hSw; (try dsimp only at hSw); go_simp; try (with_reducible rfl))); (try simp only [Act.put, List.setIfInBounds_toArray, List.set_cons_zero, List.set_cons_succ]))
  refine wpMix_next (t := 2) (by kernel_rfl) ?_
  simp only [opsAt, List.flatMap_cons, List.flatMap_nil, List.take_succ_cons, List.take_zero, List.drop_succ_cons, List.drop_zero, List.append_nil, List.cons_append, List.nil_append]
  go_wp2_with (go_at_call 26; go_loud ((with_reducible refine (HROWS.out _ HBW.out.drew).mono ?_); rintro e w3 ⟨v3, ps, rfl, hrs, hps, hb3⟩))
  have hb3' : Below W2.heap.size W2 w3 := (Below.drew (Below.refl _ _)).trans hb3
  refine ⟨⟨cell_step c0 hb3', cell_step c1 hb3', cell_step c2 hb3'⟩, ?_⟩
  have s3 := hrs.is
  rw [hps] at s3
  have HB3 := hid hb3'
  clear hrs hps hb3 hS0
  refine wpMix_next (t := 3) (by kernel_rfl) ?_
  simp only [opsAt, List.flatMap_cons, List.flatMap_nil, List.take_succ_cons, List.take_zero, List.drop_succ_cons, List.drop_zero, List.append_nil, List.cons_append, List.nil_append]
  go_wp2_with (go_at_call 27; go_loud ((with_reducible refine (HRO.out _ _ HB3.out s3).mono ?_); rintro e w4 ⟨va, rfl, hca, hb4⟩; have H4 := hid (And.intro hca (HB3.out.step hb4)); clear hca hb4))
  refine ⟨⟨cell_step c0 H4.out.2, cell_step c1 H4.out.2, cell_step c2 H4.out.2⟩, ?_⟩
  clear hb3'
  (refine wpMix_free (i := 4) (v := ?_) rfl (by kernel_rfl) (fun _ _ _ h => h) (Or.inl ⟨by rfl, ?_⟩) ?_; rotate_left 1; (focus (intro w hSw; go_simp; try (with_reducible rfl))); (try simp only [Act.put, List.setIfInBounds_toArray, List.set_cons_zero, List.set_cons_succ]))
  (refine wpMix_free (i := 5) (v := ?_) rfl (by kernel_rfl) (fun _ _ _ h => h) (Or.inl ⟨by rfl, ?_⟩) ?_; rotate_left 1; (focus (intro w hSw; go_simp; try (with_reducible rfl))); (try simp only [Act.put, List.setIfInBounds_toArray, List.set_cons_zero, List.set_cons_succ]))
  (refine wpMix_free (i := 6) (v := ?_) rfl (by kernel_rfl) (fun _ _ _ h => h) (Or.inl ⟨by rfl, ?_⟩) ?_; rotate_left 1; (focus (intro w hSw; go_simp; try (with_reducible rfl))); (try simp only [Act.put, List.setIfInBounds_toArray, List.set_cons_zero, List.set_cons_succ]))
  refine wpMix_rest [7, 8] (by kernel_rfl) ?_
  simp only [opsAt, List.flatMap_cons, List.flatMap_nil, List.take_succ_cons, List.take_zero, List.drop_succ_cons, List.drop_zero, List.append_nil, List.cons_append, List.nil_append]
  go_wp2_with fail
  clear c0 c1 c2 s3
  obtain ⟨c0, c1, c2, _, _, _⟩ := three_at (blk_below HQ0.out H4.out.2)
  have zB := H4.out.2.size
  have hS0 : (fun w' : World => w'.cell? ⟨w.heap.size, 0, none⟩ = some (.slice a1 D.length k1) ∧ w'.cell? ⟨w.heap.size, 1, none⟩ = some (.slice a2 M.length k2) ∧ w'.cell? ⟨w.heap.size, 2, none⟩ = some (.int .i64 g)) w4.drew := ⟨c0, c1, c2⟩
  refine wp_region_some (fun w' : World => w'.cell? ⟨w.heap.size, 0, none⟩ = some (.slice a1 D.length k1) ∧ w'.cell? ⟨w.heap.size, 1, none⟩ = some (.slice a2 M.length k2) ∧ w'.cell? ⟨w.heap.size, 2, none⟩ = some (.int .i64 g)) [4, 5, 6, 7, 8] (by kernel_rfl) ?_
  (refine wpMix_take (i := 0) (v := ?_) rfl (by kernel_rfl) (fun _ _ _ h => h) (Or.inl ⟨by rfl, ?_⟩) hS0 ?_; rotate_left 1; (focus (intro w hSw; (try dsimp only at hSw); go_simp; try (with_reducible rfl))); (try simp only [Act.put, List.setIfInBounds_toArray, List.set_cons_zero, List.set_cons_succ]))
  (refine wpMix_take (i := 1) (v := ?_) rfl (by kernel_rfl) (fun _ _ _ h => h) (Or.inl ⟨by rfl, ?_⟩) hS0 ?_; rotate_left 1; (focus (intro w hSw; (try dsimp only at hSw); go_simp; try (with_reducible rfl))); (try simp only [Act.put, List.setIfInBounds_toArray, List.set_cons_zero, List.set_cons_succ]))
  refine wpMix_next (t := 2) (by kernel_rfl) ?_
  simp only [opsAt, List.flatMap_cons, List.flatMap_nil, List.take_succ_cons, List.take_zero, List.drop_succ_cons, List.drop_zero, List.append_nil, List.cons_append, List.nil_append]
  go_wp2_with (go_at_call 26; go_loud ((with_reducible refine (HROWS'.out _ ((HBW.out.step H4.out.2).drew)).mono ?_); rintro e w5 ⟨v5, ps, rfl, hrs, hps, hb5⟩))
  have hb5' : Below w4.heap.size w4 w5 := (Below.drew (Below.refl _ _)).trans hb5
  refine ⟨⟨cell_step c0 hb5', cell_step c1 hb5', cell_step c2 hb5'⟩, ?_⟩
  have s3 := hrs.is
  rw [hps] at s3
  have HB5 := hid hb5'
  clear hrs hps hb5 hS0
  refine wpMix_next (t := 3) (by kernel_rfl) ?_
  simp only [opsAt, List.flatMap_cons, List.flatMap_nil, List.take_succ_cons, List.take_zero, List.drop_succ_cons, List.drop_zero, List.append_nil, List.cons_append, List.nil_append]
  go_wp2_with (go_at_call 27; go_loud ((with_reducible refine (HRO'.out _ _ (H4.out.2.step HB5.out) s3).mono ?_); rintro e w6 ⟨vb, rfl, hcb, hb6⟩; have H6 := hid (And.intro hcb (HB5.out.step hb6)); clear hcb hb6))
  refine ⟨⟨cell_step c0 H6.out.2, cell_step c1 H6.out.2, cell_step c2 H6.out.2⟩, ?_⟩
  clear hb5'
  (refine wpMix_free (i := 4) (v := ?_) rfl (by kernel_rfl) (fun _ _ _ h => h) (Or.inl ⟨by rfl, ?_⟩) ?_; rotate_left 1; (focus (intro w hSw; go_simp; try (with_reducible rfl))); (try simp only [Act.put, List.setIfInBounds_toArray, List.set_cons_zero, List.set_cons_succ]))
  (refine wpMix_free (i := 5) (v := ?_) rfl (by kernel_rfl) (fun _ _ _ h => h) (Or.inl ⟨by rfl, ?_⟩) ?_; rotate_left 1; (focus (intro w hSw; go_simp; try (with_reducible rfl))); (try simp only [Act.put, List.setIfInBounds_toArray, List.set_cons_zero, List.set_cons_succ]))
  (refine wpMix_free (i := 6) (v := ?_) rfl (by kernel_rfl) (fun _ _ _ h => h) (Or.inl ⟨by rfl, ?_⟩) ?_; rotate_left 1; (focus (intro w hSw; go_simp; try (with_reducible rfl))); (try simp only [Act.put, List.setIfInBounds_toArray, List.set_cons_zero, List.set_cons_succ]))
  refine wpMix_rest [7, 8] (by kernel_rfl) ?_
  simp only [opsAt, List.flatMap_cons, List.flatMap_nil, List.take_succ_cons, List.take_zero, List.drop_succ_cons, List.drop_zero, List.append_nil, List.cons_append, List.nil_append]
  have HBE := hid (HBW.out.step (H4.out.2.step H6.out.2))
  clear s3 c0 c1 c2 HRO HRO' HROWS HROWS' HCUT
  by_cases e1 : rollE ⟨D, M, g⟩ R = 0
  · by_cases e2 : rollE ⟨D, M, g⟩ T = 0
    · obtain ⟨m1, m2, m3, m4⟩ := merge_rolls e1 e2 HROK.out HROK'.out (by have := HRLN.out; omega) (by have := HRLN'.out; omega)
      have r1 := rightB_roll e1 HROK.out
      have r2 := rightB_roll e2 HROK'.out
      have hln := mergeL_len (right_parts r1) (right_parts r2)
      have hca := H4.out.1.below H6.out.2
      have hcb := H6.out.1
      have ta : ∀ c ∈ rollL ⟨D, M, g⟩ R, CellTame c := fun c hc => (rollL_good (rollE_ok e1).2.1 HROK.out c hc).tame
      have tb : ∀ c ∈ rollL ⟨D, M, g⟩ T, CellTame c := fun c hc => (rollL_good (rollE_ok e2).2.1 HROK'.out c hc).tame
      rw [outL_ok e1] at hca
      rw [outL_ok e2] at hcb
      have hw26 : Below W2.heap.size W2 w6 := H4.out.2.step H6.out.2
      have hMG := merge_out ⟨D, M, g⟩ _ _ _ _ va vb w6 (HS.out.1.below hw26) (HS.out.2.below hw26) HTD.out HTM.out hca hcb ta tb
      rw [m1, show outM ⟨D, M, g⟩ (rollL ⟨D, M, g⟩ R) (rollL ⟨D, M, g⟩ T) = mergeL ⟨D, M, g⟩ (rollL ⟨D, M, g⟩ R) (rollL ⟨D, M, g⟩ T) from if_pos m1] at hMG
      have hl1 := rollL_len ⟨D, M, g⟩ R
      have hl2 := rollL_len ⟨D, M, g⟩ T
      have hR40 := HRLN.out; have hT40 := HRLN'.out
      have HMG := hid hMG; have HCA := hid hca; have HCB := hid hcb
      obtain ⟨c0, c1, c2, _, _, _⟩ := three_at (blk_below HQ0.out hw26)
      rw [e1, e2]
      obtain ⟨xo, xc, rfl, _⟩ := hca.shape
      obtain ⟨yo, yc, rfl, _⟩ := hcb.shape
      clear e1 e2 m1 r1 r2 hca hcb ta tb hMG hw26 H4 H6
      generalize mergeL ⟨D, M, g⟩ (rollL ⟨D, M, g⟩ R) (rollL ⟨D, M, g⟩ T) = LZ at *
      generalize rollL ⟨D, M, g⟩ R = LX at *
      generalize rollL ⟨D, M, g⟩ T = LY at *
      go_wp2_with fail
      refine HMG.out.mono ?_
      rintro e w7 ⟨vz, rfl, hcz, hb7⟩
      obtain ⟨zo, zc, rfl, _⟩ := hcz.shape
      have HC1 := hid (fun W (h : Below w7.heap.size w7 W) => count_any _ LZ W (hcz.below h))
      have HC2 := hid (fun W (h : Below w7.heap.size w7 W) => count_any _ LX W ((HCA.out.below hb7).below h))
      have HC3 := hid (fun W (h : Below w7.heap.size w7 W) => count_any _ LY W ((HCB.out.below hb7).below h))
      simp only [m2] at HC1
      simp only [m3] at HC2
      simp only [m4] at HC3
      have HB7 := hid (HBE.out.step hb7)
      obtain ⟨z1, z2, z3⟩ := hln
      generalize R.length = rl at *
      generalize T.length = tl at *
      generalize LZ.length = nz at *
      generalize LX.length = nx at *
      generalize LY.length = ny at *
      have im := ite_max
      have g1 : decide ((nz : Int) ≤ (nx : Int) + (ny : Int)) = true := by simp; omega
      have g2 : decide (max (nx : Int) (ny : Int) ≤ (nz : Int)) = true := by simp; omega
      have g3 : decide ((nz : Int) ≥ max (nx : Int) (ny : Int)) = true := by simp; omega
      have hx1 : (0 : Int) ≤ (nx : Int) := Int.natCast_nonneg _
      have hx2 : (nx : Int) ≤ 40 := by omega
      have hy1 : (0 : Int) ≤ (ny : Int) := Int.natCast_nonneg _
      have hy2 : (ny : Int) ≤ 40 := by omega
      have hr1 : (0 : Int) ≤ (rl : Int) := Int.natCast_nonneg _
      have hr2 : (rl : Int) ≤ 40 := by omega
      have ht1 : (0 : Int) ≤ (tl : Int) := Int.natCast_nonneg _
      have ht2 : (tl : Int) ≤ 40 := by omega
      have hq1 : (nz : Int) ≤ (nx : Int) + (ny : Int) := by omega
      have hq2 : max (nx : Int) (ny : Int) ≤ (nz : Int) := by omega
      have hq3 : (nx : Int) ≤ (nz : Int) := by omega
      have hq4 : (ny : Int) ≤ (nz : Int) := by omega
      clear hcz hb7 HMG HCA HCB c0 c1 c2
      go_wp2_with (go_at_call 33; first
        | ((with_reducible refine (HC1.out _ (by (repeat' (first | (with_reducible exact Below.refl _ _) | (with_reducible assumption) | (with_reducible refine Below.new ?_ _) | (with_reducible refine Below.alloc ?_ ?_ _) | (with_reducible refine Below.drew ?_) | (with_reducible refine Below.drewN ?_ _) | (with_reducible refine Below.setCell ?_ ?_ _) | (refine Below.step ?_ (by assumption)) | go_size)))).mono ?_); rintro e x1 ⟨rfl, hx1⟩)
        | ((with_reducible refine (HC2.out _ (by (repeat' (first | (with_reducible exact Below.refl _ _) | (with_reducible assumption) | (with_reducible refine Below.new ?_ _) | (with_reducible refine Below.alloc ?_ ?_ _) | (with_reducible refine Below.drew ?_) | (with_reducible refine Below.drewN ?_ _) | (with_reducible refine Below.setCell ?_ ?_ _) | (refine Below.step ?_ (by assumption)) | go_size)))).mono ?_); rintro e x2 ⟨rfl, hx2⟩)
        | ((with_reducible refine (HC3.out _ (by (repeat' (first | (with_reducible exact Below.refl _ _) | (with_reducible assumption) | (with_reducible refine Below.new ?_ _) | (with_reducible refine Below.alloc ?_ ?_ _) | (with_reducible refine Below.drew ?_) | (with_reducible refine Below.drewN ?_ _) | (with_reducible refine Below.setCell ?_ ?_ _) | (refine Below.step ?_ (by assumption)) | go_size)))).mono ?_); rintro e x3 ⟨rfl, hx3⟩))
      go_ret
      exact ⟨rfl, by have := HB7.out; (repeat' (first | (with_reducible exact Below.refl _ _) | (with_reducible assumption) | (with_reducible refine Below.new ?_ _) | (with_reducible refine Below.alloc ?_ ?_ _) | (with_reducible refine Below.drew ?_) | (with_reducible refine Below.drewN ?_ _) | (with_reducible refine Below.setCell ?_ ?_ _) | (refine Below.step ?_ (by assumption)) | go_size))⟩
    · rw [e1]
      generalize rollE ⟨D, M, g⟩ T = E2 at *
      have g1 : (E2 == 0) = false := by simpa using e2
      clear e1
      go_wp2_with fail
      go_ret
      exact ⟨rfl, HBE.out⟩
  · generalize rollE ⟨D, M, g⟩ R = E1 at *
    have g1 : (E1 == 0) = false := by simpa using e1
    go_wp2_with fail
    go_ret
    exact ⟨rfl, HBE.out⟩
set_option maxRecDepth 100000 in
theorem RollupCounts_lifted (os : Os) (started : os.Started) (H : Type) (enc : TypeId × Value → H) :
    ReturnsInHanded {} Try.checked os 9 .any (Rows.rollupCountsSpec.pre6 enc Try.prog Try.f9 Rows.rollupCountsRow.domain false) (Rows.rollupCountsSpec.post enc Try.prog Try.f9 false true false false) := by
  refine law_lift started (by kernel_rfl) Try.func9
    (ChangeSpec.witness6 (enc := enc) (C := Try.checked) false ⟨#[], #[.agg #[.slice none 0 0, .slice none 0 0, .int .i64 0], .slice none 0 0, .slice none 0 0], []⟩ 8 (by kernel_rfl) (by kernel_rfl) (by kernel_rfl) (by kernel_rfl)) rfl rfl (by kernel_rfl) ?_ ?_
  · intro ds hl
    match ds, hl with
    | [_, _, _], _ => exact ⟨rfl, rfl, rfl⟩
  · intro W base args ds p hval hA hsz
    rw [Try.params9] at hA hval hsz
    obtain ⟨v0, vs0, d0, ds0, p0, q0, hargs, rfl, rfl, h0, r0⟩ := trodAll_cons hA
    obtain ⟨v1, vs1, d1, ds1, p1, q1, rfl, rfl, rfl, h1, r1⟩ := trodAll_cons r0
    obtain ⟨v2, vs2, d2, ds2, p2, q2, rfl, rfl, rfl, h2, r2⟩ := trodAll_cons r1
    obtain ⟨rfl, rfl, rfl⟩ := trodAll_nil r2
    obtain rfl : args = #[v0, v1, v2] := by cases args; simp_all
    obtain ⟨va0, vb0, x0, y0, z0, rfl, b0, e0, f0, g0, k0⟩ := open_sch (hval 0 24 v0 rfl rfl) h0
    obtain ⟨x1, b1, e1⟩ := open_rowsT Try.underlying38 (hval 1 38 v1 rfl rfl) h1
    obtain ⟨x2, b2, e2⟩ := open_rowsT Try.underlying38 (hval 2 38 v2 rfl rfl) h2
    exact RollupCounts_walk _ _ _ _ _ _ _ _ _ W b0 e0 f0 g0 k0 b1 e1 b2 e2

theorem RollupCounts_over : Rows.rollupCountsRow.holds Try.pinned (OpenSpec.ofChange Rows.rollupCountsSpec) :=
  OpenClaim.holds_of_wide 9 Try.f9 rfl rfl rfl rfl rfl rfl rfl ⟨rfl, rfl, rfl, rfl, rfl⟩ rfl rfl rfl rfl rfl (by kernel_rfl) Try.func9 (by kernel_rfl)
    (of_decide_eq_true (by kernel_rfl)) (by unfold Func.isWrapper; first | (rw [if_pos (by decide +kernel)]; kernel_rfl) | (rw [if_neg (by decide +kernel)]; exact ⟨rfl, rfl⟩))
    (fun os started H enc _ => RollupCounts_lifted os started H enc)

/-- The statement. -/
theorem RollupCounts_proved : Rows.RollupCountsSaid := RollupCounts_over
end Go.Proofs.Ytdgeinipdphoeaa
