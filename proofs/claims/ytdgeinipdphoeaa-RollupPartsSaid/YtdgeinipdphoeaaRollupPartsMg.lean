/- RollupParts holds: in whatever parts rows come, one by one or merged, the cells are the same. No condition. -/
import Derived.Test.YtdgeinipdphoeaaGl
import Derived.Test.YtdgeinipdphoeaaGm
import Derived.Test.YtdgeinipdphoeaaGa
namespace Go.Proofs.Ytdgeinipdphoeaa
set_option linter.unusedVariables false
set_option linter.unusedSimpArgs false
set_option maxRecDepth 100000
open Go.ChangeShapes Go.WideShapes Go.ChangeAt Go.RowKit Go.Joins

set_option maxHeartbeats 4000000 in
theorem RollupParts_walk (vd vm : Value) (ds ms : List ByteArray) (g : Int) (v : Value) (rows : List RowD) (at' : Int) (hat : I64 at') (w : World)
    (hd : StrsSl w vd ds) (hm : StrsSl w vm ms) (td : ∀ s ∈ ds, s.size ≤ 9223372036854775807) (tm : ∀ s ∈ ms, s.size ≤ 9223372036854775807) (hg : I64 g) (hv : RowsSl w v rows) (hf : ∀ r ∈ rows, RowFine r) :
    Calls Try.prog 12 #[.agg #[vd, vm, .int .i64 g], v, .int .i64 at'] w fun e w' => e = .returned (.bool true) ∧ Below w.heap.size w w' := by
  have HCUT := hid (fun W (h : Below w.heap.size w W) => cut_any vd vm ds ms g W (hd.below h) (hm.below h) td tm)
  have HROWS : Hid (∀ W, Below w.heap.size w W → Calls Try.prog 26 #[v, .int .i64 50] W (RowsPost2 w W (rowsCut 50 rows))) := fun W h => lawRows2_any rows 50 v w W h hv (fun r hr => (hf r hr).1) (by decide)
  have HROK := hid (rows_fine (n := 50) hf)
  have HRLN := hid (rows_few 50 rows)
  have HTD := hid (txt_fine ds); have HTM := hid (txt_fine ms)
  obtain ⟨ad, cd, rfl, _, _, _⟩ := SlAt.shape hd
  obtain ⟨am, cm, rfl, _, _, _⟩ := SlAt.shape hm
  obtain ⟨av, cv, rfl, _, _, _⟩ := hv.shape
  clear hd hm td tm hv hf
  generalize ds.length = nd at *
  generalize ms.length = nm at *
  generalize rows.length = nr at *
  obtain ⟨D, hD⟩ : ∃ D, txtCut 30 10 ds = D := ⟨_, rfl⟩
  obtain ⟨M, hM⟩ : ∃ M, txtCut 30 10 ms = M := ⟨_, rfl⟩
  obtain ⟨R, hR⟩ : ∃ R, rowsCut 50 rows = R := ⟨_, rfl⟩
  rw [hD, hM] at HCUT; rw [hD] at HTD; rw [hM] at HTM; rw [hR] at HROWS HROK HRLN
  clear hD hM hR
  go_enter Try.func12, Try.ntmps12
  go_wp2_with (go_at_call 25; ((with_reducible refine (shown12_any _).mono ?_); rintro e w1 ⟨rfl, hb1⟩; have r0 : w1.heap[w.heap.size]? = some (.cells #[.slice ad nd cd, .slice am nm cm, .int .i64 g] 24 (0, 0)) := blk_below (by ((simp (disch := first | omega | (simp only [World.size_alloc, World.size_setCell, World.size_drew]; done) | (simp only [World.size_alloc, World.size_setCell, World.size_drew]; omega)) only [heap_at, heap_past, heap_set_other, heap_set_same]))) hb1; have hB1 : Below w.heap.size w w1 := (by (repeat' (first | (with_reducible exact Below.refl _ _) | (with_reducible assumption) | (with_reducible refine Below.new ?_ _) | (with_reducible refine Below.alloc ?_ ?_ _) | (with_reducible refine Below.drew ?_) | (with_reducible refine Below.drewN ?_ _) | (with_reducible refine Below.setCell ?_ ?_ _) | (refine Below.step ?_ (by assumption)) | go_size))); clear hb1; (obtain ⟨c0, c1, c2, f0, f1, f2⟩ := three_at r0)))
  refine (HCUT.out _ hB1).mono ?_
  rintro e w2 ⟨v1, v2, rfl, ho1, ho2, hb2⟩
  obtain ⟨a1, k1, rfl, _, _, _⟩ := SlAt.shape (SlAt.own ho1)
  obtain ⟨a2, k2, rfl, _, _, _⟩ := SlAt.shape (SlAt.own ho2)
  have HP := hid (pre_sch (g := g) hB1 r0 (Nat.le_refl _) hb2 ho1 ho2)
  have p0 := blk_below r0 hb2
  clear c0 c1 c2 f0 f1 f2 r0 ho1 ho2 hb2 hB1
  obtain ⟨c0, c1, c2, f0, f1, f2⟩ := three_at p0
  clear p0
  go_wp2_with fail
  clear c0 c1 c2 f0 f1 f2
  generalize hW2 : ((w2.setCell ⟨w.heap.size, 0, none⟩ (.slice a1 D.length k1)).setCell ⟨w.heap.size, 1, none⟩ (.slice a2 M.length k2)).setCell ⟨w.heap.size, 2, none⟩ (.int .i64 g) = W2 at *
  obtain ⟨hBW, q0, o1, o2⟩ := HP.out
  clear HP hW2
  refine (HROWS.out _ hBW).mono ?_
  rintro e w3 ⟨v3, ps, rfl, hrs, hps, hb3⟩
  have p0 := blk_below q0 hb3
  have s1 := (StrsSl.own o1).below hb3; have s2 := (StrsSl.own o2).below hb3; have s3 := hrs.is
  rw [hps] at s3
  have hB3 := hBW.step hb3
  have HB3 := hid hB3
  have hs1 := s1; have hs2 := s2; have hs3 := s3
  obtain ⟨vo, vc, rfl, hv1, hv2, _⟩ := s3.shape
  have HRW := hid s3
  have HS := hid (And.intro s1 s2)
  have zA := blk_lt p0
  have HP0 := hid p0
  obtain ⟨N, hN⟩ : ∃ N, R.length = N := ⟨_, rfl⟩
  have HNN := hid hN
  have hN50 : N ≤ 50 := by have := HRLN.out; omega
  have HA := hid (fun W (h : Below w3.heap.size w3 W) => roll_out ⟨D, M, g⟩ R _ _ _ W (s1.below h) (s2.below h) HTD.out HTM.out (s3.below h) HROK.out (by have := HRLN.out; omega))
  rw [hN] at HA
  rw [hN]
  have HB3W := hid hB3
  clear q0 o1 o2 s1 s2 s3 hs1 hs2 hs3 hps hrs hb3 hBW hB3 HROWS HCUT hN
  obtain ⟨c0, c1, c2, _, _, _⟩ := three_at p0
  clear p0
  by_cases he0 : rollE ⟨D, M, g⟩ R = 0
  · obtain ⟨ok1, ok2, ok3⟩ := rollE_ok he0
    have hol := outL_ok he0
    rw [he0, hol] at HA
    have HOK1 := hid ok1; have HOK2 := hid ok2
    have im := ite_min
    have ix := ite_max
    clear he0 hol ok1 ok2 ok3
    go_wp2_with fail
    refine (HA.out _ (Below.refl _ _)).mono ?_
    rintro e w4 ⟨va, rfl, hca, hb4⟩
    obtain ⟨P, hP, hPN⟩ : ∃ P : Nat, max 0 (min at' (N : Int)) = (P : Int) ∧ P ≤ N := ⟨(max 0 (min at' (N : Int))).toNat, by omega, by omega⟩
    have hPi : (P : Int) ≤ (N : Int) := by omega
    have hP0 : (0 : Int) ≤ (P : Int) := Int.natCast_nonneg _
    clear c0 c1 c2
    obtain ⟨c0, c1, c2, _, _, _⟩ := three_at (blk_below HP0.out hb4)
    have HALL := hid hca; have HB4 := hid hb4
    clear hca hb4
    have hNv : N ≤ vc := by have := HNN.out; omega
    have hPv : P ≤ vc := by omega
    have hPvi : (P : Int) ≤ (vc : Int) := by omega
    obtain ⟨XS, hXS⟩ : ∃ XS, (if vc = P then vo else Option.map (fun x => x.add (P * 3)) vo) = XS := ⟨_, rfl⟩
    -- the parts
    have hft : ∀ r ∈ R.take P, fitsR ⟨D, M, g⟩ r = true := fun r hr => HOK2.out r (List.mem_of_mem_take hr)
    have hfd : ∀ r ∈ R.drop P, fitsR ⟨D, M, g⟩ r = true := fun r hr => HOK2.out r (List.mem_of_mem_drop hr)
    have hkt : RowsOk (R.take P) := fun r hr => HROK.out r (List.mem_of_mem_take hr)
    have hkd : RowsOk (R.drop P) := fun r hr => HROK.out r (List.mem_of_mem_drop hr)
    have hlt' : (R.take P).length = P := by simp; have := HNN.out; omega
    have hld' : (R.drop P).length = N - P := by simp; have := HNN.out; omega
    have et := rollE_few HOK1.out hft (by omega)
    have ed := rollE_few HOK1.out hfd (by omega)
    have hrt : RowsSl w3 (.slice vo P vc) (R.take P) := ElemsSl.take HRW.out (by have := HNN.out; omega)
    have hrd : RowsSl w3 (.slice XS (N - P) (vc - P)) (R.drop P) := by
      have := ElemsSl.from (k := P) HRW.out (by have := HNN.out; omega)
      rw [hXS, HNN.out] at this
      exact this
    have HT := hid (fun W (h : Below w3.heap.size w3 W) => by
      have := roll_out ⟨D, M, g⟩ (R.take P) _ _ (.slice vo P vc) W (HS.out.1.below h) (HS.out.2.below h) HTD.out HTM.out (hrt.below h) hkt (by omega)
      rw [et, outL_ok et] at this
      exact this)
    have HDR := hid (fun W (h : Below w3.heap.size w3 W) => by
      have := roll_out ⟨D, M, g⟩ (R.drop P) _ _ (.slice XS (N - P) (vc - P)) W (HS.out.1.below h) (HS.out.2.below h) HTD.out HTM.out (hrd.below h) hkd (by omega)
      rw [ed, outL_ok ed] at this
      exact this)
    obtain ⟨m1, m2⟩ := mergeE_parts HOK1.out hft hfd hkt hkd (by omega)
    obtain ⟨m3, m4⟩ := mergeE_parts HOK1.out hfd hft hkd hkt (by omega)
    rw [rollL_comm hft hfd] at m4
    rw [List.take_append_drop] at m2 m4
    have tt : ∀ c ∈ rollL ⟨D, M, g⟩ (R.take P), CellTame c := fun c hc => (rollL_good hft hkt c hc).tame
    have tdr : ∀ c ∈ rollL ⟨D, M, g⟩ (R.drop P), CellTame c := fun c hc => (rollL_good hfd hkd c hc).tame
    have HMA := hid (fun W x y (h : Below w3.heap.size w3 W) (hx : CellsSl W x (rollL ⟨D, M, g⟩ (R.take P))) (hy : CellsSl W y (rollL ⟨D, M, g⟩ (R.drop P))) => by
      have := merge_out ⟨D, M, g⟩ _ _ _ _ x y W (HS.out.1.below h) (HS.out.2.below h) HTD.out HTM.out hx hy tt tdr
      rw [m1, m2] at this
      exact this)
    have HMB := hid (fun W x y (h : Below w3.heap.size w3 W) (hx : CellsSl W x (rollL ⟨D, M, g⟩ (R.drop P))) (hy : CellsSl W y (rollL ⟨D, M, g⟩ (R.take P))) => by
      have := merge_out ⟨D, M, g⟩ _ _ _ _ x y W (HS.out.1.below h) (HS.out.2.below h) HTD.out HTM.out hx hy tdr tt
      rw [m3, m4] at this
      exact this)
    have HFL := hid ((rollL_rolled HOK2.out).few (by have := okSch_four HOK1.out; omega))
    have HXS := hid hXS
    clear hft hfd hkt hkd hlt' hld' et ed hrt hrd m1 m2 m3 m4 tt tdr hXS
    go_wp2_with fail
    have hS0 : (fun w' : World => w'.cell? ⟨w.heap.size, 0, none⟩ = some (.slice a1 D.length k1) ∧ w'.cell? ⟨w.heap.size, 1, none⟩ = some (.slice a2 M.length k2) ∧ w'.cell? ⟨w.heap.size, 2, none⟩ = some (.int .i64 g)) w4.drew := ⟨c0, c1, c2⟩
    refine wp_region_some (fun w' : World => w'.cell? ⟨w.heap.size, 0, none⟩ = some (.slice a1 D.length k1) ∧ w'.cell? ⟨w.heap.size, 1, none⟩ = some (.slice a2 M.length k2) ∧ w'.cell? ⟨w.heap.size, 2, none⟩ = some (.int .i64 g)) [5, 6, 7, 8, 9] (by kernel_rfl) ?_
    (refine wpMix_take (i := 0) (v := ?_) rfl (by kernel_rfl) (fun _ _ _ h => h) (Or.inl ⟨by rfl, ?_⟩) hS0 ?_; rotate_left 1; (focus (intro w hSw; (try dsimp only at hSw); go_simp; try (with_reducible rfl))); (try simp only [Act.put, List.setIfInBounds_toArray, List.set_cons_zero, List.set_cons_succ]))
    (refine wpMix_take (i := 1) (v := ?_) rfl (by kernel_rfl) (fun _ _ _ h => h) (Or.inl ⟨by rfl, ?_⟩) hS0 ?_; rotate_left 1; (focus (intro w hSw; (try dsimp only at hSw); go_simp; try (with_reducible rfl))); (try simp only [Act.put, List.setIfInBounds_toArray, List.set_cons_zero, List.set_cons_succ]))
    (refine wpMix_take (i := 2) (v := ?_) rfl (by kernel_rfl) (fun _ _ _ h => h) (Or.inl ⟨by rfl, ?_⟩) hS0 ?_; rotate_left 1; (focus (intro w hSw; (try dsimp only at hSw); go_simp; try (with_reducible rfl))); (try simp only [Act.put, List.setIfInBounds_toArray, List.set_cons_zero, List.set_cons_succ]))
    (refine wpMix_take (i := 3) (v := ?_) rfl (by kernel_rfl) (fun _ _ _ h => h) (Or.inl ⟨by rfl, ?_⟩) hS0 ?_; rotate_left 1; (focus (intro w hSw; (try dsimp only at hSw); go_simp; try (with_reducible rfl))); (try simp only [Act.put, List.setIfInBounds_toArray, List.set_cons_zero, List.set_cons_succ]))
    refine wpMix_next (t := 4) (by kernel_rfl) ?_
    simp only [opsAt, List.flatMap_cons, List.flatMap_nil, List.take_succ_cons, List.take_zero, List.drop_succ_cons, List.drop_zero, List.append_nil, List.cons_append, List.nil_append]
    go_wp2_with (go_at_call 27; go_loud ((with_reducible refine (HT.out _ HB4.out.drew).mono ?_); rintro e w5 ⟨vb, rfl, hcb, hb5⟩))
    have hb45 : Below w4.heap.size w4 w5 := (Below.drew (Below.refl _ _)).trans hb5
    refine ⟨⟨cell_step c0 hb45, cell_step c1 hb45, cell_step c2 hb45⟩, ?_⟩
    have HCB := hid hcb; have HB5 := hid (HB4.out.step hb45); have HALL5 := hid (HALL.out.below hb45)
    clear hb5 hb45 hcb hS0 c0 c1 c2
    (refine wpMix_free (i := 5) (v := ?_) rfl (by kernel_rfl) (fun _ _ _ h => h) (Or.inl ⟨by rfl, ?_⟩) ?_; rotate_left 1; (focus (intro w hSw; go_simp; try (with_reducible rfl))); (try simp only [Act.put, List.setIfInBounds_toArray, List.set_cons_zero, List.set_cons_succ]))
    (refine wpMix_free (i := 6) (v := ?_) rfl (by kernel_rfl) (fun _ _ _ h => h) (Or.inl ⟨by rfl, ?_⟩) ?_; rotate_left 1; (focus (intro w hSw; go_simp; try (with_reducible rfl))); (try simp only [Act.put, List.setIfInBounds_toArray, List.set_cons_zero, List.set_cons_succ]))
    (refine wpMix_free (i := 7) (v := ?_) rfl (by kernel_rfl) (fun _ _ _ h => h) (Or.inl ⟨by rfl, ?_⟩) ?_; rotate_left 1; (focus (intro w hSw; go_simp; try (with_reducible rfl))); (try simp only [Act.put, List.setIfInBounds_toArray, List.set_cons_zero, List.set_cons_succ]))
    refine wpMix_rest [8, 9] (by kernel_rfl) ?_
    simp only [opsAt, List.flatMap_cons, List.flatMap_nil, List.take_succ_cons, List.take_zero, List.drop_succ_cons, List.drop_zero, List.append_nil, List.cons_append, List.nil_append]
    obtain ⟨c0, c1, c2, _, _, _⟩ := three_at (blk_below HP0.out HB5.out)
    go_wp2_with fail
    have hXS := HXS.out
    have hS0 : (fun w' : World => w'.cell? ⟨w.heap.size, 0, none⟩ = some (.slice a1 D.length k1) ∧ w'.cell? ⟨w.heap.size, 1, none⟩ = some (.slice a2 M.length k2) ∧ w'.cell? ⟨w.heap.size, 2, none⟩ = some (.int .i64 g)) w5.drew := ⟨c0, c1, c2⟩
    refine wp_region_some (fun w' : World => w'.cell? ⟨w.heap.size, 0, none⟩ = some (.slice a1 D.length k1) ∧ w'.cell? ⟨w.heap.size, 1, none⟩ = some (.slice a2 M.length k2) ∧ w'.cell? ⟨w.heap.size, 2, none⟩ = some (.int .i64 g)) [5, 6, 7, 8, 9] (by kernel_rfl) ?_
    (refine wpMix_take (i := 0) (v := ?_) rfl (by kernel_rfl) (fun _ _ _ h => h) (Or.inl ⟨by rfl, ?_⟩) hS0 ?_; rotate_left 1; (focus (intro w hSw; (try dsimp only at hSw); go_simp; try (with_reducible rfl))); (try simp only [Act.put, List.setIfInBounds_toArray, List.set_cons_zero, List.set_cons_succ]))
    (refine wpMix_take (i := 1) (v := ?_) rfl (by kernel_rfl) (fun _ _ _ h => h) (Or.inl ⟨by rfl, ?_⟩) hS0 ?_; rotate_left 1; (focus (intro w hSw; (try dsimp only at hSw); go_simp; try (with_reducible rfl))); (try simp only [Act.put, List.setIfInBounds_toArray, List.set_cons_zero, List.set_cons_succ]))
    (refine wpMix_take (i := 2) (v := ?_) rfl (by kernel_rfl) (fun _ _ _ h => h) (Or.inl ⟨by rfl, ?_⟩) hS0 ?_; rotate_left 1; (focus (intro w hSw; (try dsimp only at hSw); go_simp; try (with_reducible rfl))); (try simp only [Act.put, List.setIfInBounds_toArray, List.set_cons_zero, List.set_cons_succ]))
    (refine wpMix_take (i := 3) (v := ?_) rfl (by kernel_rfl) (fun _ _ _ h => h) (Or.inl ⟨by rfl, ?_⟩) hS0 ?_; rotate_left 1; (focus (intro w hSw; (try dsimp only at hSw); go_simp; try (with_reducible rfl))); (try simp only [Act.put, List.setIfInBounds_toArray, List.set_cons_zero, List.set_cons_succ]))
    clear hXS
    refine wpMix_next (t := 4) (by kernel_rfl) ?_
    simp only [opsAt, List.flatMap_cons, List.flatMap_nil, List.take_succ_cons, List.take_zero, List.drop_succ_cons, List.drop_zero, List.append_nil, List.cons_append, List.nil_append]
    go_wp2_with (go_at_call 27; go_loud ((with_reducible refine (HDR.out _ HB5.out.drew).mono ?_); rintro e w6 ⟨vd', rfl, hcd, hb6⟩))
    have hb56 : Below w5.heap.size w5 w6 := (Below.drew (Below.refl _ _)).trans hb6
    refine ⟨⟨cell_step c0 hb56, cell_step c1 hb56, cell_step c2 hb56⟩, ?_⟩
    have HCB6 := hid (HCB.out.below hb56)
    have HCD := hid hcd; have HB6 := hid (HB5.out.step hb56)
    have HALL6 := hid (HALL5.out.below hb56)
    clear hb6 hb56 hcd hS0 c0 c1 c2
    (refine wpMix_free (i := 5) (v := ?_) rfl (by kernel_rfl) (fun _ _ _ h => h) (Or.inl ⟨by rfl, ?_⟩) ?_; rotate_left 1; (focus (intro w hSw; go_simp; try (with_reducible rfl))); (try simp only [Act.put, List.setIfInBounds_toArray, List.set_cons_zero, List.set_cons_succ]))
    (refine wpMix_free (i := 6) (v := ?_) rfl (by kernel_rfl) (fun _ _ _ h => h) (Or.inl ⟨by rfl, ?_⟩) ?_; rotate_left 1; (focus (intro w hSw; go_simp; try (with_reducible rfl))); (try simp only [Act.put, List.setIfInBounds_toArray, List.set_cons_zero, List.set_cons_succ]))
    (refine wpMix_free (i := 7) (v := ?_) rfl (by kernel_rfl) (fun _ _ _ h => h) (Or.inl ⟨by rfl, ?_⟩) ?_; rotate_left 1; (focus (intro w hSw; go_simp; try (with_reducible rfl))); (try simp only [Act.put, List.setIfInBounds_toArray, List.set_cons_zero, List.set_cons_succ]))
    refine wpMix_rest [8, 9] (by kernel_rfl) ?_
    simp only [opsAt, List.flatMap_cons, List.flatMap_nil, List.take_succ_cons, List.take_zero, List.drop_succ_cons, List.drop_zero, List.append_nil, List.cons_append, List.nil_append]
    obtain ⟨c0, c1, c2, _, _, _⟩ := three_at (blk_below HP0.out HB6.out)
    go_wp2_with fail
    refine (HMA.out _ _ _ HB6.out HCB6.out HCD.out).mono ?_
    rintro e w7 ⟨vm', rfl, hcm, hb7⟩
    have HB7 := hid (HB6.out.step hb7)
    clear c0 c1 c2
    obtain ⟨c0, c1, c2, _, _, _⟩ := three_at (blk_below HP0.out HB7.out)
    go_wp2_with fail
    refine (HMB.out _ _ _ HB7.out (HCD.out.below hb7) (HCB6.out.below hb7)).mono ?_
    rintro e w8 ⟨vk', rfl, hck, hb8⟩
    have HB8 := hid (HB7.out.step hb8)
    have hb68 := hb7.step hb8
    have HALL8 := hid (HALL6.out.below hb68)
    have HCM := hid (hcm.below hb8); have HCK := hid hck
    have HS1 := hid (fun W (h : Below w8.heap.size w8 W) => refSameC_any _ _ _ _ W (HCM.out.below h) (HALL8.out.below h) HFL.out HFL.out)
    have HS2 := hid (fun W (h : Below w8.heap.size w8 W) => refSameC_any _ _ _ _ W (HCK.out.below h) (HALL8.out.below h) HFL.out HFL.out)
    simp only [sameCs_refl] at HS1 HS2
    clear c0 c1 c2 hcm hck hb7 hb8 hb68 HT HDR HMA HMB HA HXS HCB HCB6 HCD
    go_wp2_with (go_at_call 31; first
      | ((with_reducible refine (HS1.out _ (by (repeat' (first | (with_reducible exact Below.refl _ _) | (with_reducible assumption) | (with_reducible refine Below.new ?_ _) | (with_reducible refine Below.alloc ?_ ?_ _) | (with_reducible refine Below.drew ?_) | (with_reducible refine Below.drewN ?_ _) | (with_reducible refine Below.setCell ?_ ?_ _) | (refine Below.step ?_ (by assumption)) | go_size)))).mono ?_); rintro e x1 ⟨rfl, hx1⟩)
      | ((with_reducible refine (HS2.out _ (by (repeat' (first | (with_reducible exact Below.refl _ _) | (with_reducible assumption) | (with_reducible refine Below.new ?_ _) | (with_reducible refine Below.alloc ?_ ?_ _) | (with_reducible refine Below.drew ?_) | (with_reducible refine Below.drewN ?_ _) | (with_reducible refine Below.setCell ?_ ?_ _) | (refine Below.step ?_ (by assumption)) | go_size)))).mono ?_); rintro e x2 ⟨rfl, hx2⟩))
    have hx8 : Below w8.heap.size w8 x2 := by (repeat' (first | (with_reducible exact Below.refl _ _) | (with_reducible assumption) | (with_reducible refine Below.new ?_ _) | (with_reducible refine Below.alloc ?_ ?_ _) | (with_reducible refine Below.drew ?_) | (with_reducible refine Below.drewN ?_ _) | (with_reducible refine Below.setCell ?_ ?_ _) | (refine Below.step ?_ (by assumption)) | go_size))
    have HALLX := hid (HALL8.out.below hx8)
    have HBX := hid (HB8.out.step hx8)
    clear hx1 hx2 hx8 HS1 HS2
    go_loopw [18, 19] (fun o j wr => ∃ k : Nat, k ≤ N ∧ j = .int .i64 (k : Nat) ∧ CellsSl wr o (rollL ⟨D, M, g⟩ (R.take k)) ∧ CellsSl wr va (rollL ⟨D, M, g⟩ R) ∧ Below w3.heap.size w3 wr) (fun _ j _ => N - (intOf j).toNat)
    case atStart => exact ⟨0, Nat.zero_le _, rfl, ElemsSl.nil _, HALLX.out, HBX.out⟩
    case round =>
      obtain ⟨k, hk, rfl, hone, hall, hbel⟩ := hrel
      have hk0 : (0 : Int) ≤ (k : Int) := Int.natCast_nonneg _
      have hk50 : (k : Int) ≤ 50 := by omega
      have HON := hid hone; have HALLW := hid hall; have HBL := hid hbel
      clear hone hall HALLX HBX
      by_cases hlt : k < N
      · have hlr : k < R.length := by rw [HNN.out]; exact hlt
        have hltI : (k : Int) < (N : Int) := by omega
        have hrw := HRW.out
        obtain ⟨b, off, vl, vn, rfl, g1, g2, e0, e1, e2⟩ := hrw.at hlr
        replace e0 := cell_step e0 hbel; replace e1 := cell_step e1 hbel; replace e2 := cell_step e2 hbel
        have HTS : Hid (R.take (k + 1) = R.take k ++ [R[k]]) := List.take_succ_eq_append_getElem hlr
        have hfk : ∀ r ∈ R.take k, fitsR ⟨D, M, g⟩ r = true := fun r hr => HOK2.out r (List.mem_of_mem_take hr)
        have hkk : RowsOk (R.take k) := fun r hr => HROK.out r (List.mem_of_mem_take hr)
        have hlk : (R.take k).length = k := by simp; omega
        obtain ⟨q1, q2⟩ := addE_parts HOK1.out hfk (HOK2.out R[k] (List.getElem_mem hlr)) hkk (by omega)
        rw [← HTS.out] at q2
        have tk : ∀ c ∈ rollL ⟨D, M, g⟩ (R.take k), CellTame c := fun c hc => (rollL_good hfk hkk c hc).tame
        have hrk := HROK.out R[k] (List.getElem_mem hlr)
        have HAD := hid (fun W x (h : Below w3.heap.size w3 W) (hx : CellsSl W x (rollL ⟨D, M, g⟩ (R.take k))) => by
          have := add_out ⟨D, M, g⟩ (rollL ⟨D, M, g⟩ (R.take k)) R[k] _ _ x vl vn W (HS.out.1.below h) (HS.out.2.below h) HTD.out HTM.out hx tk (g1.below h) hrk.1 (g2.below h) hrk.2
          rw [q1, q2] at this
          exact this)
        obtain ⟨l1, l2, rfl, _⟩ := SlAt.shape g1
        obtain ⟨n1, n2, rfl, _⟩ := SlAt.shape g2
        obtain ⟨c0, c1, c2, _, _, _⟩ := three_at (blk_below HP0.out hbel)
        clear hrw g1 g2 hfk hkk hlk q1 q2 tk hrk hbel
        generalize R[k] = r at *
        go_wp2_with fail
        have hS0 : (fun w' : World => w'.cell? ⟨w.heap.size, 0, none⟩ = some (.slice a1 D.length k1) ∧ w'.cell? ⟨w.heap.size, 1, none⟩ = some (.slice a2 M.length k2) ∧ w'.cell? ⟨w.heap.size, 2, none⟩ = some (.int .i64 g) ∧ w'.cell? ⟨b, off + k * 3, none⟩ = some (.int .i64 r.t) ∧ w'.cell? ⟨b, off + k * 3 + 1, none⟩ = some (.slice l1 r.l.length l2) ∧ w'.cell? ⟨b, off + k * 3 + 2, none⟩ = some (.slice n1 r.xs.length n2)) wr.drew := ⟨c0, c1, c2, e0, e1, e2⟩
        refine wp_region_some (fun w' : World => w'.cell? ⟨w.heap.size, 0, none⟩ = some (.slice a1 D.length k1) ∧ w'.cell? ⟨w.heap.size, 1, none⟩ = some (.slice a2 M.length k2) ∧ w'.cell? ⟨w.heap.size, 2, none⟩ = some (.int .i64 g) ∧ w'.cell? ⟨b, off + k * 3, none⟩ = some (.int .i64 r.t) ∧ w'.cell? ⟨b, off + k * 3 + 1, none⟩ = some (.slice l1 r.l.length l2) ∧ w'.cell? ⟨b, off + k * 3 + 2, none⟩ = some (.slice n1 r.xs.length n2)) [7, 8, 9, 10, 11] (by kernel_rfl) ?_
        (refine wpMix_take (i := 0) (v := ?_) rfl (by kernel_rfl) (fun _ _ _ h => h) (Or.inl ⟨by rfl, ?_⟩) hS0 ?_; rotate_left 1; (focus (intro w hSw; (try dsimp only at hSw); go_simp; try (with_reducible rfl))); (try simp only [Act.put, List.setIfInBounds_toArray, List.set_cons_zero, List.set_cons_succ]))
        (refine wpMix_take (i := 1) (v := ?_) rfl (by kernel_rfl) (fun _ _ _ h => h) (Or.inl ⟨by rfl, ?_⟩) hS0 ?_; rotate_left 1; (focus (intro w hSw; (try dsimp only at hSw); go_simp; try (with_reducible rfl))); (try simp only [Act.put, List.setIfInBounds_toArray, List.set_cons_zero, List.set_cons_succ]))
        (refine wpMix_take (i := 2) (v := ?_) rfl (by kernel_rfl) (fun _ _ _ h => h) (Or.inl ⟨by rfl, ?_⟩) hS0 ?_; rotate_left 1; (focus (intro w hSw; (try dsimp only at hSw); go_simp; try (with_reducible rfl))); (try simp only [Act.put, List.setIfInBounds_toArray, List.set_cons_zero, List.set_cons_succ]))
        (refine wpMix_take (i := 3) (v := ?_) rfl (by kernel_rfl) (fun _ _ _ h => h) (Or.inl ⟨by rfl, ?_⟩) hS0 ?_; rotate_left 1; (focus (intro w hSw; (try dsimp only at hSw); go_simp; try (with_reducible rfl))); (try simp only [Act.put, List.setIfInBounds_toArray, List.set_cons_zero, List.set_cons_succ]))
        (refine wpMix_take (i := 4) (v := ?_) rfl (by kernel_rfl) (fun _ _ _ h => h) (Or.inl ⟨by rfl, ?_⟩) hS0 ?_; rotate_left 1; (focus (intro w hSw; (try dsimp only at hSw); go_simp; try (with_reducible rfl))); (try simp only [Act.put, List.setIfInBounds_toArray, List.set_cons_zero, List.set_cons_succ]))
        (refine wpMix_take (i := 5) (v := ?_) rfl (by kernel_rfl) (fun _ _ _ h => h) (Or.inl ⟨by rfl, ?_⟩) hS0 ?_; rotate_left 1; (focus (intro w hSw; (try dsimp only at hSw); go_simp; try (with_reducible rfl))); (try simp only [Act.put, List.setIfInBounds_toArray, List.set_cons_zero, List.set_cons_succ]))
        refine wpMix_next (t := 6) (by kernel_rfl) ?_
        simp only [opsAt, List.flatMap_cons, List.flatMap_nil, List.take_succ_cons, List.take_zero, List.drop_succ_cons, List.drop_zero, List.append_nil, List.cons_append, List.nil_append]
        go_wp2_with (go_at_call 38; go_loud ((with_reducible refine (HAD.out _ _ HBL.out.drew (HON.out.below (Below.drew (Below.refl _ _)))).mono ?_); rintro e y1 ⟨vo', rfl, hco, hy1⟩))
        have hy : Below wr.heap.size wr y1 := (Below.drew (Below.refl _ _)).trans hy1
        refine ⟨⟨cell_step c0 hy, cell_step c1 hy, cell_step c2 hy, cell_step e0 hy, cell_step e1 hy, cell_step e2 hy⟩, ?_⟩
        have HR := hid (And.intro hco (And.intro (HALLW.out.below hy) (HBL.out.step hy)))
        clear hS0 hco hy hy1 c0 c1 c2 e0 e1 e2
        (refine wpMix_free (i := 7) (v := ?_) rfl (by kernel_rfl) (fun _ _ _ h => h) (Or.inl ⟨by rfl, ?_⟩) ?_; rotate_left 1; (focus (intro w hSw; go_simp; try (with_reducible rfl))); (try simp only [Act.put, List.setIfInBounds_toArray, List.set_cons_zero, List.set_cons_succ]))
        (refine wpMix_free (i := 8) (v := ?_) rfl (by kernel_rfl) (fun _ _ _ h => h) (Or.inl ⟨by rfl, ?_⟩) ?_; rotate_left 1; (focus (intro w hSw; go_simp; try (with_reducible rfl))); (try simp only [Act.put, List.setIfInBounds_toArray, List.set_cons_zero, List.set_cons_succ]))
        (refine wpMix_free (i := 9) (v := ?_) rfl (by kernel_rfl) (fun _ _ _ h => h) (Or.inl ⟨by rfl, ?_⟩) ?_; rotate_left 1; (focus (intro w hSw; go_simp; try (with_reducible rfl))); (try simp only [Act.put, List.setIfInBounds_toArray, List.set_cons_zero, List.set_cons_succ]))
        refine wpMix_rest [10, 11] (by kernel_rfl) ?_
        simp only [opsAt, List.flatMap_cons, List.flatMap_nil, List.take_succ_cons, List.take_zero, List.drop_succ_cons, List.drop_zero, List.append_nil, List.cons_append, List.nil_append]
        go_wp2_with fail
        go_roundw
        case rel => exact ⟨k + 1, hlt, by go_num, HR.out.1, HR.out.2.1, HR.out.2.2⟩
        case measure => simp [intOf]; omega
      · obtain rfl : k = N := by omega
        have htk : R.take k = R := List.take_of_length_le (by rw [HNN.out]; exact Nat.le_refl _)
        have hon := HON.out
        rw [htk] at hon
        have HS1 := hid (fun W (h : Below wr.heap.size wr W) => refSameC_any _ _ _ _ W (hon.below h) (HALLW.out.below h) HFL.out HFL.out)
        simp only [sameCs_refl] at HS1
        clear htk hon hbel
        go_wp2_with (go_at_call 31; go_loud ((with_reducible refine (HS1.out _ (by (repeat' (first | (with_reducible exact Below.refl _ _) | (with_reducible assumption) | (with_reducible refine Below.new ?_ _) | (with_reducible refine Below.alloc ?_ ?_ _) | (with_reducible refine Below.drew ?_) | (with_reducible refine Below.drewN ?_ _) | (with_reducible refine Below.setCell ?_ ?_ _) | (refine Below.step ?_ (by assumption)) | go_size)))).mono ?_); rintro e z1 ⟨rfl, hz1⟩))
        go_ret
        exact ⟨rfl, (HB3W.out.step HBL.out).step hz1⟩
  · have HB3 := HB3W
    generalize rollE ⟨D, M, g⟩ R = E1 at *
    have g1 : (E1 == 0) = false := by simpa using he0
    go_wp2_with (go_at_call 27; go_loud ((with_reducible refine (HA.out _ (by (repeat' (first | (with_reducible exact Below.refl _ _) | (with_reducible assumption) | (with_reducible refine Below.new ?_ _) | (with_reducible refine Below.alloc ?_ ?_ _) | (with_reducible refine Below.drew ?_) | (with_reducible refine Below.drewN ?_ _) | (with_reducible refine Below.setCell ?_ ?_ _) | (refine Below.step ?_ (by assumption)) | go_size)))).mono ?_); rintro e w4 ⟨va, rfl, hca, hb4⟩; have HB4 := hid hb4; clear hb4 hca))
    go_ret
    exact ⟨rfl, HB3.out.step HB4.out⟩
set_option maxRecDepth 100000 in
theorem RollupParts_lifted (os : Os) (started : os.Started) (H : Type) (enc : TypeId × Value → H) :
    ReturnsInHanded {} Try.checked os 12 .any (Rows.rollupPartsSpec.pre6 enc Try.prog Try.f12 Rows.rollupPartsRow.domain false) (Rows.rollupPartsSpec.post enc Try.prog Try.f12 false true false false) := by
  refine law_lift started (by kernel_rfl) Try.func12
    (ChangeSpec.witness6 (enc := enc) (C := Try.checked) false ⟨#[], #[.agg #[.slice none 0 0, .slice none 0 0, .int .i64 0], .slice none 0 0, .int .i64 0], []⟩ 8 (by kernel_rfl) (by kernel_rfl) (by kernel_rfl) (by kernel_rfl)) rfl rfl (by kernel_rfl) ?_ ?_
  · intro ds hl
    match ds, hl with
    | [_, _, _], _ => exact ⟨rfl, rfl, rfl⟩
  · intro W base args ds p hval hA hsz
    rw [Try.params12] at hA hval hsz
    obtain ⟨v0, vs0, d0, ds0, p0, q0, hargs, rfl, rfl, h0, r0⟩ := trodAll_cons hA
    obtain ⟨v1, vs1, d1, ds1, p1, q1, rfl, rfl, rfl, h1, r1⟩ := trodAll_cons r0
    obtain ⟨v2, vs2, d2, ds2, p2, q2, rfl, rfl, rfl, h2, r2⟩ := trodAll_cons r1
    obtain ⟨rfl, rfl, rfl⟩ := trodAll_nil r2
    obtain rfl : args = #[v0, v1, v2] := by cases args; simp_all
    obtain ⟨va0, vb0, x0, y0, z0, rfl, b0, e0, f0, g0, k0⟩ := open_sch (hval 0 24 v0 rfl rfl) h0
    obtain ⟨x1, b1, e1⟩ := open_rowsT Try.underlying38 (hval 1 38 v1 rfl rfl) h1
    obtain ⟨a2, rfl, b2⟩ := open_i64 Try.underlying3 (hval 2 3 v2 rfl rfl) h2
    exact RollupParts_walk _ _ _ _ _ _ _ a2 b2 W b0 e0 f0 g0 k0 b1 e1

theorem RollupParts_over : Rows.rollupPartsRow.holds Try.pinned (OpenSpec.ofChange Rows.rollupPartsSpec) :=
  OpenClaim.holds_of_wide 12 Try.f12 rfl rfl rfl rfl rfl rfl rfl ⟨rfl, rfl, rfl, rfl, rfl⟩ rfl rfl rfl rfl rfl (by kernel_rfl) Try.func12 (by kernel_rfl)
    (of_decide_eq_true (by kernel_rfl)) (by unfold Func.isWrapper; first | (rw [if_pos (by decide +kernel)]; kernel_rfl) | (rw [if_neg (by decide +kernel)]; exact ⟨rfl, rfl⟩))
    (fun os started H enc _ => RollupParts_lifted os started H enc)

/-- The statement. -/
theorem RollupParts_proved : Rows.RollupPartsSaid := RollupParts_over
end Go.Proofs.Ytdgeinipdphoeaa
