/- Texts joined: RolH, RolQ, RolR, RolS, RolT, RolV, RolW. -/
import Derived.Test.YtdgeinipdphoeaaGe
import Derived.Test.YtdgeinipdphoeaaGa
import Derived.Test.YtdgeinipdphoeaaGd
import Derived.Test.YtdgeinipdphoeaaGb
/- Rollup: a cell that shares no list: 'own'. -/
namespace Go.Proofs.Ytdgeinipdphoeaa
set_option linter.unusedVariables false
set_option linter.unusedSimpArgs false
set_option maxRecDepth 100000
open Go.ChangeShapes Go.WideShapes Go.ChangeAt Go.RowKit

set_option maxHeartbeats 4000000 in
theorem own_any (c : CellD) (vl vs vm vx : Value) (w : World) (hl : ValsSl w vl c.l) (hs : WidesSl w vs c.sums) (hm : IntsSl w vm c.mins) (hx : IntsSl w vx c.maxs) (b1 : c.l.length ≤ 1000000) (b2 : c.sums.length ≤ 1000000) (b3 : c.mins.length ≤ 1000000) (b4 : c.maxs.length ≤ 1000000) :
    Calls Try.prog 61 #[.agg #[.int .i64 c.t, vl, .int .i64 c.n, vs, vm, vx]] w fun e w' => ∃ ul us um ux, e = .returned (.agg #[.int .i64 c.t, ul, .int .i64 c.n, us, um, ux]) ∧
      w'.ownsRow w.heap.size 54 2 ul c.l.length (c.l.flatMap ValD.cells) ∧ w'.ownsRow w.heap.size 58 2 us c.sums.length (c.sums.flatMap wcells) ∧ w'.ownsRow w.heap.size 2 1 um c.mins.length (c.mins.map (.int .i64)) ∧ w'.ownsRow w.heap.size 2 1 ux c.maxs.length (c.maxs.map (.int .i64)) ∧ Below w.heap.size w w' ∧ ∀ g, um.ownBlock = some g → ¬ ux.ownBlock = some g := by
  have HL := hid (fun W (h : Below w.heap.size w W) => cloneV_any vl _ _ W (SlAt.below hl h) b1 (vals_one _))
  have HS := hid (fun W (h : Below w.heap.size w W) => cloneW_any vs _ _ W (SlAt.below hs h) b2 (wides_one _))
  have HM := hid (fun W (h : Below w.heap.size w W) => cloneI_any vm _ _ W (SlAt.below hm h) b3 (fun u hu => by obtain ⟨x, _, rfl⟩ := List.mem_map.1 hu; rfl))
  have HX := hid (fun W (h : Below w.heap.size w W) => cloneI_any vx _ _ W (SlAt.below hx h) b4 (fun u hu => by obtain ⟨x, _, rfl⟩ := List.mem_map.1 hu; rfl))
  obtain ⟨al, cl, rfl, _⟩ := SlAt.shape hl
  obtain ⟨as', cs, rfl, _⟩ := SlAt.shape hs
  obtain ⟨am, cm, rfl, _⟩ := SlAt.shape hm
  obtain ⟨ax, cx, rfl, _⟩ := SlAt.shape hx
  clear hl hs hm hx
  generalize c.l.flatMap ValD.cells = XL at *
  generalize c.sums.flatMap wcells = XS at *
  generalize c.mins.map (Value.int .i64) = XM at *
  generalize c.maxs.map (Value.int .i64) = XX at *
  generalize c.l.length = nl at *
  generalize c.sums.length = ns at *
  generalize c.mins.length = nm at *
  generalize c.maxs.length = nx at *
  generalize c.t = t at *
  generalize c.n = n at *
  go_enter Try.func61, Try.ntmps61
  go_wp2
  have hB0 : Below w.heap.size w (((w.alloc (.cells #[.int .i64 t, .slice al nl cl, .int .i64 n, .slice as' ns cs, .slice am nm cm, .slice ax nx cx] 87)).alloc (.cells #[.int .i64 0, .slice none 0 0, .int .i64 0, .slice none 0 0, .slice none 0 0, .slice none 0 0] 46)).alloc (.cells #[.int .i64 t, .slice al nl cl, .int .i64 n, .slice as' ns cs, .slice am nm cm, .slice ax nx cx] 46)) := by (repeat' (first | (with_reducible exact Below.refl _ _) | (with_reducible assumption) | (with_reducible refine Below.new ?_ _) | (with_reducible refine Below.alloc ?_ ?_ _) | (with_reducible refine Below.drew ?_) | (with_reducible refine Below.drewN ?_ _) | (with_reducible refine Below.setCell ?_ ?_ _) | (refine Below.step ?_ (by assumption)) | go_size))
  obtain ⟨W0, hW0⟩ : ∃ W0, ((w.alloc (.cells #[.int .i64 t, .slice al nl cl, .int .i64 n, .slice as' ns cs, .slice am nm cm, .slice ax nx cx] 87)).alloc (.cells #[.int .i64 0, .slice none 0 0, .int .i64 0, .slice none 0 0, .slice none 0 0, .slice none 0 0] 46)).alloc (.cells #[.int .i64 t, .slice al nl cl, .int .i64 n, .slice as' ns cs, .slice am nm cm, .slice ax nx cx] 46) = W0 := ⟨_, rfl⟩
  have k0 : W0.heap[w.heap.size]? = some (.cells #[.int .i64 t, .slice al nl cl, .int .i64 n, .slice as' ns cs, .slice am nm cm, .slice ax nx cx] 87 (0, 0)) := by rw [← hW0]; (simp (disch := first | omega | (simp only [World.size_alloc, World.size_setCell, World.size_drew]; done) | (simp only [World.size_alloc, World.size_setCell, World.size_drew]; omega)) only [heap_at, heap_past, heap_set_other, heap_set_same])
  have k1 : W0.heap[w.heap.size + 1]? = some (.cells #[.int .i64 0, .slice none 0 0, .int .i64 0, .slice none 0 0, .slice none 0 0, .slice none 0 0] 46 (0, 0)) := by rw [← hW0]; (simp (disch := first | omega | (simp only [World.size_alloc, World.size_setCell, World.size_drew]; done) | (simp only [World.size_alloc, World.size_setCell, World.size_drew]; omega)) only [heap_at, heap_past, heap_set_other, heap_set_same])
  have k2 : W0.heap[w.heap.size + 1 + 1]? = some (.cells #[.int .i64 t, .slice al nl cl, .int .i64 n, .slice as' ns cs, .slice am nm cm, .slice ax nx cx] 46 (0, 0)) := by rw [← hW0]; (simp (disch := first | omega | (simp only [World.size_alloc, World.size_setCell, World.size_drew]; done) | (simp only [World.size_alloc, World.size_setCell, World.size_drew]; omega)) only [heap_at, heap_past, heap_set_other, heap_set_same])
  have hz0 : W0.heap.size = w.heap.size + 1 + 1 + 1 := by rw [← hW0]; simp
  rw [hW0] at hB0 ⊢
  clear hW0
  have q1 : W0.cell? ⟨w.heap.size, 1, none⟩ = some (.slice al nl cl) := (blk_cell k0).trans rfl
  have q3 : W0.cell? ⟨w.heap.size, 3, none⟩ = some (.slice as' ns cs) := (blk_cell k0).trans rfl
  have q4 : W0.cell? ⟨w.heap.size, 4, none⟩ = some (.slice am nm cm) := (blk_cell k0).trans rfl
  have q5 : W0.cell? ⟨w.heap.size, 5, none⟩ = some (.slice ax nx cx) := (blk_cell k0).trans rfl
  have hS0 : (fun w' : World => w'.cell? ⟨w.heap.size, 1, none⟩ = some (.slice al nl cl) ∧ w'.cell? ⟨w.heap.size, 3, none⟩ = some (.slice as' ns cs)) W0.drew := ⟨q1, q3⟩
  refine wp_region_some (fun w' : World => w'.cell? ⟨w.heap.size, 1, none⟩ = some (.slice al nl cl) ∧ w'.cell? ⟨w.heap.size, 3, none⟩ = some (.slice as' ns cs)) [9, 10, 11] (by kernel_rfl) ?_
  (refine wpMix_take (i := 0) (v := ?_) rfl (by kernel_rfl) (fun _ _ _ h => h) (Or.inl ⟨by rfl, ?_⟩) hS0 ?_; rotate_left 1; (focus (intro w hSw; (try dsimp only at hSw); go_simp; try (with_reducible rfl))); (try simp only [Act.put, List.setIfInBounds_toArray, List.set_cons_zero, List.set_cons_succ]))
  (refine wpMix_take (i := 1) (v := ?_) rfl (by kernel_rfl) (fun _ _ _ h => h) (Or.inl ⟨by rfl, ?_⟩) hS0 ?_; rotate_left 1; (focus (intro w hSw; (try dsimp only at hSw); go_simp; try (with_reducible rfl))); (try simp only [Act.put, List.setIfInBounds_toArray, List.set_cons_zero, List.set_cons_succ]))
  (refine wpMix_take (i := 2) (v := ?_) rfl (by kernel_rfl) (fun _ _ _ h => h) (Or.inl ⟨by rfl, ?_⟩) hS0 ?_; rotate_left 1; (focus (intro w hSw; (try dsimp only at hSw); go_simp; try (with_reducible rfl))); (try simp only [Act.put, List.setIfInBounds_toArray, List.set_cons_zero, List.set_cons_succ]))
  (refine wpMix_take (i := 4) (v := ?_) rfl (by kernel_rfl) (fun _ _ _ h => h) (Or.inl ⟨by rfl, ?_⟩) hS0 ?_; rotate_left 1; (focus (intro w hSw; (try dsimp only at hSw); go_simp; try (with_reducible rfl))); (try simp only [Act.put, List.setIfInBounds_toArray, List.set_cons_zero, List.set_cons_succ]))
  (refine wpMix_take (i := 5) (v := ?_) rfl (by kernel_rfl) (fun _ _ _ h => h) (Or.inl ⟨by rfl, ?_⟩) hS0 ?_; rotate_left 1; (focus (intro w hSw; (try dsimp only at hSw); go_simp; try (with_reducible rfl))); (try simp only [Act.put, List.setIfInBounds_toArray, List.set_cons_zero, List.set_cons_succ]))
  (refine wpMix_take (i := 6) (v := ?_) rfl (by kernel_rfl) (fun _ _ _ h => h) (Or.inl ⟨by rfl, ?_⟩) hS0 ?_; rotate_left 1; (focus (intro w hSw; (try dsimp only at hSw); go_simp; try (with_reducible rfl))); (try simp only [Act.put, List.setIfInBounds_toArray, List.set_cons_zero, List.set_cons_succ]))
  refine wpMix_next (t := 3) (by kernel_rfl) ?_
  simp only [opsAt, List.flatMap_cons, List.flatMap_nil, List.take_succ_cons, List.take_zero, List.drop_succ_cons, List.drop_zero, List.append_nil, List.cons_append, List.nil_append]
  go_wp2_with (go_at_call 91; go_loud ((with_reducible refine (HL.out _ (by (repeat' (first | (with_reducible exact Below.refl _ _) | (with_reducible assumption) | (with_reducible refine Below.new ?_ _) | (with_reducible refine Below.alloc ?_ ?_ _) | (with_reducible refine Below.drew ?_) | (with_reducible refine Below.drewN ?_ _) | (with_reducible refine Below.setCell ?_ ?_ _) | (refine Below.step ?_ (by assumption)) | go_size)))).mono ?_); rintro e w1 ⟨ul, rfl, ho1, hb1⟩))
  have hS1 := show (fun w' : World => w'.cell? ⟨w.heap.size, 1, none⟩ = some (.slice al nl cl) ∧ w'.cell? ⟨w.heap.size, 3, none⟩ = some (.slice as' ns cs)) w1 from ⟨cell_step hS0.1 hb1, cell_step hS0.2 hb1⟩
  refine ⟨hS1, ?_⟩
  (refine wpMix_take (i := 8) (v := ?_) rfl (by kernel_rfl) (fun _ _ _ h => h) (Or.inl ⟨by rfl, ?_⟩) hS1 ?_; rotate_left 1; (focus (intro w hSw; (try dsimp only at hSw); go_simp; try (with_reducible rfl))); (try simp only [Act.put, List.setIfInBounds_toArray, List.set_cons_zero, List.set_cons_succ]))
  refine wpMix_next (t := 7) (by kernel_rfl) ?_
  simp only [opsAt, List.flatMap_cons, List.flatMap_nil, List.take_succ_cons, List.take_zero, List.drop_succ_cons, List.drop_zero, List.append_nil, List.cons_append, List.nil_append]
  have hB1 : Below w.heap.size w w1 := hB0.drew.trans (hb1.mono hB0.size)
  go_wp2_with (go_at_call 92; go_loud ((with_reducible refine (HS.out _ hB1).mono ?_); rintro e w2 ⟨us, rfl, ho2, hb2⟩))
  refine ⟨⟨cell_step hS1.1 hb2, cell_step hS1.2 hb2⟩, ?_⟩
  refine wpMix_rest [9, 10, 11] (by kernel_rfl) ?_
  simp only [opsAt, List.flatMap_cons, List.flatMap_nil, List.take_succ_cons, List.take_zero, List.drop_succ_cons, List.drop_zero, List.append_nil, List.cons_append, List.nil_append]
  have hB2 := hB1.trans (hb2.mono hB1.size)
  have p1 : w2.heap[w.heap.size + 1]? = _ := blk_below (blk_below (w := W0.drew) k1 hb1) hb2
  have p2 : w2.heap[w.heap.size + 1 + 1]? = _ := blk_below (blk_below (w := W0.drew) k2 hb1) hb2
  have p0 : w2.heap[w.heap.size]? = _ := blk_below (blk_below (w := W0.drew) k0 hb1) hb2
  have hoz1 : W0.heap.size ≤ W0.drew.heap.size := Nat.le_refl _
  have ho1' := row_below ho1 hb2
  have z1 := hb1.size; have z2 := hb2.size
  simp only [World.size_drew] at z1 ho1 ho1'
  obtain ⟨au, cu, rfl, _⟩ := SlAt.shape (SlAt.own ho1')
  obtain ⟨bu, du, rfl, _⟩ := SlAt.shape (SlAt.own ho2)
  have c21 : w2.cell? ⟨w.heap.size + 1 + 1, 1, none⟩ = some (.slice al nl cl) := (blk_cell p2).trans rfl
  have c23 : w2.cell? ⟨w.heap.size + 1 + 1, 3, none⟩ = some (.slice as' ns cs) := (blk_cell p2).trans rfl
  have f21 : w2.frozen? ⟨w.heap.size + 1 + 1, 1, none⟩ = false := blk_free p2
  have f23 : w2.frozen? ⟨w.heap.size + 1 + 1, 3, none⟩ = false := blk_free p2
  clear hS0 hS1 q1 q3 q4 q5 k0 k1 k2 hb1 hb2 ho1
  go_wp2
  have r0 : ((w2.setCell ⟨w.heap.size + 1 + 1, 1, none⟩ (.slice au nl cu)).setCell ⟨w.heap.size + 1 + 1, 3, none⟩ (.slice bu ns du)).heap[w.heap.size]? = _ := (heap_set_other (by omega)).trans ((heap_set_other (by omega)).trans p0)
  have r1 : ((w2.setCell ⟨w.heap.size + 1 + 1, 1, none⟩ (.slice au nl cu)).setCell ⟨w.heap.size + 1 + 1, 3, none⟩ (.slice bu ns du)).heap[w.heap.size + 1]? = _ := (heap_set_other (by omega)).trans ((heap_set_other (by omega)).trans p1)
  have r2 : ((w2.setCell ⟨w.heap.size + 1 + 1, 1, none⟩ (.slice au nl cu)).setCell ⟨w.heap.size + 1 + 1, 3, none⟩ (.slice bu ns du)).heap[w.heap.size + 1 + 1]? = some (.cells #[.int .i64 t, .slice au nl cu, .int .i64 n, .slice bu ns du, .slice am nm cm, .slice ax nx cx] 46 (0, 0)) := by
    have := blk_set (o := 3) (v := .slice bu ns du) (blk_set (o := 1) (v := .slice au nl cu) p2)
    simpa using this
  have o1 := row_far (b := w.heap.size + 1 + 1) (o := 3) (u := .slice bu ns du) (row_far (b := w.heap.size + 1 + 1) (o := 1) (u := .slice au nl cu) ho1' (by omega)) (by omega)
  have o2 := row_far (b := w.heap.size + 1 + 1) (o := 3) (u := .slice bu ns du) (row_far (b := w.heap.size + 1 + 1) (o := 1) (u := .slice au nl cu) ho2 (by omega)) (by omega)
  have hB3 : Below w.heap.size w ((w2.setCell ⟨w.heap.size + 1 + 1, 1, none⟩ (.slice au nl cu)).setCell ⟨w.heap.size + 1 + 1, 3, none⟩ (.slice bu ns du)) := Below.setCell (Below.setCell hB2 (by simp; omega) _) (by simp; omega) _
  have hz3 : W0.heap.size ≤ ((w2.setCell ⟨w.heap.size + 1 + 1, 1, none⟩ (.slice au nl cu)).setCell ⟨w.heap.size + 1 + 1, 3, none⟩ (.slice bu ns du)).heap.size := by simp; omega
  clear p0 p1 p2 ho1' ho2 hB2 c21 c23 f21 f23
  generalize (w2.setCell ⟨w.heap.size + 1 + 1, 1, none⟩ (.slice au nl cu)).setCell ⟨w.heap.size + 1 + 1, 3, none⟩ (.slice bu ns du) = W3 at *
  have q4 : W3.cell? ⟨w.heap.size, 4, none⟩ = some (.slice am nm cm) := (blk_cell r0).trans rfl
  have q5 : W3.cell? ⟨w.heap.size, 5, none⟩ = some (.slice ax nx cx) := (blk_cell r0).trans rfl
  have hT0 : (fun w' : World => w'.cell? ⟨w.heap.size, 4, none⟩ = some (.slice am nm cm) ∧ w'.cell? ⟨w.heap.size, 5, none⟩ = some (.slice ax nx cx)) W3.drew := ⟨q4, q5⟩
  refine wp_region_some (fun w' : World => w'.cell? ⟨w.heap.size, 4, none⟩ = some (.slice am nm cm) ∧ w'.cell? ⟨w.heap.size, 5, none⟩ = some (.slice ax nx cx)) [9, 10, 11] (by kernel_rfl) ?_
  (refine wpMix_take (i := 0) (v := ?_) rfl (by kernel_rfl) (fun _ _ _ h => h) (Or.inl ⟨by rfl, ?_⟩) hT0 ?_; rotate_left 1; (focus (intro w hSw; (try dsimp only at hSw); go_simp; try (with_reducible rfl))); (try simp only [Act.put, List.setIfInBounds_toArray, List.set_cons_zero, List.set_cons_succ]))
  (refine wpMix_take (i := 1) (v := ?_) rfl (by kernel_rfl) (fun _ _ _ h => h) (Or.inl ⟨by rfl, ?_⟩) hT0 ?_; rotate_left 1; (focus (intro w hSw; (try dsimp only at hSw); go_simp; try (with_reducible rfl))); (try simp only [Act.put, List.setIfInBounds_toArray, List.set_cons_zero, List.set_cons_succ]))
  (refine wpMix_take (i := 2) (v := ?_) rfl (by kernel_rfl) (fun _ _ _ h => h) (Or.inl ⟨by rfl, ?_⟩) hT0 ?_; rotate_left 1; (focus (intro w hSw; (try dsimp only at hSw); go_simp; try (with_reducible rfl))); (try simp only [Act.put, List.setIfInBounds_toArray, List.set_cons_zero, List.set_cons_succ]))
  (refine wpMix_take (i := 4) (v := ?_) rfl (by kernel_rfl) (fun _ _ _ h => h) (Or.inl ⟨by rfl, ?_⟩) hT0 ?_; rotate_left 1; (focus (intro w hSw; (try dsimp only at hSw); go_simp; try (with_reducible rfl))); (try simp only [Act.put, List.setIfInBounds_toArray, List.set_cons_zero, List.set_cons_succ]))
  (refine wpMix_take (i := 5) (v := ?_) rfl (by kernel_rfl) (fun _ _ _ h => h) (Or.inl ⟨by rfl, ?_⟩) hT0 ?_; rotate_left 1; (focus (intro w hSw; (try dsimp only at hSw); go_simp; try (with_reducible rfl))); (try simp only [Act.put, List.setIfInBounds_toArray, List.set_cons_zero, List.set_cons_succ]))
  (refine wpMix_take (i := 6) (v := ?_) rfl (by kernel_rfl) (fun _ _ _ h => h) (Or.inl ⟨by rfl, ?_⟩) hT0 ?_; rotate_left 1; (focus (intro w hSw; (try dsimp only at hSw); go_simp; try (with_reducible rfl))); (try simp only [Act.put, List.setIfInBounds_toArray, List.set_cons_zero, List.set_cons_succ]))
  refine wpMix_next (t := 3) (by kernel_rfl) ?_
  simp only [opsAt, List.flatMap_cons, List.flatMap_nil, List.take_succ_cons, List.take_zero, List.drop_succ_cons, List.drop_zero, List.append_nil, List.cons_append, List.nil_append]
  go_wp2_with (go_at_call 93; go_loud ((with_reducible refine (HM.out _ hB3.drew).mono ?_); rintro e w4 ⟨um, rfl, ho3, hb3⟩))
  have hT1 := show (fun w' : World => w'.cell? ⟨w.heap.size, 4, none⟩ = some (.slice am nm cm) ∧ w'.cell? ⟨w.heap.size, 5, none⟩ = some (.slice ax nx cx)) w4 from ⟨cell_step hT0.1 hb3, cell_step hT0.2 hb3⟩
  refine ⟨hT1, ?_⟩
  (refine wpMix_take (i := 8) (v := ?_) rfl (by kernel_rfl) (fun _ _ _ h => h) (Or.inl ⟨by rfl, ?_⟩) hT1 ?_; rotate_left 1; (focus (intro w hSw; (try dsimp only at hSw); go_simp; try (with_reducible rfl))); (try simp only [Act.put, List.setIfInBounds_toArray, List.set_cons_zero, List.set_cons_succ]))
  refine wpMix_next (t := 7) (by kernel_rfl) ?_
  simp only [opsAt, List.flatMap_cons, List.flatMap_nil, List.take_succ_cons, List.take_zero, List.drop_succ_cons, List.drop_zero, List.append_nil, List.cons_append, List.nil_append]
  have hB4 : Below w.heap.size w w4 := hB3.drew.trans (hb3.mono hB3.size)
  go_wp2_with (go_at_call 93; go_loud ((with_reducible refine (HX.out _ hB4).mono ?_); rintro e w5 ⟨ux, rfl, ho4, hb4⟩))
  refine ⟨⟨cell_step hT1.1 hb4, cell_step hT1.2 hb4⟩, ?_⟩
  refine wpMix_rest [9, 10, 11] (by kernel_rfl) ?_
  simp only [opsAt, List.flatMap_cons, List.flatMap_nil, List.take_succ_cons, List.take_zero, List.drop_succ_cons, List.drop_zero, List.append_nil, List.cons_append, List.nil_append]
  have hB5 := hB4.trans (hb4.mono hB4.size)
  have s1 : w5.heap[w.heap.size + 1]? = _ := blk_below (blk_below (w := W3.drew) r1 hb3) hb4
  have s2 : w5.heap[w.heap.size + 1 + 1]? = _ := blk_below (blk_below (w := W3.drew) r2 hb3) hb4
  have t1 := row_below (row_below (w := W3.drew) o1 hb3) hb4
  have t2 := row_below (row_below (w := W3.drew) o2 hb3) hb4
  have t3 := row_below ho3 hb4
  have hne := hid (show ∀ g, um.ownBlock = some g → ¬ ux.ownBlock = some g from fun g h1 h2 => by have e1 := (ho3.lt g h1).2; have e2 := (ho4.lt g h2).1; omega)
  have z4 := hb3.size; have z5 := hb4.size
  simp only [World.size_drew] at z4 ho3 t3
  obtain ⟨av, cv, rfl, _⟩ := SlAt.shape (SlAt.own t3)
  obtain ⟨bv, dv, rfl, _⟩ := SlAt.shape (SlAt.own ho4)
  have c24 : w5.cell? ⟨w.heap.size + 1 + 1, 4, none⟩ = some (.slice am nm cm) := (blk_cell s2).trans rfl
  have c25 : w5.cell? ⟨w.heap.size + 1 + 1, 5, none⟩ = some (.slice ax nx cx) := (blk_cell s2).trans rfl
  have c20 : w5.cell? ⟨w.heap.size + 1 + 1, 0, none⟩ = some (.int .i64 t) := (blk_cell s2).trans rfl
  have c21 : w5.cell? ⟨w.heap.size + 1 + 1, 1, none⟩ = some (.slice au nl cu) := (blk_cell s2).trans rfl
  have c22 : w5.cell? ⟨w.heap.size + 1 + 1, 2, none⟩ = some (.int .i64 n) := (blk_cell s2).trans rfl
  have c23 : w5.cell? ⟨w.heap.size + 1 + 1, 3, none⟩ = some (.slice bu ns du) := (blk_cell s2).trans rfl
  have f24 : w5.frozen? ⟨w.heap.size + 1 + 1, 4, none⟩ = false := blk_free s2
  have f25 : w5.frozen? ⟨w.heap.size + 1 + 1, 5, none⟩ = false := blk_free s2
  have d0 : w5.cell? ⟨w.heap.size + 1, 0, none⟩ = some (.int .i64 0) := (blk_cell s1).trans rfl
  have d1 : w5.cell? ⟨w.heap.size + 1, 1, none⟩ = some (.slice none 0 0) := (blk_cell s1).trans rfl
  have d2 : w5.cell? ⟨w.heap.size + 1, 2, none⟩ = some (.int .i64 0) := (blk_cell s1).trans rfl
  have d3 : w5.cell? ⟨w.heap.size + 1, 3, none⟩ = some (.slice none 0 0) := (blk_cell s1).trans rfl
  have d4 : w5.cell? ⟨w.heap.size + 1, 4, none⟩ = some (.slice none 0 0) := (blk_cell s1).trans rfl
  have d5 : w5.cell? ⟨w.heap.size + 1, 5, none⟩ = some (.slice none 0 0) := (blk_cell s1).trans rfl
  have g0 : w5.frozen? ⟨w.heap.size + 1, 0, none⟩ = false := blk_free s1
  have g1 : w5.frozen? ⟨w.heap.size + 1, 1, none⟩ = false := blk_free s1
  have g2 : w5.frozen? ⟨w.heap.size + 1, 2, none⟩ = false := blk_free s1
  have g3 : w5.frozen? ⟨w.heap.size + 1, 3, none⟩ = false := blk_free s1
  have g4 : w5.frozen? ⟨w.heap.size + 1, 4, none⟩ = false := blk_free s1
  have g5 : w5.frozen? ⟨w.heap.size + 1, 5, none⟩ = false := blk_free s1
  clear hT0 hT1 q4 q5 r0 r1 r2 hb3 hb4 ho3 s1 s2 o1 o2 hB3 hB4
  go_wp2
  ((show bodyPost _ _ _ _ _ _); refine bodyPost_ret (by simp only [results, Try.results61]; go_simp; try rfl) rfl ?_)
  have far : ∀ (e : TypeId) (size : Nat) (v : Value) (m : Nat) (X : List Value) (B : Nat), w.heap.size + 1 + 1 < B → w5.ownsRow B e size v m X → _ := fun e size v m X B hB h => (row_far (b := w.heap.size + 1) (o := 5) (u := .slice bv nx dv) (row_far (b := w.heap.size + 1) (o := 4) (u := .slice av nm cv) (row_far (b := w.heap.size + 1) (o := 3) (u := .slice bu ns du) (row_far (b := w.heap.size + 1) (o := 2) (u := .int .i64 n) (row_far (b := w.heap.size + 1) (o := 1) (u := .slice au nl cu) (row_far (b := w.heap.size + 1) (o := 0) (u := .int .i64 t) (row_far (b := w.heap.size + 1 + 1) (o := 5) (u := .slice bv nx dv) (row_far (b := w.heap.size + 1 + 1) (o := 4) (u := .slice av nm cv) h (by omega)) (by omega)) (by omega)) (by omega)) (by omega)) (by omega)) (by omega)) (by omega)).base_le (b' := w.heap.size) (by omega)
  exact ⟨_, _, _, _, rfl, far _ _ _ _ _ _ (by omega) t1, far _ _ _ _ _ _ (by omega) t2, far _ _ _ _ _ _ (by omega) t3, far _ _ _ _ _ _ (by omega) ho4, by (repeat' (first | (with_reducible exact Below.refl _ _) | (with_reducible assumption) | (with_reducible refine Below.new ?_ _) | (with_reducible refine Below.alloc ?_ ?_ _) | (with_reducible refine Below.drew ?_) | (with_reducible refine Below.drewN ?_ _) | (with_reducible refine Below.setCell ?_ ?_ _) | (refine Below.step ?_ (by assumption)) | go_size)), hne.out⟩
end Go.Proofs.Ytdgeinipdphoeaa
/- Rollup: cells whose lists are the call's own; worlds that are as they were outside of some blocks. -/
namespace Go.Proofs.Ytdgeinipdphoeaa
set_option linter.unusedVariables false
set_option linter.unusedSimpArgs false
set_option maxRecDepth 100000
open Go.ChangeShapes Go.WideShapes Go.ChangeAt Go.RowKit

/-- Outside of the blocks of T all that was there is as it was. -/
structure TurnO (T : List Nat) (w w' : World) : Prop where
  os : w'.os = w.os
  tape : w'.tape = w.tape
  output : w'.output = w.output
  size : w.heap.size ≤ w'.heap.size
  block : ∀ k, k < w.heap.size → k ∉ T → w'.heap[k]? = w.heap[k]?
theorem TurnO.refl (T : List Nat) (w : World) : TurnO T w w := ⟨rfl, rfl, rfl, Nat.le_refl _, fun _ _ _ => rfl⟩
theorem TurnO.trans {T : List Nat} {a b c : World} (h : TurnO T a b) (k : TurnO T b c) : TurnO T a c :=
  ⟨k.os.trans h.os, k.tape.trans h.tape, k.output.trans h.output, Nat.le_trans h.size k.size, fun i hi ht => (k.block i (Nat.lt_of_lt_of_le hi h.size) ht).trans (h.block i hi ht)⟩
theorem TurnO.mono {T T' : List Nat} {w w' : World} (h : TurnO T w w') (hs : ∀ k ∈ T, k ∈ T' ∨ w.heap.size ≤ k) : TurnO T' w w' :=
  ⟨h.os, h.tape, h.output, h.size, fun i hi ht => h.block i hi fun hm => by rcases hs i hm with h1 | h1; exact ht h1; omega⟩
theorem TurnO.of {T : List Nat} {w w' : World} (h : Below w.heap.size w w') : TurnO T w w' := ⟨h.os, h.tape, h.output, h.size, fun k hk _ => h.block k hk⟩
theorem TurnO.step {T : List Nat} {a w w' : World} (h : TurnO T a w) (hb : Below w.heap.size w w') : TurnO T a w' := h.trans (.of hb)
theorem TurnO.alloc {T : List Nat} {a w : World} (h : TurnO T a w) (o : Obj) : TurnO T a (w.alloc o) := h.step ((Below.refl _ _).alloc (Nat.le_refl _) o)
theorem TurnO.drew {T : List Nat} {a w : World} (h : TurnO T a w) : TurnO T a w.drew := h.step (Below.drew (Below.refl _ _))
theorem TurnO.setCell {T : List Nat} {a w : World} (h : TurnO T a w) {b o : Nat} {s : Option Nat} (hb : b ∈ T ∨ a.heap.size ≤ b) (u : Value) : TurnO T a (w.setCell ⟨b, o, s⟩ u) :=
  ⟨h.os, h.tape, h.output, Nat.le_trans h.size (by simp), fun k hk ht => (heap_set_other (by rintro rfl; rcases hb with h1 | h1; exact ht h1; omega)).trans (h.block k hk ht)⟩
theorem TurnO.grown {T : List Nat} {a w w' : World} {r : Option Nat} (h : TurnO T a w) (hg : w.grownBy w' r) (hr : ∀ k, r = some k → k ∈ T ∨ a.heap.size ≤ k) : TurnO T a w' :=
  ⟨hg.os.trans h.os, hg.tape.trans h.tape, hg.output.trans h.output, Nat.le_trans h.size hg.size, fun k hk ht => (hg.block k (Nat.lt_of_lt_of_le hk h.size) (fun e => by rcases hr k e.symm with h1 | h1; exact ht h1; omega)).trans (h.block k hk ht)⟩
theorem TurnO.below {T : List Nat} {w w' : World} {B : Nat} (h : TurnO T w w') (hB : B ≤ w.heap.size) (hT : ∀ k ∈ T, B ≤ k) : Below B w w' :=
  ⟨h.os, h.tape, h.output, h.size, fun k hk => h.block k (by omega) fun hm => by have := hT k hm; omega⟩
theorem TurnO.row {T : List Nat} {w w' : World} {base : Nat} {e : TypeId} {size : Nat} {v : Value} {n : Nat} {xs : List Value} (h : TurnO T w w') (hr : w.ownsRow base e size v n xs) (hv : ∀ g, v.ownBlock = some g → g ∉ T) : w'.ownsRow base e size v n xs := by
  refine ⟨hr.1, ?_⟩
  rcases hr.2 with hn | ⟨g, cap, cur, rfl, hb, hgg, rest⟩
  · exact .inl hn
  · exact .inr ⟨g, cap, cur, rfl, hb, (h.block g (blk_lt hgg) (hv g rfl)).trans hgg, rest⟩
theorem TurnO.blk {T : List Nat} {w w' : World} {b : Nat} {o : Obj} (h : TurnO T w w') (hb : w.heap[b]? = some o) (ht : b ∉ T) : w'.heap[b]? = some o := (h.block b (blk_lt hb) ht).trans hb

/-- The values of a cell's lists. -/
structure CellV where
  vl : Value
  vs : Value
  vm : Value
  vx : Value
def CellV.row (u : CellV) (c : CellD) : List Value := [.int .i64 c.t, u.vl, .int .i64 c.n, u.vs, u.vm, u.vx]
def CellV.blks (u : CellV) : List Nat := [u.vl, u.vs, u.vm, u.vx].filterMap Value.ownBlock
/-- A cell whose lists are the call's own. -/
structure OwnC (w : World) (B : Nat) (u : CellV) (c : CellD) : Prop where
  l : w.ownsRow B 54 2 u.vl c.l.length (c.l.flatMap ValD.cells)
  s : w.ownsRow B 58 2 u.vs c.sums.length (c.sums.flatMap wcells)
  m : w.ownsRow B 2 1 u.vm c.mins.length (c.mins.map (Value.int .i64))
  x : w.ownsRow B 2 1 u.vx c.maxs.length (c.maxs.map (Value.int .i64))
theorem OwnC.is {w : World} {B : Nat} {u : CellV} {c : CellD} (h : OwnC w B u c) : CellIs w (u.row c) c :=
  ⟨u.vl, u.vs, u.vm, u.vx, rfl, ValsSl.own h.l, WidesSl.own h.s, IntsSl.own h.m, IntsSl.own h.x⟩
theorem OwnC.turn {w w' : World} {T : List Nat} {B : Nat} {u : CellV} {c : CellD} (h : OwnC w B u c) (ht : TurnO T w w') (hT : ∀ g ∈ u.blks, g ∉ T) : OwnC w' B u c :=
  ⟨ht.row h.l fun g hg => hT g (by simp [CellV.blks, hg]), ht.row h.s fun g hg => hT g (by simp [CellV.blks]; exact .inr (.inl hg)),
   ht.row h.m fun g hg => hT g (by simp [CellV.blks]; exact .inr (.inr (.inl hg))), ht.row h.x fun g hg => hT g (by simp [CellV.blks]; exact .inr (.inr (.inr hg)))⟩
theorem OwnC.le {w : World} {B B' : Nat} {u : CellV} {c : CellD} (h : OwnC w B u c) (hb : B' ≤ B) : OwnC w B' u c := ⟨h.l.base_le hb, h.s.base_le hb, h.m.base_le hb, h.x.base_le hb⟩
theorem OwnC.lt {w : World} {B : Nat} {u : CellV} {c : CellD} (h : OwnC w B u c) : ∀ g ∈ u.blks, B ≤ g ∧ g < w.heap.size := by
  intro g hg
  simp only [CellV.blks, List.mem_filterMap] at hg
  obtain ⟨v, hv, he⟩ := hg
  simp only [List.mem_cons, List.not_mem_nil, or_false] at hv
  rcases hv with rfl | rfl | rfl | rfl
  · exact h.l.lt g he
  · exact h.s.lt g he
  · exact h.m.lt g he
  · exact h.x.lt g he
/-- The type of a block. -/
theorem row_type {w : World} {B : Nat} {e : TypeId} {size : Nat} {v : Value} {n : Nat} {xs : List Value} (h : w.ownsRow B e size v n xs) {g : Nat} (hg : v.ownBlock = some g) : ∃ cur, w.heap[g]? = some (.cells cur e (0, 0)) := by
  rcases h.2 with ⟨rfl, _⟩ | ⟨g', cap, cur, rfl, _, hgg, _⟩
  · simp [Value.ownBlock] at hg
  · simp [Value.ownBlock] at hg
    subst hg
    exact ⟨cur, hgg⟩
theorem row_ne {w : World} {B B' : Nat} {e e' : TypeId} {size size' : Nat} {v v' : Value} {n n' : Nat} {xs xs' : List Value} (h : w.ownsRow B e size v n xs) (h' : w.ownsRow B' e' size' v' n' xs') (he : e ≠ e') {g : Nat} (hg : v.ownBlock = some g) : ¬ v'.ownBlock = some g := by
  intro hg'
  obtain ⟨cur, h1⟩ := row_type h hg
  obtain ⟨cur', h2⟩ := row_type h' hg'
  rw [h1] at h2
  simp at h2
  exact he h2.2
theorem OwnC.nodup {w : World} {B : Nat} {u : CellV} {c : CellD} (h : OwnC w B u c) (hne : ∀ g, u.vm.ownBlock = some g → ¬ u.vx.ownBlock = some g) : u.blks.Nodup := by
  have k1 : ∀ g, u.vl.ownBlock = some g → ¬ u.vs.ownBlock = some g := fun g hg => row_ne h.l h.s (by decide) hg
  have k2 : ∀ g, u.vl.ownBlock = some g → ¬ u.vm.ownBlock = some g := fun g hg => row_ne h.l h.m (by decide) hg
  have k3 : ∀ g, u.vl.ownBlock = some g → ¬ u.vx.ownBlock = some g := fun g hg => row_ne h.l h.x (by decide) hg
  have k4 : ∀ g, u.vs.ownBlock = some g → ¬ u.vm.ownBlock = some g := fun g hg => row_ne h.s h.m (by decide) hg
  have k5 : ∀ g, u.vs.ownBlock = some g → ¬ u.vx.ownBlock = some g := fun g hg => row_ne h.s h.x (by decide) hg
  unfold CellV.blks
  refine List.Pairwise.filterMap (R := fun a b : Value => ∀ g, a.ownBlock = some g → ¬ b.ownBlock = some g) _ (fun a b hab x hx y hy => ?_) ?_
  · rintro rfl
    exact hab x (by simpa using hx) (by simpa using hy)
  · simp only [List.pairwise_cons, List.mem_cons, List.not_mem_nil, or_false, false_implies, implies_true, List.Pairwise.nil, and_true, forall_eq_or_imp, forall_eq]
    exact ⟨⟨k1, k2, k3⟩, ⟨k4, k5⟩, hne⟩

/-- A cell's values, and a cell. -/
abbrev CellP := CellV × CellD
def rowP (p : CellP) : List Value := p.1.row p.2
theorem rowP_len (p : CellP) : (rowP p).length = 6 := rfl
/-- A list of cells that is the call's own, with all its cells' lists, no two of them in one block. -/
structure OwnCs (w : World) (B : Nat) (v : Value) (ps : List CellP) : Prop where
  row : w.ownsRow B 46 6 v ps.length (ps.flatMap rowP)
  each : ∀ p ∈ ps, OwnC w B p.1 p.2
  nodup : (ps.flatMap fun p => p.1.blks).Nodup
def cellsP (ps : List CellP) : List CellD := ps.map fun p => p.2
theorem OwnCs.nil (w : World) (B : Nat) : OwnCs w B (.slice none 0 0) [] := ⟨World.ownsRow_nil _ _ _ _, fun _ h => (by simp at h), by simp⟩
theorem OwnCs.out {w : World} {B : Nat} {v : Value} {ps : List CellP} (h : OwnCs w B v ps) {g : Nat} (hg : v.ownBlock = some g) : g ∉ ps.flatMap fun p => p.1.blks := by
  intro hm
  obtain ⟨p, hp, hm⟩ := List.mem_flatMap.1 hm
  have ho := h.each p hp
  simp only [CellV.blks, List.mem_filterMap, List.mem_cons, List.not_mem_nil, or_false] at hm
  obtain ⟨v', hv, he⟩ := hm
  rcases hv with rfl | rfl | rfl | rfl
  · exact row_ne h.row ho.l (by decide) hg he
  · exact row_ne h.row ho.s (by decide) hg he
  · exact row_ne h.row ho.m (by decide) hg he
  · exact row_ne h.row ho.x (by decide) hg he
theorem OwnCs.is {w : World} {B : Nat} {v : Value} {ps : List CellP} (h : OwnCs w B v ps) : CellsSl w v (cellsP ps) := by
  have hr := h.row
  unfold cellsP
  rcases h.row.2 with ⟨rfl, h0⟩ | ⟨g, cap, cur, rfl, _, _, h3, h4, _, _⟩
  · have : ps = [] := List.eq_nil_of_length_eq_zero h0
    subst this
    exact ElemsSl.nil w
  · refine ⟨some ⟨g, 0, none⟩, cap, by simp, by simpa using h3, h4, (fun h => by cases h), fun hl => ⟨g, 0, rfl, fun i hi => ?_⟩⟩
    have hi' : i < ps.length := by simpa using hi
    refine ⟨rowP ps[i], rfl, ?_, fun j u hj => ?_⟩
    · have := (h.each ps[i] (List.getElem_mem hi')).is
      simpa [rowP] using this
    · have hj6 : j < 6 := (List.getElem?_eq_some_iff.1 hj).1
      rw [show 0 + i * 6 + j = i * 6 + j by omega, hr.cellAt _ (by omega), flat_at 6 rowP rowP_len ps i j hj6 hi', hj]
theorem OwnCs.lt {w : World} {B : Nat} {v : Value} {ps : List CellP} (h : OwnCs w B v ps) : ∀ g ∈ ps.flatMap fun p => p.1.blks, B ≤ g ∧ g < w.heap.size := by
  intro g hg
  obtain ⟨p, hp, hm⟩ := List.mem_flatMap.1 hg
  exact (h.each p hp).lt g hm
theorem OwnCs.turn {w w' : World} {T : List Nat} {B : Nat} {v : Value} {ps : List CellP} (h : OwnCs w B v ps) (ht : TurnO T w w') (hv : ∀ g, v.ownBlock = some g → g ∉ T) (hT : ∀ g ∈ ps.flatMap (fun p => p.1.blks), g ∉ T) : OwnCs w' B v ps :=
  ⟨ht.row h.row hv, fun p hp => (h.each p hp).turn ht fun g hg => hT g (List.mem_flatMap.2 ⟨p, hp, hg⟩), h.nodup⟩
theorem OwnCs.below {w w' : World} {B : Nat} {v : Value} {ps : List CellP} (h : OwnCs w B v ps) (hb : Below w.heap.size w w') : OwnCs w' B v ps :=
  h.turn (T := []) (.of hb) (fun _ _ => by simp) (fun _ _ => by simp)
/-- One more cell, put among them. -/
theorem OwnCs.insert {w : World} {B : Nat} {v v' : Value} {ps : List CellP} {p : CellP} (h : OwnCs w B v ps) (k : Nat) (hr : w.ownsRow B 46 6 v' (ps.length + 1) ((ps.take k).flatMap rowP ++ rowP p ++ (ps.drop k).flatMap rowP)) (hp : OwnC w B p.1 p.2) (hn : p.1.blks.Nodup) (hd : ∀ g ∈ p.1.blks, g ∉ ps.flatMap fun p => p.1.blks) :
    OwnCs w B v' (ps.take k ++ p :: ps.drop k) := by
  have hperm : (ps.take k ++ p :: ps.drop k).Perm (p :: ps) := by
    have := (List.perm_middle (a := p) (l₁ := ps.take k) (l₂ := ps.drop k))
    rwa [List.take_append_drop] at this
  refine ⟨?_, fun q hq => ?_, ?_⟩
  · have e : (ps.take k ++ p :: ps.drop k).length = ps.length + 1 := by rw [hperm.length_eq]; rfl
    rw [e, List.flatMap_append, List.flatMap_cons, ← List.append_assoc]
    exact hr
  · rcases List.mem_cons.1 ((hperm.mem_iff).1 hq) with rfl | hq
    · exact hp
    · exact h.each q hq
  · refine ((hperm.flatMap_right _).nodup_iff).2 ?_
    rw [List.flatMap_cons]
    exact List.nodup_append.2 ⟨hn, h.nodup, fun a ha b hb e => hd a ha (e ▸ hb)⟩
/-- One of them turned in place. -/
theorem OwnCs.set {w w' : World} {B : Nat} {v : Value} {ps : List CellP} (h : OwnCs w B v ps) {i : Nat} (hi : i < ps.length) {T : List Nat} {d : CellD} (ht : TurnO T w w') (hT : ∀ g ∈ T, g ∈ ps[i].1.blks ∨ v.ownBlock = some g ∨ w.heap.size ≤ g)
    (hr : w'.ownsRow B 46 6 v ps.length ((ps.set i (ps[i].1, d)).flatMap rowP)) (hp : OwnC w' B ps[i].1 d) : OwnCs w' B v (ps.set i (ps[i].1, d)) := by
  have hb : (ps.set i (ps[i].1, d)).flatMap (fun p => p.1.blks) = ps.flatMap fun p => p.1.blks := by
    rw [List.flatMap_def, List.flatMap_def, List.map_set]
    congr 1
    refine List.ext_getElem (by simp) fun j h1 h2 => ?_
    rw [List.getElem_set]
    split
    · rename_i e
      subst e
      simp
    · rfl
  refine ⟨by simpa using hr, fun q hq => ?_, by rw [hb]; exact h.nodup⟩
  obtain ⟨j, hj, rfl⟩ := List.mem_iff_getElem.1 hq
  have hj' : j < ps.length := by simpa using hj
  rw [List.getElem_set]
  split
  · exact hp
  · rename_i hne
    refine (h.each ps[j] (List.getElem_mem hj')).turn ht fun g hg hgT => ?_
    have hlt := (h.each ps[j] (List.getElem_mem hj')).lt g hg
    rcases hT g hgT with h1 | h1 | h1
    · have hnd := h.nodup
      rw [List.flatMap_def, List.nodup_iff_pairwise_ne] at hnd
      have := (List.pairwise_flatten.1 hnd).2
      rw [List.pairwise_iff_getElem] at this
      rcases Nat.lt_or_gt_of_ne hne with hlt | hlt
      · exact this i j (by simpa using hi) (by simpa using hj') hlt g (by simpa using h1) g (by simpa using hg) rfl
      · exact this j i (by simpa using hj') (by simpa using hi) hlt g (by simpa using hg) g (by simpa using h1) rfl
    · exact h.out h1 (List.mem_flatMap.2 ⟨ps[j], List.getElem_mem hj', hg⟩)
    · omega

/-- 'own': told so. -/
theorem own_is (c : CellD) (vl vs vm vx : Value) (w : World) (hl : ValsSl w vl c.l) (hs : WidesSl w vs c.sums) (hm : IntsSl w vm c.mins) (hx : IntsSl w vx c.maxs) (b1 : c.l.length ≤ 1000000) (b2 : c.sums.length ≤ 1000000) (b3 : c.mins.length ≤ 1000000) (b4 : c.maxs.length ≤ 1000000) :
    Calls Try.prog 61 #[.agg #[.int .i64 c.t, vl, .int .i64 c.n, vs, vm, vx]] w fun e w' => ∃ u : CellV, e = .returned (.agg #[.int .i64 c.t, u.vl, .int .i64 c.n, u.vs, u.vm, u.vx]) ∧ OwnC w' w.heap.size u c ∧ u.blks.Nodup ∧ Below w.heap.size w w' :=
  (own_any c vl vs vm vx w hl hs hm hx b1 b2 b3 b4).mono fun _ _ h => by
    obtain ⟨ul, us, um, ux, h0, h1, h2, h3, h4, h5, h6⟩ := h
    have ho : OwnC _ _ ⟨ul, us, um, ux⟩ c := ⟨h1, h2, h3, h4⟩
    exact ⟨⟨ul, us, um, ux⟩, h0, ho, ho.nodup h6, h5⟩
end Go.Proofs.Ytdgeinipdphoeaa
/- Rollup: 'add': one cell added to another, in place. -/
namespace Go.Proofs.Ytdgeinipdphoeaa
set_option linter.unusedVariables false
set_option linter.unusedSimpArgs false
set_option maxRecDepth 100000
open Go.ChangeShapes Go.WideShapes Go.ChangeAt Go.RowKit

/-- The first k of a list put together with another one's. -/
def upd (f : Int → Int → Int) : List Int → List Int → Nat → List Int
  | x :: a, y :: b, k + 1 => f x y :: upd f a b k
  | a, _, _ => a
theorem upd_zero (f : Int → Int → Int) (a b : List Int) : upd f a b 0 = a := by cases a <;> cases b <;> rfl
theorem upd_len (f : Int → Int → Int) : ∀ (a b : List Int) (k : Nat), (upd f a b k).length = a.length
  | [], _, _ => by simp [upd]
  | _ :: _, [], _ => by simp [upd]
  | _ :: _, _ :: _, 0 => by simp [upd]
  | _ :: a, _ :: b, k + 1 => by simp [upd, upd_len f a b k]
theorem upd_all (f : Int → Int → Int) : ∀ (a b : List Int), a.length = b.length → upd f a b a.length = List.zipWith f a b
  | [], [], _ => rfl
  | [], _ :: _, h => by simp at h
  | _ :: _, [], h => by simp at h
  | x :: a, y :: b, h => by simp only [List.length_cons, upd, List.zipWith_cons_cons]; rw [upd_all f a b (by simpa using h)]
theorem upd_at (f : Int → Int → Int) : ∀ (a b : List Int) (k : Nat) (h : k < a.length), (upd f a b k)[k]'(by rw [upd_len]; exact h) = a[k]
  | x :: a, [], k, h => by simp [upd]
  | x :: a, y :: b, 0, h => by simp [upd]
  | x :: a, y :: b, k + 1, h => by simp only [upd, List.getElem_cons_succ]; exact upd_at f a b k (by simpa using h)
theorem upd_succ (f : Int → Int → Int) : ∀ (a b : List Int) (k : Nat) (h : k < a.length) (h' : k < b.length), upd f a b (k + 1) = (upd f a b k).set k (f a[k] b[k])
  | x :: a, y :: b, 0, h, h' => by simp [upd, upd_zero]
  | x :: a, y :: b, k + 1, h, h' => by
    rw [upd, upd_succ f a b k (by simpa using h) (by simpa using h')]
    simp [upd]
theorem wcells_set : ∀ (l : List Int) (k : Nat) (n : Int), k < l.length → ((l.flatMap wcells).set (k * 2) (.int .i64 (hiW n))).set (k * 2 + 1) (.int .u64 (loW n)) = (l.set k n).flatMap wcells
  | [], k, _, h => absurd h (Nat.not_lt_zero k)
  | x :: l, 0, n, _ => by simp [wcells]
  | x :: l, k + 1, n, h => by
    have := wcells_set l k n (by simpa using h)
    rw [List.set_cons_succ, List.flatMap_cons, List.flatMap_cons, ← this]
    have e : (k + 1) * 2 = k * 2 + 1 + 1 := by omega
    rw [e]
    simp [wcells]
/-- Two stores into a row of wide numbers. -/
theorem row_wide {w : World} {B g m cap : Nat} {l : List Int} (h : w.ownsRow B 58 2 (.slice (some ⟨g, 0, none⟩) m cap) m (l.flatMap wcells)) {k : Nat} (hk : k < l.length) (n : Int) :
    ((w.setCell ⟨g, k * 2, none⟩ (.int .i64 (hiW n))).setCell ⟨g, k * 2 + 1, none⟩ (.int .u64 (loW n))).ownsRow B 58 2 (.slice (some ⟨g, 0, none⟩) m cap) m ((l.set k n).flatMap wcells) := by
  rw [← wcells_set l k n hk]
  exact ((h.stored (k * 2) _).1.stored (k * 2 + 1) _).1
theorem row_int {w : World} {B g m cap : Nat} {l : List Int} (h : w.ownsRow B 2 1 (.slice (some ⟨g, 0, none⟩) m cap) m (l.map (Value.int .i64))) {k : Nat} (n : Int) :
    (w.setCell ⟨g, k, none⟩ (.int .i64 n)).ownsRow B 2 1 (.slice (some ⟨g, 0, none⟩) m cap) m ((l.set k n).map (Value.int .i64)) := by
  rw [List.map_set]
  exact (h.stored k _).1
/-- A row of some elements lies in a block. -/
theorem row_some {w : World} {B : Nat} {e : TypeId} {size : Nat} {v : Value} {n : Nat} {xs : List Value} (h : w.ownsRow B e size v n xs) (hn : 0 < n) : ∃ g cap, v = .slice (some ⟨g, 0, none⟩) n cap ∧ g < w.heap.size ∧ B ≤ g := by
  have hl := h
  rcases h.2 with ⟨_, h0⟩ | ⟨g, cap, cur, rfl, hb, hg, _⟩
  · omega
  · exact ⟨g, cap, rfl, blk_lt hg, hb⟩
theorem row_wide_at {w : World} {B g m cap : Nat} {l : List Int} (h : w.ownsRow B 58 2 (.slice (some ⟨g, 0, none⟩) m cap) m (l.flatMap wcells)) {k : Nat} (hk : k < l.length) :
    w.cell? ⟨g, k * 2, none⟩ = some (.int .i64 (hiW l[k])) ∧ w.cell? ⟨g, k * 2 + 1, none⟩ = some (.int .u64 (loW l[k])) ∧ (∀ o, w.frozen? ⟨g, o, none⟩ = false) := by
  have hl : l.length = m := by have := h.1; rw [flat_len 2 _ wcells_len] at this; omega
  exact ⟨(h.cellAt _ (by omega)).trans (wides_at hk).1, (h.cellAt _ (by omega)).trans (wides_at hk).2, fun o => h.frozenAt o⟩
theorem row_int_at {w : World} {B g m cap : Nat} {l : List Int} (h : w.ownsRow B 2 1 (.slice (some ⟨g, 0, none⟩) m cap) m (l.map (Value.int .i64))) {k : Nat} (hk : k < l.length) :
    w.cell? ⟨g, k, none⟩ = some (.int .i64 l[k]) ∧ (∀ o, w.frozen? ⟨g, o, none⟩ = false) := by
  have hl : l.length = m := by have := h.1; simp at this; exact this
  refine ⟨(h.cellAt _ (by omega)).trans ?_, fun o => h.frozenAt o⟩
  rw [List.getElem?_map, List.getElem?_eq_getElem hk]; rfl

/-- Two cells' lists lie in blocks of their own. -/
structure ApartC (u u' : CellV) : Prop where
  ss : ∀ g, u.vs.ownBlock = some g → ¬ u'.vs.ownBlock = some g
  mx : ∀ g, u.vm.ownBlock = some g → ¬ u.vx.ownBlock = some g
  mm : ∀ g, u.vm.ownBlock = some g → ¬ u'.vm.ownBlock = some g
  mx' : ∀ g, u.vm.ownBlock = some g → ¬ u'.vx.ownBlock = some g
  xm : ∀ g, u.vx.ownBlock = some g → ¬ u'.vm.ownBlock = some g
  xx : ∀ g, u.vx.ownBlock = some g → ¬ u'.vx.ownBlock = some g
theorem mem_blks {u : CellV} {g : Nat} : g ∈ u.blks ↔ u.vl.ownBlock = some g ∨ u.vs.ownBlock = some g ∨ u.vm.ownBlock = some g ∨ u.vx.ownBlock = some g := by
  simp [CellV.blks, List.mem_filterMap]
theorem ApartC.of {u u' : CellV} (hn : u.blks.Nodup) (hd : ∀ g ∈ u.blks, g ∉ u'.blks) : ApartC u u' := by
  have hd' := fun g h h' => hd g (mem_blks.2 h) (mem_blks.2 h')
  refine ⟨fun g h h' => hd' g (.inr (.inl h)) (.inr (.inl h')), fun g h h' => ?_, fun g h h' => hd' g (.inr (.inr (.inl h))) (.inr (.inr (.inl h'))), fun g h h' => hd' g (.inr (.inr (.inl h))) (.inr (.inr (.inr h'))), fun g h h' => hd' g (.inr (.inr (.inr h))) (.inr (.inr (.inl h'))), fun g h h' => hd' g (.inr (.inr (.inr h))) (.inr (.inr (.inr h')))⟩
  unfold CellV.blks at hn
  cases h1 : u.vl.ownBlock <;> cases h2 : u.vs.ownBlock <;> simp_all

/-- How a cell's block lies while it is added to. -/
structure AddAt (p box : Nat) (T : List Nat) (B B' : Nat) (c d : CellD) (u u' : CellV) (w0 : World) (i j : Nat) (w : World) : Prop where
  blk : w.heap[p]? = some (.cells #[.int .i64 c.t, u.vl, .int .i64 (c.n + d.n), u.vs, u.vm, u.vx] 87 (0, 0))
  box : w.heap[box]? = some (.cells #[.int .i64 d.t, u'.vl, .int .i64 d.n, u'.vs, u'.vm, u'.vx] 46 (0, 0))
  l : w.ownsRow B 54 2 u.vl c.l.length (c.l.flatMap ValD.cells)
  s : w.ownsRow B 58 2 u.vs c.sums.length ((upd (· + ·) c.sums d.sums i).flatMap wcells)
  m : w.ownsRow B 2 1 u.vm c.mins.length ((upd min c.mins d.mins j).map (Value.int .i64))
  x : w.ownsRow B 2 1 u.vx c.maxs.length ((upd max c.maxs d.maxs j).map (Value.int .i64))
  d : OwnC w B' u' d
  turn : TurnO T w0 w
section
variable {p box B B' i j : Nat} {T : List Nat} {c d : CellD} {u u' : CellV} {w0 w : World}
theorem AddAt.below {w' : World} (h : AddAt p box T B B' c d u u' w0 i j w) (hb : Below w.heap.size w w') : AddAt p box T B B' c d u u' w0 i j w' :=
  ⟨blk_below h.blk hb, blk_below h.box hb, row_below h.l hb, row_below h.s hb, row_below h.m hb, row_below h.x hb, h.d.turn (.of (T := []) hb) (by simp), h.turn.step hb⟩
theorem turn_set (w : World) (b o : Nat) (v : Value) : TurnO [b] w (w.setCell ⟨b, o, none⟩ v) := (TurnO.refl _ _).setCell (.inl (by simp)) v
theorem AddAt.wide {g m cap : Nat} (h : AddAt p box T B B' c d u u' w0 i j w) (ha : ApartC u u') (hg : u.vs = .slice (some ⟨g, 0, none⟩) m cap) (hi : i < c.sums.length) (hi' : i < d.sums.length) (hT : g ∈ T) :
    AddAt p box T B B' c d u u' w0 (i + 1) j ((w.setCell ⟨g, i * 2, none⟩ (.int .i64 (hiW (c.sums[i] + d.sums[i])))).setCell ⟨g, i * 2 + 1, none⟩ (.int .u64 (loW (c.sums[i] + d.sums[i])))) := by
  have ho : u.vs.ownBlock = some g := by rw [hg]; rfl
  obtain ⟨cur, hcur⟩ := row_type h.s ho
  have hm : m = c.sums.length := by
    rcases h.s.2 with ⟨e, _⟩ | ⟨g', cap', cur', e, _⟩
    · rw [hg] at e; simp at e
    · rw [hg] at e; simp at e; exact e.2.1
  subst hm
  have ht := (turn_set w g (i * 2) (.int .i64 (hiW (c.sums[i] + d.sums[i])))).trans (turn_set _ g (i * 2 + 1) (.int .u64 (loW (c.sums[i] + d.sums[i]))))
  have hp : g ≠ p := fun e => by have := h.blk; rw [← e, hcur] at this; simp at this
  have hb : g ≠ box := fun e => by have := h.box; rw [← e, hcur] at this; simp at this
  refine ⟨ht.blk h.blk (by simpa using hp.symm), ht.blk h.box (by simpa using hb.symm), ht.row h.l ?_, ?_, ht.row h.m ?_, ht.row h.x ?_, h.d.turn ht ?_, h.turn.trans ⟨ht.os, ht.tape, ht.output, ht.size, fun k hk hkT => ht.block k hk (fun hm => hkT (by simp at hm; exact hm ▸ hT))⟩⟩
  · intro q hq hq'
    obtain rfl : q = g := by simpa using hq'
    exact row_ne h.l h.s (by decide) hq ho
  · rw [upd_succ _ _ _ _ hi hi']
    have hs := h.s
    rw [hg] at hs ⊢
    exact row_wide hs (by rw [upd_len]; exact hi) _
  · intro q hq hq'
    obtain rfl : q = g := by simpa using hq'
    exact row_ne h.m h.s (by decide) hq ho
  · intro q hq hq'
    obtain rfl : q = g := by simpa using hq'
    exact row_ne h.x h.s (by decide) hq ho
  · intro q hq hq'
    obtain rfl : q = g := by simpa using hq'
    rcases mem_blks.1 hq with h1 | h1 | h1 | h1
    · exact row_ne h.d.l h.s (by decide) h1 ho
    · exact ha.ss _ ho h1
    · exact row_ne h.d.m h.s (by decide) h1 ho
    · exact row_ne h.d.x h.s (by decide) h1 ho
theorem AddAt.ints {g m cap g' m' cap' : Nat} (h : AddAt p box T B B' c d u u' w0 i j w) (ha : ApartC u u') (hg : u.vm = .slice (some ⟨g, 0, none⟩) m cap) (hg' : u.vx = .slice (some ⟨g', 0, none⟩) m' cap') (hj : j < c.mins.length) (hj' : j < d.mins.length) (hk : j < c.maxs.length) (hk' : j < d.maxs.length) (hT : g ∈ T) (hT' : g' ∈ T) :
    AddAt p box T B B' c d u u' w0 i (j + 1) ((w.setCell ⟨g, j, none⟩ (.int .i64 (min c.mins[j] d.mins[j]))).setCell ⟨g', j, none⟩ (.int .i64 (max c.maxs[j] d.maxs[j]))) := by
  have ho : u.vm.ownBlock = some g := by rw [hg]; rfl
  have ho' : u.vx.ownBlock = some g' := by rw [hg']; rfl
  obtain ⟨cur, hcur⟩ := row_type h.m ho
  obtain ⟨cur', hcur'⟩ := row_type h.x ho'
  have hgg : g ≠ g' := fun e => ha.mx g ho (e ▸ ho')
  have hm : m = c.mins.length := by
    rcases h.m.2 with ⟨e, _⟩ | ⟨_, _, _, e, _⟩
    · rw [hg] at e; simp at e
    · rw [hg] at e; simp at e; exact e.2.1
  have hm' : m' = c.maxs.length := by
    rcases h.x.2 with ⟨e, _⟩ | ⟨_, _, _, e, _⟩
    · rw [hg'] at e; simp at e
    · rw [hg'] at e; simp at e; exact e.2.1
  subst hm
  subst hm'
  have t1 := turn_set w g j (.int .i64 (min c.mins[j] d.mins[j]))
  have t2 := turn_set (w.setCell ⟨g, j, none⟩ (.int .i64 (min c.mins[j] d.mins[j]))) g' j (.int .i64 (max c.maxs[j] d.maxs[j]))
  have ht : TurnO [g, g'] w _ := (t1.mono (T' := [g, g']) (fun k hk => by simp at hk; simp [hk])).trans (t2.mono (fun k hk => by simp at hk; simp [hk]))
  have hp : g ≠ p := fun e => by have := h.blk; rw [← e, hcur] at this; simp at this
  have hb : g ≠ box := fun e => by have := h.box; rw [← e, hcur] at this; simp at this
  have hp' : g' ≠ p := fun e => by have := h.blk; rw [← e, hcur'] at this; simp at this
  have hb' : g' ≠ box := fun e => by have := h.box; rw [← e, hcur'] at this; simp at this
  refine ⟨ht.blk h.blk (by simp [hp.symm, hp'.symm]), ht.blk h.box (by simp [hb.symm, hb'.symm]), ht.row h.l ?_, ht.row h.s ?_, ?_, ?_, h.d.turn ht ?_, h.turn.trans ⟨ht.os, ht.tape, ht.output, ht.size, fun k hk hkT => ht.block k hk (fun hm => hkT (by simp at hm; rcases hm with rfl | rfl <;> assumption))⟩⟩
  · intro q hq hq'
    simp at hq'
    rcases hq' with rfl | rfl
    · exact row_ne h.l h.m (by decide) hq ho
    · exact row_ne h.l h.x (by decide) hq ho'
  · intro q hq hq'
    simp at hq'
    rcases hq' with rfl | rfl
    · exact row_ne h.s h.m (by decide) hq ho
    · exact row_ne h.s h.x (by decide) hq ho'
  · rw [upd_succ _ _ _ _ hj hj']
    have hs := h.m
    rw [hg] at hs ⊢
    exact t2.row (row_int hs _) (fun q hq => by simp [Value.ownBlock] at hq; simp; omega)
  · rw [upd_succ _ _ _ _ hk hk']
    have hs := t1.row h.x (fun q hq hq' => by simp at hq'; rw [ho'] at hq; simp at hq; omega)
    rw [hg'] at hs ⊢
    exact row_int hs _
  · intro q hq hq'
    simp at hq'
    rcases hq' with rfl | rfl
    · rcases mem_blks.1 hq with h1 | h1 | h1 | h1
      · exact row_ne h.d.l h.m (by decide) h1 ho
      · exact row_ne h.d.s h.m (by decide) h1 ho
      · exact ha.mm _ ho h1
      · exact ha.mx' _ ho h1
    · rcases mem_blks.1 hq with h1 | h1 | h1 | h1
      · exact row_ne h.d.l h.x (by decide) h1 ho'
      · exact row_ne h.d.s h.x (by decide) h1 ho'
      · exact ha.xm _ ho' h1
      · exact ha.xx _ ho' h1
end
end Go.Proofs.Ytdgeinipdphoeaa
/- Rollup: the walk of 'add'. -/
namespace Go.Proofs.Ytdgeinipdphoeaa
set_option linter.unusedVariables false
set_option linter.unusedSimpArgs false
set_option maxRecDepth 100000
open Go.ChangeShapes Go.WideShapes Go.ChangeAt Go.RowKit

theorem six_at {w : World} {b : Nat} {x0 x1 x2 x3 x4 x5 : Value} {t : TypeId} (h : w.heap[b]? = some (.cells #[x0, x1, x2, x3, x4, x5] t (0, 0))) : w.cell? ⟨b, 0, none⟩ = some x0 ∧ w.cell? ⟨b, 1, none⟩ = some x1 ∧ w.cell? ⟨b, 2, none⟩ = some x2 ∧ w.cell? ⟨b, 3, none⟩ = some x3 ∧ w.cell? ⟨b, 4, none⟩ = some x4 ∧ w.cell? ⟨b, 5, none⟩ = some x5 :=
  ⟨(blk_cell h).trans rfl, (blk_cell h).trans rfl, (blk_cell h).trans rfl, (blk_cell h).trans rfl, (blk_cell h).trans rfl, (blk_cell h).trans rfl⟩
theorem row_shape {w : World} {B : Nat} {e : TypeId} {size : Nat} {v : Value} {n : Nat} {xs : List Value} (h : w.ownsRow B e size v n xs) : ∃ ao cap, v = .slice ao n cap := by
  rcases h.2 with ⟨rfl, rfl⟩ | ⟨g, cap, cur, hv, _⟩
  · exact ⟨none, 0, rfl⟩
  · exact ⟨_, cap, hv⟩

set_option maxHeartbeats 4000000 in
theorem addTo_any (p B B' : Nat) (c d : CellD) (u u' : CellV) (w : World) (T : List Nat) (m : Nat) (hp : w.heap[p]? = some (.cells #[.int .i64 c.t, u.vl, .int .i64 c.n, u.vs, u.vm, u.vx] 87 (0, 0)))
    (hc : OwnC w B u c) (hd : OwnC w B' u' d) (ha : ApartC u u') (hT : ∀ g, g ∈ u.blks → g ∈ T) (hpT : p ∈ T) (hT' : ∀ g ∈ u'.blks, g ∉ T)
    (l1 : c.sums.length = m) (l2 : c.mins.length = m) (l3 : c.maxs.length = m) (k1 : d.sums.length = m) (k2 : d.mins.length = m) (k3 : d.maxs.length = m) (hm : m ≤ 1000000) (hsum : wrap64 (c.n + d.n) = c.n + d.n) :
    Calls Try.prog 87 #[.pointer (some ⟨p, 0, none⟩), .agg #[.int .i64 d.t, u'.vl, .int .i64 d.n, u'.vs, u'.vm, u'.vx]] w fun e w' => e = .returned (.tuple #[]) ∧ AddAt p w.heap.size T B B' c d u u' w m m w' := by
  have hpl := blk_lt hp
  obtain ⟨al, cl, el⟩ := row_shape hd.l
  obtain ⟨as', cs, es⟩ := row_shape hd.s
  obtain ⟨am, cm, em⟩ := row_shape hd.m
  obtain ⟨ax, cx, ex⟩ := row_shape hd.x
  have h0 : AddAt p w.heap.size T B B' c d u u' w 0 0 ((w.setCell ⟨p, 2, none⟩ (.int .i64 (c.n + d.n))).alloc (.cells #[.int .i64 d.t, u'.vl, .int .i64 d.n, u'.vs, u'.vm, u'.vx] 46)).drew := by
    have ht := turn_set w p 2 (.int .i64 (c.n + d.n))
    have hw : Below (w.setCell ⟨p, 2, none⟩ (.int .i64 (c.n + d.n))).heap.size (w.setCell ⟨p, 2, none⟩ (.int .i64 (c.n + d.n))) ((w.setCell ⟨p, 2, none⟩ (.int .i64 (c.n + d.n))).alloc (.cells #[.int .i64 d.t, u'.vl, .int .i64 d.n, u'.vs, u'.vm, u'.vx] 46)).drew := Below.drew ((Below.refl _ _).alloc (Nat.le_refl _) _)
    have far : ∀ {e : TypeId} {size : Nat} {v : Value} {n : Nat} {xs : List Value} {B : Nat}, w.ownsRow B e size v n xs → e ≠ 87 → ((w.setCell ⟨p, 2, none⟩ (.int .i64 (c.n + d.n))).alloc (.cells #[.int .i64 d.t, u'.vl, .int .i64 d.n, u'.vs, u'.vm, u'.vx] 46)).drew.ownsRow B e size v n xs := fun h he => row_below (ht.row h fun g hg hgp => by
      obtain ⟨cur, h1⟩ := row_type h hg
      obtain rfl : g = p := by simpa using hgp
      rw [hp] at h1
      simp at h1
      exact he h1.2.symm) hw
    refine ⟨?_, heap_at (by simp), far hc.l (by decide), ?_, ?_, ?_, ⟨far hd.l (by decide), far hd.s (by decide), far hd.m (by decide), far hd.x (by decide)⟩, (((TurnO.refl _ _).setCell (.inl hpT) _).alloc _).drew⟩
    · have := blk_below (blk_set (o := 2) (v := .int .i64 (c.n + d.n)) hp) hw
      simpa using this
    · rw [upd_zero]; exact far hc.s (by decide)
    · rw [upd_zero]; exact far hc.m (by decide)
    · rw [upd_zero]; exact far hc.x (by decide)
  have H0 := hid h0; have HA := hid ha; have HT := hid hT
  have HL := hid l1; have HL2 := hid l2; have HL3 := hid l3; have HK1 := hid k1; have HK2 := hid k2; have HK3 := hid k3
  obtain ⟨bl, dl, fl⟩ := row_shape hc.l
  obtain ⟨bs, ds, fs⟩ := row_shape hc.s
  obtain ⟨bm, dm, fm⟩ := row_shape hc.m
  obtain ⟨bx, dx, fx⟩ := row_shape hc.x
  have FL := hid fl; have FS := hid fs; have FM := hid fm; have FX := hid fx; have EL := hid el; have ES := hid es; have EM := hid em; have EX := hid ex
  rw [l1] at fs
  rw [l2] at fm
  rw [l3] at fx
  rw [k1] at es
  rw [k2] at em
  rw [k3] at ex
  rw [fl, fs, fm, fx] at hp
  rw [el, es, em, ex]
  have p2 : w.cell? ⟨p, 2, none⟩ = some (.int .i64 c.n) := (six_at hp).2.2.1
  have p3 : w.cell? ⟨p, 3, none⟩ = some (.slice bs m ds) := (six_at hp).2.2.2.1
  have pf : w.frozen? ⟨p, 2, none⟩ = false := blk_free hp
  rw [el, es, em, ex] at h0
  clear hc hd ha hT hT' l1 l2 l3 k1 k2 k3 el es em ex fl fs fm fx hp h0
  go_enter Try.func87, Try.ntmps87
  go_wp2
  have hS0 : (fun w' : World => w'.cell? ⟨p, 2, none⟩ = some (.int .i64 c.n) ∧ w'.cell? ⟨w.heap.size, 2, none⟩ = some (.int .i64 d.n)) (w.alloc (.cells #[.int .i64 d.t, .slice al d.l.length cl, .int .i64 d.n, .slice as' m cs, .slice am m cm, .slice ax m cx] 46)).drew := ⟨by go_simp, by go_simp⟩
  refine wp_region_some (fun w' : World => w'.cell? ⟨p, 2, none⟩ = some (.int .i64 c.n) ∧ w'.cell? ⟨w.heap.size, 2, none⟩ = some (.int .i64 d.n)) [11] (by kernel_rfl) ?_
  (refine wpMix_take (i := 0) (v := ?_) rfl (by kernel_rfl) (fun _ _ _ h => h) (Or.inl ⟨by rfl, ?_⟩) hS0 ?_; rotate_left 1; (focus (intro w hSw; (try dsimp only at hSw); go_simp; try (with_reducible rfl))); (try simp only [Act.put, List.setIfInBounds_toArray, List.set_cons_zero, List.set_cons_succ]))
  (refine wpMix_take (i := 1) (v := ?_) rfl (by kernel_rfl) (fun _ _ _ h => h) (Or.inl ⟨by rfl, ?_⟩) hS0 ?_; rotate_left 1; (focus (intro w hSw; (try dsimp only at hSw); go_simp; try (with_reducible rfl))); (try simp only [Act.put, List.setIfInBounds_toArray, List.set_cons_zero, List.set_cons_succ]))
  (refine wpMix_take (i := 2) (v := ?_) rfl (by kernel_rfl) (fun _ _ _ h => h) (Or.inl ⟨by rfl, ?_⟩) hS0 ?_; rotate_left 1; (focus (intro w hSw; (try dsimp only at hSw); go_simp; try (with_reducible rfl))); (try simp only [Act.put, List.setIfInBounds_toArray, List.set_cons_zero, List.set_cons_succ]))
  (refine wpMix_take (i := 3) (v := ?_) rfl (by kernel_rfl) (fun _ _ _ h => h) (Or.inl ⟨by rfl, ?_⟩) hS0 ?_; rotate_left 1; (focus (intro w hSw; (try dsimp only at hSw); go_simp; try (with_reducible rfl))); (try simp only [Act.put, List.setIfInBounds_toArray, List.set_cons_zero, List.set_cons_succ]))
  (refine wpMix_take (i := 4) (v := ?_) rfl (by kernel_rfl) (fun _ _ _ h => h) (Or.inl ⟨by rfl, ?_⟩) hS0 ?_; rotate_left 1; (focus (intro w hSw; (try dsimp only at hSw); go_simp; try (with_reducible rfl))); (try simp only [Act.put, List.setIfInBounds_toArray, List.set_cons_zero, List.set_cons_succ]))
  (refine wpMix_take (i := 5) (v := ?_) rfl (by kernel_rfl) (fun _ _ _ h => h) (Or.inl ⟨by rfl, ?_⟩) hS0 ?_; rotate_left 1; (focus (intro w hSw; (try dsimp only at hSw); go_simp; try (with_reducible rfl))); (try simp only [Act.put, List.setIfInBounds_toArray, List.set_cons_zero, List.set_cons_succ]))
  (refine wpMix_take (i := 6) (v := ?_) rfl (by kernel_rfl) (fun _ _ _ h => h) (Or.inl ⟨by rfl, ?_⟩) hS0 ?_; rotate_left 1; (focus (intro w hSw; (try dsimp only at hSw); go_simp; try (with_reducible rfl))); (try simp only [Act.put, List.setIfInBounds_toArray, List.set_cons_zero, List.set_cons_succ]))
  (refine wpMix_take (i := 7) (v := ?_) rfl (by kernel_rfl) (fun _ _ _ h => h) (Or.inl ⟨by rfl, ?_⟩) hS0 ?_; rotate_left 1; (focus (intro w hSw; (try dsimp only at hSw); go_simp; try (with_reducible rfl))); (try simp only [Act.put, List.setIfInBounds_toArray, List.set_cons_zero, List.set_cons_succ]))
  (refine wpMix_take (i := 8) (v := ?_) rfl (by kernel_rfl) (fun _ _ _ h => h) (Or.inl ⟨by rfl, ?_⟩) hS0 ?_; rotate_left 1; (focus (intro w hSw; (try dsimp only at hSw); go_simp; try (with_reducible rfl))); (try simp only [Act.put, List.setIfInBounds_toArray, List.set_cons_zero, List.set_cons_succ]))
  (refine wpMix_take (i := 9) (v := ?_) rfl (by kernel_rfl) (fun _ _ _ h => h) (Or.inl ⟨by rfl, ?_⟩) hS0 ?_; rotate_left 1; (focus (intro w hSw; (try dsimp only at hSw); go_simp; try (with_reducible rfl))); (try simp only [Act.put, List.setIfInBounds_toArray, List.set_cons_zero, List.set_cons_succ]))
  (refine wpMix_take (i := 10) (v := ?_) rfl (by kernel_rfl) (fun _ _ _ h => h) (Or.inl ⟨by rfl, ?_⟩) hS0 ?_; rotate_left 1; (focus (intro w hSw; (try dsimp only at hSw); go_simp; try (with_reducible rfl))); (try simp only [Act.put, List.setIfInBounds_toArray, List.set_cons_zero, List.set_cons_succ]))
  refine wpMix_rest [11] (by kernel_rfl) ?_
  simp only [opsAt, List.flatMap_cons, List.flatMap_nil, List.take_succ_cons, List.take_zero, List.drop_succ_cons, List.drop_zero, List.append_nil, List.cons_append, List.nil_append]
  go_wp2
  have h1 := H0.out
  rw [EL.out, ES.out, EM.out, EX.out, HK1.out, HK2.out, HK3.out] at h1
  have H1 := hid h1
  clear hS0 p2 p3 pf h1
  go_loopw [22] (fun i wr => ∃ k : Nat, k ≤ m ∧ i = .int .i64 k ∧ AddAt p w.heap.size T B B' c d u u' w k k wr) (fun i _ => m - (intOf i).toNat)
  case atStart => exact ⟨0, Nat.zero_le _, rfl, H1.out⟩
  case round =>
    obtain ⟨k, hk, rfl, hat⟩ := hrel
    have HW := hid hat
    by_cases hlt : k < m
    · have i1 : k < c.sums.length := by rw [HL.out]; exact hlt
      have i2 : k < c.mins.length := by rw [HL2.out]; exact hlt
      have i3 : k < c.maxs.length := by rw [HL3.out]; exact hlt
      have i4 : k < d.sums.length := by rw [HK1.out]; exact hlt
      have i5 : k < d.mins.length := by rw [HK2.out]; exact hlt
      have i6 : k < d.maxs.length := by rw [HK3.out]; exact hlt
      obtain ⟨gs, vs, e1, zs, _⟩ := row_some hat.s (by omega)
      obtain ⟨gm, vm, e2, zm, _⟩ := row_some hat.m (by omega)
      obtain ⟨gx, vx, e3, zx, _⟩ := row_some hat.x (by omega)
      obtain ⟨hs, ys, e4, zs', _⟩ := row_some hat.d.s (by omega)
      obtain ⟨hm', ym, e5, zm', _⟩ := row_some hat.d.m (by omega)
      obtain ⟨hx, yx, e6, zx', _⟩ := row_some hat.d.x (by omega)
      have G : gs ∈ T ∧ gm ∈ T ∧ gx ∈ T := ⟨HT.out _ (mem_blks.2 (.inr (.inl (by rw [e1]; rfl)))), HT.out _ (mem_blks.2 (.inr (.inr (.inl (by rw [e2]; rfl))))), HT.out _ (mem_blks.2 (.inr (.inr (.inr (by rw [e3]; rfl)))))⟩
      obtain ⟨s1, s2, s3⟩ := row_wide_at (e1 ▸ hat.s) (k := k) (by rw [upd_len]; exact i1)
      obtain ⟨s4, s5, s6⟩ := row_wide_at (e4 ▸ hat.d.s) (k := k) i4
      rw [upd_at _ _ _ _ i1] at s1 s2
      obtain ⟨q0, q1, q2, q3, q4, q5⟩ := six_at hat.blk
      obtain ⟨b0, b1, b2, b3, b4, b5⟩ := six_at hat.box
      rw [e1, HL.out] at q3
      rw [e4, HK1.out] at b3
      have HADD := hid (fun W => add_any c.sums[k] d.sums[k] W)
      have HST := hid (fun (W : World) (h : AddAt p w.heap.size T B B' c d u u' w k k W) => h.wide HA.out e1 i1 i4 G.1)
      have E1 := hid e1; have E2 := hid e2; have E3 := hid e3; have E4 := hid e4; have E5 := hid e5; have E6 := hid e6; have HG := hid G
      have I1 := hid i1; have I2 := hid i2; have I3 := hid i3; have I4 := hid i4; have I5 := hid i5; have I6 := hid i6
      generalize hN : c.sums[k] + d.sums[k] = N at HADD HST
      have g1 : (0 : Int) ≤ (k : Int) := Int.natCast_nonneg _
      have g2 : (k : Int) < (m : Int) := by omega
      generalize hiW c.sums[k] = x1 at *
      generalize loW c.sums[k] = x2 at *
      generalize hiW d.sums[k] = y1 at *
      generalize loW d.sums[k] = y2 at *
      generalize hiW N = n1 at *
      generalize loW N = n2 at *
      clear e1 e2 e3 e4 e5 e6 G i1 i2 i3 i4 i5 i6 hat q0 q1 q2 q4 q5 b0 b1 b2 b4 b5 hN
      go_wp2
      have hS0 : (fun w' : World => w'.cell? ⟨p, 3, none⟩ = some (.slice (some ⟨gs, 0, none⟩) m vs) ∧ w'.cell? ⟨w.heap.size, 3, none⟩ = some (.slice (some ⟨hs, 0, none⟩) m ys) ∧ w'.cell? ⟨gs, k * 2, none⟩ = some (.int .i64 x1) ∧ w'.cell? ⟨gs, k * 2 + 1, none⟩ = some (.int .u64 x2) ∧ w'.cell? ⟨hs, k * 2, none⟩ = some (.int .i64 y1) ∧ w'.cell? ⟨hs, k * 2 + 1, none⟩ = some (.int .u64 y2)) wr.drew := ⟨q3, b3, s1, s2, s4, s5⟩
      refine wp_region_some (fun w' : World => w'.cell? ⟨p, 3, none⟩ = some (.slice (some ⟨gs, 0, none⟩) m vs) ∧ w'.cell? ⟨w.heap.size, 3, none⟩ = some (.slice (some ⟨hs, 0, none⟩) m ys) ∧ w'.cell? ⟨gs, k * 2, none⟩ = some (.int .i64 x1) ∧ w'.cell? ⟨gs, k * 2 + 1, none⟩ = some (.int .u64 x2) ∧ w'.cell? ⟨hs, k * 2, none⟩ = some (.int .i64 y1) ∧ w'.cell? ⟨hs, k * 2 + 1, none⟩ = some (.int .u64 y2)) [20, 21] (by kernel_rfl) ?_
      (refine wpMix_take (i := 0) (v := ?_) rfl (by kernel_rfl) (fun _ _ _ h => h) (Or.inl ⟨by rfl, ?_⟩) hS0 ?_; rotate_left 1; (focus (intro w hSw; (try dsimp only at hSw); go_simp; try (with_reducible rfl))); (try simp only [Act.put, List.setIfInBounds_toArray, List.set_cons_zero, List.set_cons_succ]))
      (refine wpMix_take (i := 1) (v := ?_) rfl (by kernel_rfl) (fun _ _ _ h => h) (Or.inl ⟨by rfl, ?_⟩) hS0 ?_; rotate_left 1; (focus (intro w hSw; (try dsimp only at hSw); go_simp; try (with_reducible rfl))); (try simp only [Act.put, List.setIfInBounds_toArray, List.set_cons_zero, List.set_cons_succ]))
      (refine wpMix_take (i := 2) (v := ?_) rfl (by kernel_rfl) (fun _ _ _ h => h) (Or.inl ⟨by rfl, ?_⟩) hS0 ?_; rotate_left 1; (focus (intro w hSw; (try dsimp only at hSw); go_simp; try (with_reducible rfl))); (try simp only [Act.put, List.setIfInBounds_toArray, List.set_cons_zero, List.set_cons_succ]))
      (refine wpMix_take (i := 3) (v := ?_) rfl (by kernel_rfl) (fun _ _ _ h => h) (Or.inl ⟨by rfl, ?_⟩) hS0 ?_; rotate_left 1; (focus (intro w hSw; (try dsimp only at hSw); go_simp; try (with_reducible rfl))); (try simp only [Act.put, List.setIfInBounds_toArray, List.set_cons_zero, List.set_cons_succ]))
      (refine wpMix_take (i := 4) (v := ?_) rfl (by kernel_rfl) (fun _ _ _ h => h) (Or.inl ⟨by rfl, ?_⟩) hS0 ?_; rotate_left 1; (focus (intro w hSw; (try dsimp only at hSw); go_simp; try (with_reducible rfl))); (try simp only [Act.put, List.setIfInBounds_toArray, List.set_cons_zero, List.set_cons_succ]))
      (refine wpMix_take (i := 5) (v := ?_) rfl (by kernel_rfl) (fun _ _ _ h => h) (Or.inl ⟨by rfl, ?_⟩) hS0 ?_; rotate_left 1; (focus (intro w hSw; (try dsimp only at hSw); go_simp; try (with_reducible rfl))); (try simp only [Act.put, List.setIfInBounds_toArray, List.set_cons_zero, List.set_cons_succ]))
      (refine wpMix_take (i := 6) (v := ?_) rfl (by kernel_rfl) (fun _ _ _ h => h) (Or.inl ⟨by rfl, ?_⟩) hS0 ?_; rotate_left 1; (focus (intro w hSw; (try dsimp only at hSw); go_simp; try (with_reducible rfl))); (try simp only [Act.put, List.setIfInBounds_toArray, List.set_cons_zero, List.set_cons_succ]))
      (refine wpMix_take (i := 7) (v := ?_) rfl (by kernel_rfl) (fun _ _ _ h => h) (Or.inl ⟨by rfl, ?_⟩) hS0 ?_; rotate_left 1; (focus (intro w hSw; (try dsimp only at hSw); go_simp; try (with_reducible rfl))); (try simp only [Act.put, List.setIfInBounds_toArray, List.set_cons_zero, List.set_cons_succ]))
      (refine wpMix_take (i := 8) (v := ?_) rfl (by kernel_rfl) (fun _ _ _ h => h) (Or.inl ⟨by rfl, ?_⟩) hS0 ?_; rotate_left 1; (focus (intro w hSw; (try dsimp only at hSw); go_simp; try (with_reducible rfl))); (try simp only [Act.put, List.setIfInBounds_toArray, List.set_cons_zero, List.set_cons_succ]))
      (refine wpMix_take (i := 9) (v := ?_) rfl (by kernel_rfl) (fun _ _ _ h => h) (Or.inl ⟨by rfl, ?_⟩) hS0 ?_; rotate_left 1; (focus (intro w hSw; (try dsimp only at hSw); go_simp; try (with_reducible rfl))); (try simp only [Act.put, List.setIfInBounds_toArray, List.set_cons_zero, List.set_cons_succ]))
      (refine wpMix_take (i := 10) (v := ?_) rfl (by kernel_rfl) (fun _ _ _ h => h) (Or.inl ⟨by rfl, ?_⟩) hS0 ?_; rotate_left 1; (focus (intro w hSw; (try dsimp only at hSw); go_simp; try (with_reducible rfl))); (try simp only [Act.put, List.setIfInBounds_toArray, List.set_cons_zero, List.set_cons_succ]))
      (refine wpMix_take (i := 11) (v := ?_) rfl (by kernel_rfl) (fun _ _ _ h => h) (Or.inl ⟨by rfl, ?_⟩) hS0 ?_; rotate_left 1; (focus (intro w hSw; (try dsimp only at hSw); go_simp; try (with_reducible rfl))); (try simp only [Act.put, List.setIfInBounds_toArray, List.set_cons_zero, List.set_cons_succ]))
      (refine wpMix_take (i := 12) (v := ?_) rfl (by kernel_rfl) (fun _ _ _ h => h) (Or.inl ⟨by rfl, ?_⟩) hS0 ?_; rotate_left 1; (focus (intro w hSw; (try dsimp only at hSw); go_simp; try (with_reducible rfl))); (try simp only [Act.put, List.setIfInBounds_toArray, List.set_cons_zero, List.set_cons_succ]))
      (refine wpMix_take (i := 13) (v := ?_) rfl (by kernel_rfl) (fun _ _ _ h => h) (Or.inl ⟨by rfl, ?_⟩) hS0 ?_; rotate_left 1; (focus (intro w hSw; (try dsimp only at hSw); go_simp; try (with_reducible rfl))); (try simp only [Act.put, List.setIfInBounds_toArray, List.set_cons_zero, List.set_cons_succ]))
      (refine wpMix_take (i := 14) (v := ?_) rfl (by kernel_rfl) (fun _ _ _ h => h) (Or.inl ⟨by rfl, ?_⟩) hS0 ?_; rotate_left 1; (focus (intro w hSw; (try dsimp only at hSw); go_simp; try (with_reducible rfl))); (try simp only [Act.put, List.setIfInBounds_toArray, List.set_cons_zero, List.set_cons_succ]))
      (refine wpMix_take (i := 15) (v := ?_) rfl (by kernel_rfl) (fun _ _ _ h => h) (Or.inl ⟨by rfl, ?_⟩) hS0 ?_; rotate_left 1; (focus (intro w hSw; (try dsimp only at hSw); go_simp; try (with_reducible rfl))); (try simp only [Act.put, List.setIfInBounds_toArray, List.set_cons_zero, List.set_cons_succ]))
      (refine wpMix_take (i := 16) (v := ?_) rfl (by kernel_rfl) (fun _ _ _ h => h) (Or.inl ⟨by rfl, ?_⟩) hS0 ?_; rotate_left 1; (focus (intro w hSw; (try dsimp only at hSw); go_simp; try (with_reducible rfl))); (try simp only [Act.put, List.setIfInBounds_toArray, List.set_cons_zero, List.set_cons_succ]))
      (refine wpMix_take (i := 17) (v := ?_) rfl (by kernel_rfl) (fun _ _ _ h => h) (Or.inl ⟨by rfl, ?_⟩) hS0 ?_; rotate_left 1; (focus (intro w hSw; (try dsimp only at hSw); go_simp; try (with_reducible rfl))); (try simp only [Act.put, List.setIfInBounds_toArray, List.set_cons_zero, List.set_cons_succ]))
      (refine wpMix_take (i := 18) (v := ?_) rfl (by kernel_rfl) (fun _ _ _ h => h) (Or.inl ⟨by rfl, ?_⟩) hS0 ?_; rotate_left 1; (focus (intro w hSw; (try dsimp only at hSw); go_simp; try (with_reducible rfl))); (try simp only [Act.put, List.setIfInBounds_toArray, List.set_cons_zero, List.set_cons_succ]))
      refine wpMix_next (t := 19) (by kernel_rfl) ?_
      simp only [opsAt, List.flatMap_cons, List.flatMap_nil, List.take_succ_cons, List.take_zero, List.drop_succ_cons, List.drop_zero, List.append_nil, List.cons_append, List.nil_append]
      go_wp2_with (go_at_call 98; go_loud ((with_reducible refine (HADD.out _).mono ?_); rintro e w1 ⟨rfl, hb1⟩))
      replace hb1 : Below wr.heap.size wr w1 := (Below.drew (Below.refl _ _)).trans hb1
      have hat1 := HW.out.below hb1
      refine ⟨⟨cell_step q3 hb1, cell_step b3 hb1, cell_step s1 hb1, cell_step s2 hb1, cell_step s4 hb1, cell_step s5 hb1⟩, ?_⟩
      refine wpMix_rest [20, 21] (by kernel_rfl) ?_
      simp only [opsAt, List.flatMap_cons, List.flatMap_nil, List.take_succ_cons, List.take_zero, List.drop_succ_cons, List.drop_zero, List.append_nil, List.cons_append, List.nil_append]
      have t1 := cell_step s1 hb1
      have t2 := cell_step s2 hb1
      have t3 : w1.frozen? ⟨gs, k * 2, none⟩ = false := (hb1.frozen (p := ⟨gs, k * 2, none⟩) zs).trans (s3 _)
      have t4 : w1.frozen? ⟨gs, k * 2 + 1, none⟩ = false := (hb1.frozen (p := ⟨gs, k * 2 + 1, none⟩) zs).trans (s3 _)
      have hat2 := HST.out _ hat1
      have HA2 := hid hat2
      clear hS0 HW q3 b3 s1 s2 s3 s4 s5 s6 hb1 hat1 hat2 HST HADD
      go_wp2
      obtain ⟨W2, hW2⟩ : ∃ W2, ((w1.setCell ⟨gs, k * 2, none⟩ (.int .i64 n1)).setCell ⟨gs, k * 2 + 1, none⟩ (.int .u64 n2)) = W2 := ⟨_, rfl⟩
      rw [hW2] at HA2 ⊢
      clear hW2 t1 t2 t3 t4
      have hat := HA2.out
      have hz2 := hat.turn.size
      obtain ⟨zm1, zx1, zm1', zx1'⟩ : gm < W2.heap.size ∧ gx < W2.heap.size ∧ hm' < W2.heap.size ∧ hx < W2.heap.size := ⟨(hat.m.lt gm (by rw [E2.out]; rfl)).2, (hat.x.lt gx (by rw [E3.out]; rfl)).2, (hat.d.m.lt hm' (by rw [E5.out]; rfl)).2, (hat.d.x.lt hx (by rw [E6.out]; rfl)).2⟩
      obtain ⟨s1, s3⟩ := row_int_at (E2.out ▸ hat.m) (k := k) (by rw [upd_len]; exact I2.out)
      obtain ⟨s2, s4⟩ := row_int_at (E3.out ▸ hat.x) (k := k) (by rw [upd_len]; exact I3.out)
      obtain ⟨s5, s6⟩ := row_int_at (E5.out ▸ hat.d.m) (k := k) I5.out
      obtain ⟨s7, s8⟩ := row_int_at (E6.out ▸ hat.d.x) (k := k) I6.out
      rw [upd_at _ _ _ _ I2.out] at s1
      rw [upd_at _ _ _ _ I3.out] at s2
      obtain ⟨q0, q1, q2, q3, q4, q5⟩ := six_at hat.blk
      obtain ⟨b0, b1, b2, b3, b4, b5⟩ := six_at hat.box
      rw [E2.out, HL2.out] at q4
      rw [E3.out, HL3.out] at q5
      rw [E5.out, HK2.out] at b4
      rw [E6.out, HK3.out] at b5
      have f1 := s3 k
      have f2 := s4 k
      have HST := hid (hat.ints HA.out E2.out E3.out I2.out I5.out I3.out I6.out HG.out.2.1 HG.out.2.2)
      have HN : Hid (gm ≠ p ∧ gm ≠ w.heap.size) := ⟨fun e => by obtain ⟨cur, h1⟩ := row_type hat.m (by rw [E2.out]; rfl); have h2 := hat.blk; rw [← e, h1] at h2; simp at h2, fun e => by obtain ⟨cur, h1⟩ := row_type hat.m (by rw [E2.out]; rfl); have h2 := hat.box; rw [← e, h1] at h2; simp at h2⟩
      generalize c.mins[k]'I2.out = x1 at *
      generalize d.mins[k]'I5.out = x2 at *
      generalize c.maxs[k]'I3.out = x3 at *
      generalize d.maxs[k]'I6.out = x4 at *
      have im := ite_min
      have ix := ite_max
      clear hat q0 q1 q2 q3 b0 b1 b2 b3 s3 s4 s6 s8 HA2
      have hS0 : (fun w' : World => w'.cell? ⟨p, 4, none⟩ = some (.slice (some ⟨gm, 0, none⟩) m vm) ∧ w'.cell? ⟨p, 5, none⟩ = some (.slice (some ⟨gx, 0, none⟩) m vx) ∧ w'.cell? ⟨w.heap.size, 4, none⟩ = some (.slice (some ⟨hm', 0, none⟩) m ym) ∧ w'.cell? ⟨w.heap.size, 5, none⟩ = some (.slice (some ⟨hx, 0, none⟩) m yx) ∧ w'.cell? ⟨gm, k, none⟩ = some (.int .i64 x1) ∧ w'.cell? ⟨gx, k, none⟩ = some (.int .i64 x3) ∧ w'.cell? ⟨hm', k, none⟩ = some (.int .i64 x2) ∧ w'.cell? ⟨hx, k, none⟩ = some (.int .i64 x4)) W2.drew := ⟨q4, q5, b4, b5, s1, s2, s5, s7⟩
      refine wp_region_two (fun w' : World => w'.cell? ⟨p, 4, none⟩ = some (.slice (some ⟨gm, 0, none⟩) m vm) ∧ w'.cell? ⟨p, 5, none⟩ = some (.slice (some ⟨gx, 0, none⟩) m vx) ∧ w'.cell? ⟨w.heap.size, 4, none⟩ = some (.slice (some ⟨hm', 0, none⟩) m ym) ∧ w'.cell? ⟨w.heap.size, 5, none⟩ = some (.slice (some ⟨hx, 0, none⟩) m yx) ∧ w'.cell? ⟨gm, k, none⟩ = some (.int .i64 x1) ∧ w'.cell? ⟨gx, k, none⟩ = some (.int .i64 x3) ∧ w'.cell? ⟨hm', k, none⟩ = some (.int .i64 x2) ∧ w'.cell? ⟨hx, k, none⟩ = some (.int .i64 x4)) (fun _ => True) [41, 42, 43] [42, 43] (by kernel_rfl) ?_
      (refine wpMu_take1 (i := 0) (v := ?_) rfl (by kernel_rfl) (fun _ _ _ h => h) (Or.inl ⟨by rfl, ?_⟩) hS0 ?_; rotate_left 1; (focus (intro w hSw; (try dsimp only at hSw); go_simp; try (with_reducible rfl))); (try simp only [Act.put, List.setIfInBounds_toArray, List.set_cons_zero, List.set_cons_succ]))
      (refine wpMu_take1 (i := 1) (v := ?_) rfl (by kernel_rfl) (fun _ _ _ h => h) (Or.inl ⟨by rfl, ?_⟩) hS0 ?_; rotate_left 1; (focus (intro w hSw; (try dsimp only at hSw); go_simp; try (with_reducible rfl))); (try simp only [Act.put, List.setIfInBounds_toArray, List.set_cons_zero, List.set_cons_succ]))
      (refine wpMu_take1 (i := 2) (v := ?_) rfl (by kernel_rfl) (fun _ _ _ h => h) (Or.inl ⟨by rfl, ?_⟩) hS0 ?_; rotate_left 1; (focus (intro w hSw; (try dsimp only at hSw); go_simp; try (with_reducible rfl))); (try simp only [Act.put, List.setIfInBounds_toArray, List.set_cons_zero, List.set_cons_succ]))
      (refine wpMu_take1 (i := 3) (v := ?_) rfl (by kernel_rfl) (fun _ _ _ h => h) (Or.inl ⟨by rfl, ?_⟩) hS0 ?_; rotate_left 1; (focus (intro w hSw; (try dsimp only at hSw); go_simp; try (with_reducible rfl))); (try simp only [Act.put, List.setIfInBounds_toArray, List.set_cons_zero, List.set_cons_succ]))
      (refine wpMu_take1 (i := 4) (v := ?_) rfl (by kernel_rfl) (fun _ _ _ h => h) (Or.inl ⟨by rfl, ?_⟩) hS0 ?_; rotate_left 1; (focus (intro w hSw; (try dsimp only at hSw); go_simp; try (with_reducible rfl))); (try simp only [Act.put, List.setIfInBounds_toArray, List.set_cons_zero, List.set_cons_succ]))
      (refine wpMu_take1 (i := 5) (v := ?_) rfl (by kernel_rfl) (fun _ _ _ h => h) (Or.inl ⟨by rfl, ?_⟩) hS0 ?_; rotate_left 1; (focus (intro w hSw; (try dsimp only at hSw); go_simp; try (with_reducible rfl))); (try simp only [Act.put, List.setIfInBounds_toArray, List.set_cons_zero, List.set_cons_succ]))
      (refine wpMu_take1 (i := 6) (v := ?_) rfl (by kernel_rfl) (fun _ _ _ h => h) (Or.inl ⟨by rfl, ?_⟩) hS0 ?_; rotate_left 1; (focus (intro w hSw; (try dsimp only at hSw); go_simp; try (with_reducible rfl))); (try simp only [Act.put, List.setIfInBounds_toArray, List.set_cons_zero, List.set_cons_succ]))
      (refine wpMu_take1 (i := 7) (v := ?_) rfl (by kernel_rfl) (fun _ _ _ h => h) (Or.inl ⟨by rfl, ?_⟩) hS0 ?_; rotate_left 1; (focus (intro w hSw; (try dsimp only at hSw); go_simp; try (with_reducible rfl))); (try simp only [Act.put, List.setIfInBounds_toArray, List.set_cons_zero, List.set_cons_succ]))
      (refine wpMu_take1 (i := 8) (v := ?_) rfl (by kernel_rfl) (fun _ _ _ h => h) (Or.inl ⟨by rfl, ?_⟩) hS0 ?_; rotate_left 1; (focus (intro w hSw; (try dsimp only at hSw); go_simp; try (with_reducible rfl))); (try simp only [Act.put, List.setIfInBounds_toArray, List.set_cons_zero, List.set_cons_succ]))
      (refine wpMu_take1 (i := 9) (v := ?_) rfl (by kernel_rfl) (fun _ _ _ h => h) (Or.inl ⟨by rfl, ?_⟩) hS0 ?_; rotate_left 1; (focus (intro w hSw; (try dsimp only at hSw); go_simp; try (with_reducible rfl))); (try simp only [Act.put, List.setIfInBounds_toArray, List.set_cons_zero, List.set_cons_succ]))
      (refine wpMu_take1 (i := 10) (v := ?_) rfl (by kernel_rfl) (fun _ _ _ h => h) (Or.inl ⟨by rfl, ?_⟩) hS0 ?_; rotate_left 1; (focus (intro w hSw; (try dsimp only at hSw); go_simp; try (with_reducible rfl))); (try simp only [Act.put, List.setIfInBounds_toArray, List.set_cons_zero, List.set_cons_succ]))
      (refine wpMu_free (i := 11) (v := ?_) rfl (by kernel_rfl) (fun _ _ _ h => h) (Or.inl ⟨by rfl, ?_⟩)  ?_; rotate_left 1; (focus (intro w hSw; (try dsimp only at hSw); go_simp; try (with_reducible rfl))); (try simp only [Act.put, List.setIfInBounds_toArray, List.set_cons_zero, List.set_cons_succ]))
      (refine wpMu_take1 (i := 12) (v := ?_) rfl (by kernel_rfl) (fun _ _ _ h => h) (Or.inl ⟨by rfl, ?_⟩) hS0 ?_; rotate_left 1; (focus (intro w hSw; (try dsimp only at hSw); go_simp; try (with_reducible rfl))); (try simp only [Act.put, List.setIfInBounds_toArray, List.set_cons_zero, List.set_cons_succ]))
      (refine wpMu_take1 (i := 13) (v := ?_) rfl (by kernel_rfl) (fun _ _ _ h => h) (Or.inl ⟨by rfl, ?_⟩) hS0 ?_; rotate_left 1; (focus (intro w hSw; (try dsimp only at hSw); go_simp; try (with_reducible rfl))); (try simp only [Act.put, List.setIfInBounds_toArray, List.set_cons_zero, List.set_cons_succ]))
      (refine wpMu_take1 (i := 14) (v := ?_) rfl (by kernel_rfl) (fun _ _ _ h => h) (Or.inl ⟨by rfl, ?_⟩) hS0 ?_; rotate_left 1; (focus (intro w hSw; (try dsimp only at hSw); go_simp; try (with_reducible rfl))); (try simp only [Act.put, List.setIfInBounds_toArray, List.set_cons_zero, List.set_cons_succ]))
      (refine wpMu_take1 (i := 15) (v := ?_) rfl (by kernel_rfl) (fun _ _ _ h => h) (Or.inl ⟨by rfl, ?_⟩) hS0 ?_; rotate_left 1; (focus (intro w hSw; (try dsimp only at hSw); go_simp; try (with_reducible rfl))); (try simp only [Act.put, List.setIfInBounds_toArray, List.set_cons_zero, List.set_cons_succ]))
      (refine wpMu_take1 (i := 16) (v := ?_) rfl (by kernel_rfl) (fun _ _ _ h => h) (Or.inl ⟨by rfl, ?_⟩) hS0 ?_; rotate_left 1; (focus (intro w hSw; (try dsimp only at hSw); go_simp; try (with_reducible rfl))); (try simp only [Act.put, List.setIfInBounds_toArray, List.set_cons_zero, List.set_cons_succ]))
      (refine wpMu_take1 (i := 17) (v := ?_) rfl (by kernel_rfl) (fun _ _ _ h => h) (Or.inl ⟨by rfl, ?_⟩) hS0 ?_; rotate_left 1; (focus (intro w hSw; (try dsimp only at hSw); go_simp; try (with_reducible rfl))); (try simp only [Act.put, List.setIfInBounds_toArray, List.set_cons_zero, List.set_cons_succ]))
      (refine wpMu_take1 (i := 18) (v := ?_) rfl (by kernel_rfl) (fun _ _ _ h => h) (Or.inl ⟨by rfl, ?_⟩) hS0 ?_; rotate_left 1; (focus (intro w hSw; (try dsimp only at hSw); go_simp; try (with_reducible rfl))); (try simp only [Act.put, List.setIfInBounds_toArray, List.set_cons_zero, List.set_cons_succ]))
      (refine wpMu_take1 (i := 19) (v := ?_) rfl (by kernel_rfl) (fun _ _ _ h => h) (Or.inl ⟨by rfl, ?_⟩) hS0 ?_; rotate_left 1; (focus (intro w hSw; (try dsimp only at hSw); go_simp; try (with_reducible rfl))); (try simp only [Act.put, List.setIfInBounds_toArray, List.set_cons_zero, List.set_cons_succ]))
      (refine wpMu_take1 (i := 20) (v := ?_) rfl (by kernel_rfl) (fun _ _ _ h => h) (Or.inl ⟨by rfl, ?_⟩) hS0 ?_; rotate_left 1; (focus (intro w hSw; (try dsimp only at hSw); go_simp; try (with_reducible rfl))); (try simp only [Act.put, List.setIfInBounds_toArray, List.set_cons_zero, List.set_cons_succ]))
      (refine wpMu_take1 (i := 21) (v := ?_) rfl (by kernel_rfl) (fun _ _ _ h => h) (Or.inl ⟨by rfl, ?_⟩) hS0 ?_; rotate_left 1; (focus (intro w hSw; (try dsimp only at hSw); go_simp; try (with_reducible rfl))); (try simp only [Act.put, List.setIfInBounds_toArray, List.set_cons_zero, List.set_cons_succ]))
      (refine wpMu_take1 (i := 22) (v := ?_) rfl (by kernel_rfl) (fun _ _ _ h => h) (Or.inl ⟨by rfl, ?_⟩) hS0 ?_; rotate_left 1; (focus (intro w hSw; (try dsimp only at hSw); go_simp; try (with_reducible rfl))); (try simp only [Act.put, List.setIfInBounds_toArray, List.set_cons_zero, List.set_cons_succ]))
      (refine wpMu_take1 (i := 23) (v := ?_) rfl (by kernel_rfl) (fun _ _ _ h => h) (Or.inl ⟨by rfl, ?_⟩) hS0 ?_; rotate_left 1; (focus (intro w hSw; (try dsimp only at hSw); go_simp; try (with_reducible rfl))); (try simp only [Act.put, List.setIfInBounds_toArray, List.set_cons_zero, List.set_cons_succ]))
      (refine wpMu_take1 (i := 24) (v := ?_) rfl (by kernel_rfl) (fun _ _ _ h => h) (Or.inl ⟨by rfl, ?_⟩) hS0 ?_; rotate_left 1; (focus (intro w hSw; (try dsimp only at hSw); go_simp; try (with_reducible rfl))); (try simp only [Act.put, List.setIfInBounds_toArray, List.set_cons_zero, List.set_cons_succ]))
      (refine wpMu_take1 (i := 25) (v := ?_) rfl (by kernel_rfl) (fun _ _ _ h => h) (Or.inl ⟨by rfl, ?_⟩) hS0 ?_; rotate_left 1; (focus (intro w hSw; (try dsimp only at hSw); go_simp; try (with_reducible rfl))); (try simp only [Act.put, List.setIfInBounds_toArray, List.set_cons_zero, List.set_cons_succ]))
      (refine wpMu_take1 (i := 26) (v := ?_) rfl (by kernel_rfl) (fun _ _ _ h => h) (Or.inl ⟨by rfl, ?_⟩) hS0 ?_; rotate_left 1; (focus (intro w hSw; (try dsimp only at hSw); go_simp; try (with_reducible rfl))); (try simp only [Act.put, List.setIfInBounds_toArray, List.set_cons_zero, List.set_cons_succ]))
      (refine wpMu_take1 (i := 27) (v := ?_) rfl (by kernel_rfl) (fun _ _ _ h => h) (Or.inl ⟨by rfl, ?_⟩) hS0 ?_; rotate_left 1; (focus (intro w hSw; (try dsimp only at hSw); go_simp; try (with_reducible rfl))); (try simp only [Act.put, List.setIfInBounds_toArray, List.set_cons_zero, List.set_cons_succ]))
      (refine wpMu_take1 (i := 28) (v := ?_) rfl (by kernel_rfl) (fun _ _ _ h => h) (Or.inl ⟨by rfl, ?_⟩) hS0 ?_; rotate_left 1; (focus (intro w hSw; (try dsimp only at hSw); go_simp; try (with_reducible rfl))); (try simp only [Act.put, List.setIfInBounds_toArray, List.set_cons_zero, List.set_cons_succ]))
      (refine wpMu_take1 (i := 29) (v := ?_) rfl (by kernel_rfl) (fun _ _ _ h => h) (Or.inl ⟨by rfl, ?_⟩) hS0 ?_; rotate_left 1; (focus (intro w hSw; (try dsimp only at hSw); go_simp; try (with_reducible rfl))); (try simp only [Act.put, List.setIfInBounds_toArray, List.set_cons_zero, List.set_cons_succ]))
      (refine wpMu_take1 (i := 30) (v := ?_) rfl (by kernel_rfl) (fun _ _ _ h => h) (Or.inl ⟨by rfl, ?_⟩) hS0 ?_; rotate_left 1; (focus (intro w hSw; (try dsimp only at hSw); go_simp; try (with_reducible rfl))); (try simp only [Act.put, List.setIfInBounds_toArray, List.set_cons_zero, List.set_cons_succ]))
      (refine wpMu_take1 (i := 31) (v := ?_) rfl (by kernel_rfl) (fun _ _ _ h => h) (Or.inl ⟨by rfl, ?_⟩) hS0 ?_; rotate_left 1; (focus (intro w hSw; (try dsimp only at hSw); go_simp; try (with_reducible rfl))); (try simp only [Act.put, List.setIfInBounds_toArray, List.set_cons_zero, List.set_cons_succ]))
      (refine wpMu_take1 (i := 32) (v := ?_) rfl (by kernel_rfl) (fun _ _ _ h => h) (Or.inl ⟨by rfl, ?_⟩) hS0 ?_; rotate_left 1; (focus (intro w hSw; (try dsimp only at hSw); go_simp; try (with_reducible rfl))); (try simp only [Act.put, List.setIfInBounds_toArray, List.set_cons_zero, List.set_cons_succ]))
      (refine wpMu_take1 (i := 33) (v := ?_) rfl (by kernel_rfl) (fun _ _ _ h => h) (Or.inl ⟨by rfl, ?_⟩) hS0 ?_; rotate_left 1; (focus (intro w hSw; (try dsimp only at hSw); go_simp; try (with_reducible rfl))); (try simp only [Act.put, List.setIfInBounds_toArray, List.set_cons_zero, List.set_cons_succ]))
      (refine wpMu_take1 (i := 34) (v := ?_) rfl (by kernel_rfl) (fun _ _ _ h => h) (Or.inl ⟨by rfl, ?_⟩) hS0 ?_; rotate_left 1; (focus (intro w hSw; (try dsimp only at hSw); go_simp; try (with_reducible rfl))); (try simp only [Act.put, List.setIfInBounds_toArray, List.set_cons_zero, List.set_cons_succ]))
      (refine wpMu_take1 (i := 35) (v := ?_) rfl (by kernel_rfl) (fun _ _ _ h => h) (Or.inl ⟨by rfl, ?_⟩) hS0 ?_; rotate_left 1; (focus (intro w hSw; (try dsimp only at hSw); go_simp; try (with_reducible rfl))); (try simp only [Act.put, List.setIfInBounds_toArray, List.set_cons_zero, List.set_cons_succ]))
      (refine wpMu_take1 (i := 36) (v := ?_) rfl (by kernel_rfl) (fun _ _ _ h => h) (Or.inl ⟨by rfl, ?_⟩) hS0 ?_; rotate_left 1; (focus (intro w hSw; (try dsimp only at hSw); go_simp; try (with_reducible rfl))); (try simp only [Act.put, List.setIfInBounds_toArray, List.set_cons_zero, List.set_cons_succ]))
      (refine wpMu_take1 (i := 37) (v := ?_) rfl (by kernel_rfl) (fun _ _ _ h => h) (Or.inl ⟨by rfl, ?_⟩) hS0 ?_; rotate_left 1; (focus (intro w hSw; (try dsimp only at hSw); go_simp; try (with_reducible rfl))); (try simp only [Act.put, List.setIfInBounds_toArray, List.set_cons_zero, List.set_cons_succ]))
      (refine wpMu_take1 (i := 38) (v := ?_) rfl (by kernel_rfl) (fun _ _ _ h => h) (Or.inl ⟨by rfl, ?_⟩) hS0 ?_; rotate_left 1; (focus (intro w hSw; (try dsimp only at hSw); go_simp; try (with_reducible rfl))); (try simp only [Act.put, List.setIfInBounds_toArray, List.set_cons_zero, List.set_cons_succ]))
      (refine wpMu_free (i := 39) (v := ?_) rfl (by kernel_rfl) (fun _ _ _ h => h) (Or.inl ⟨by rfl, ?_⟩)  ?_; rotate_left 1; (focus (intro w hSw; (try dsimp only at hSw); go_simp; try (with_reducible rfl))); (try simp only [Act.put, List.setIfInBounds_toArray, List.set_cons_zero, List.set_cons_succ]))
      (refine wpMu_take1 (i := 40) (v := ?_) rfl (by kernel_rfl) (fun _ _ _ h => h) (Or.inl ⟨by rfl, ?_⟩) hS0 ?_; rotate_left 1; (focus (intro w hSw; (try dsimp only at hSw); go_simp; try (with_reducible rfl))); (try simp only [Act.put, List.setIfInBounds_toArray, List.set_cons_zero, List.set_cons_succ]))
      refine wpMu_pick [41] (by kernel_rfl) (pick_one ?_) (by simp)
      simp only [opsAt, List.flatMap_cons, List.flatMap_nil, List.take_succ_cons, List.take_zero, List.drop_succ_cons, List.drop_zero, List.append_nil, List.cons_append, List.nil_append]
      have hne : gm ≠ gx := fun e => HA.out.mx gm (by rw [E2.out]; rfl) (by rw [E3.out, e]; rfl)
      have hne' : gx ≠ gm := fun e => hne e.symm
      go_wp2
      refine ⟨⟨fun h => absurd h (by decide), fun _ h => h⟩, ?_⟩
      refine wpMu_rest [42, 43] (by kernel_rfl) ?_
      simp only [opsAt, List.flatMap_cons, List.flatMap_nil, List.take_succ_cons, List.take_zero, List.drop_succ_cons, List.drop_zero, List.append_nil, List.cons_append, List.nil_append]
      clear hS0
      go_wp2
      go_roundw
      case rel => exact ⟨k + 1, hlt, by go_num, HST.out.below (Below.drew (Below.refl _ _))⟩
      case measure => simp [intOf]; omega
    · obtain rfl : k = m := by omega
      clear HW
      go_wp2
      go_end0
      exact ⟨rfl, hat⟩
end Go.Proofs.Ytdgeinipdphoeaa
/- Rollup: the place at which a cell is put: the closure of 'put', sort.Search. -/
namespace Go.Proofs.Ytdgeinipdphoeaa
set_option linter.unusedVariables false
set_option linter.unusedSimpArgs false
set_option maxRecDepth 100000
open Go.ChangeShapes Go.WideShapes Go.ChangeAt Go.RowKit

set_option maxHeartbeats 2000000 in
theorem rput1_any (b1 b2 : Nat) (l : List CellD) (c : CellD) (v ul us um ux : Value) (i : Nat) (hi : i < l.length) (w : World) (hl : CellsSl w v l) (hb1 : w.cell? ⟨b1, 0, none⟩ = some v)
    (hb2 : w.heap[b2]? = some (.cells #[.int .i64 c.t, ul, .int .i64 c.n, us, um, ux] 87 (0, 0))) (hc : ValsSl w ul c.l) (h1 : ∃ ao n c, us = .slice ao n c) (h2 : ∃ ao n c, um = .slice ao n c) (h3 : ∃ ao n c, ux = .slice ao n c) :
    Calls Try.prog 86 #[.int .i64 i, .pointer (some ⟨b1, 0, none⟩), .pointer (some ⟨b2, 0, none⟩)] w fun e w' => e = .returned (.bool (!aheadC l[i] c)) ∧ Below w.heap.size w w' := by
  obtain ⟨ao, cap, rfl, _⟩ := hl.shape
  obtain ⟨b, off, vl, vs, vm, vx, rfl, g1, g2, g3, g4, c0, c1, c2, c3, c4, c5⟩ := hl.at hi
  have HI := hid (fun x => isAhead_any l[i] c vl vs vm vx ul us um ux l[i].n c.n (World.plus w x) (g1.below (World.plus_below w x)) (hc.below (World.plus_below w x)) (g2.shape.imp fun _ h => ⟨_, h.imp fun _ h => h.1⟩) (g3.shape.imp fun _ h => ⟨_, h.imp fun _ h => h.1⟩) (g4.shape.imp fun _ h => ⟨_, h.imp fun _ h => h.1⟩) h1 h2 h3)
  obtain ⟨d0, d1, d2, d3, d4, d5⟩ := six_at hb2
  obtain ⟨_, _, rfl, _⟩ := SlAt.shape g1
  obtain ⟨_, _, rfl, _⟩ := SlAt.shape g2
  obtain ⟨_, _, rfl, _⟩ := SlAt.shape g3
  obtain ⟨_, _, rfl, _⟩ := SlAt.shape g4
  obtain ⟨_, _, rfl, _⟩ := SlAt.shape hc
  obtain ⟨_, _, _, rfl⟩ := h1
  obtain ⟨_, _, _, rfl⟩ := h2
  obtain ⟨_, _, _, rfl⟩ := h3
  have pb := World.plus_cell hb1
  have pc0 := World.plus_cell c0
  have pc1 := World.plus_cell c1
  have pc2 := World.plus_cell c2
  have pc3 := World.plus_cell c3
  have pc4 := World.plus_cell c4
  have pc5 := World.plus_cell c5
  have pd0 := World.plus_cell d0
  have pd1 := World.plus_cell d1
  have pd2 := World.plus_cell d2
  have pd3 := World.plus_cell d3
  have pd4 := World.plus_cell d4
  have pd5 := World.plus_cell d5
  have q0 : (0 : Int) ≤ (i : Int) := Int.natCast_nonneg _
  have q1 : (i : Int) < (l.length : Int) := by omega
  clear hl g1 g2 g3 g4 hc hb2
  generalize aheadC l[i] c = r at *
  generalize l[i].t = t1 at *
  generalize l[i].n = n1 at *
  generalize l[i].l.length = m1 at *
  generalize l[i].sums.length = m2 at *
  generalize l[i].mins.length = m3 at *
  generalize l[i].maxs.length = m4 at *
  generalize c.t = t2 at *
  generalize c.n = n2 at *
  generalize c.l.length = m5 at *
  generalize l.length = L at *
  go_enter Try.func86, Try.ntmps86
  go_wp2
  refine wp_region_plus (by kernel_rfl) (by kernel_rfl) ?_
  repeat (first | go_big_quiet_skip | (go_big_quiet_want; go_big_quiet_op; first | go_big_quiet_on | go_big_quiet_call (((go_at_call 73; exact Calls.plus_of (HI.out _))))))
  refine wpQuiet_nil ?_
  rintro _ ⟨xq, rfl⟩
  have kB := World.plus_below w xq
  go_wp2
  go_ret
  exact ⟨rfl, by (repeat' (first | (with_reducible exact Below.refl _ _) | (with_reducible assumption) | (with_reducible refine Below.new ?_ _) | (with_reducible refine Below.alloc ?_ ?_ _) | (with_reducible refine Below.drew ?_) | (with_reducible refine Below.drewN ?_ _) | (with_reducible refine Below.setCell ?_ ?_ _) | (refine Below.step ?_ (by assumption)) | go_size))⟩

/-- How many stand ahead. -/
def posC (l : List CellD) (c : CellD) : Nat := (l.takeWhile fun x => aheadC x c).length
theorem posC_le (l : List CellD) (c : CellD) : posC l c ≤ l.length := (List.takeWhile_sublist _).length_le
theorem posC_of : ∀ (l : List CellD) (c : CellD) (k : Nat), k ≤ l.length → (∀ j (h : j < l.length), j < k → aheadC l[j] c = true) → (∀ h : k < l.length, aheadC l[k] c = false) → posC l c = k
  | [], c, k, hk, _, _ => by simp at hk; subst hk; rfl
  | x :: l, c, 0, _, _, h => by
    have := h (by simp)
    simp only [List.getElem_cons_zero] at this
    unfold posC
    rw [List.takeWhile_cons, this]
    rfl
  | x :: l, c, k + 1, hk, h1, h2 => by
    have h0 := h1 0 (by simp) (by omega)
    simp only [List.getElem_cons_zero] at h0
    have := posC_of l c k (by simpa using hk) (fun j h hj => by have := h1 (j + 1) (by simpa using h) (by omega); simpa using this) (fun h => by have := h2 (by simpa using h); simpa using this)
    unfold posC at this ⊢
    rw [List.takeWhile_cons, h0, if_pos rfl, List.length_cons, this]
theorem ahead_mono {l : List CellD} (hs : l.Pairwise fun a b => cmpC a b < 0) (c : CellD) {i j : Nat} (hij : i < j) (hj : j < l.length) (h : aheadC l[j] c = true) : aheadC (l[i]'(by omega)) c = true := by
  have h1 := (List.pairwise_iff_getElem.1 hs) i j (by omega) hj hij
  unfold aheadC at *
  simp only [decide_eq_true_eq] at *
  exact (cellRule 0).lt _ _ _ h1 h

set_option maxHeartbeats 2000000 in
theorem search_any (b1 b2 : Nat) (l : List CellD) (c : CellD) (hs : l.Pairwise fun a b => cmpC a b < 0) (hl : l.length ≤ 1000000) (w : World)
    (H : ∀ (i : Nat) (hi : i < l.length) (W : World), Below w.heap.size w W → Calls Try.prog 86 #[.int .i64 i, .pointer (some ⟨b1, 0, none⟩), .pointer (some ⟨b2, 0, none⟩)] W fun e w' => e = .returned (.bool (!aheadC l[i] c)) ∧ Below W.heap.size W w') :
    Calls Try.prog 85 #[.int .i64 (l.length : Nat), .func (.func 86) #[] #[.pointer (some ⟨b1, 0, none⟩), .pointer (some ⟨b2, 0, none⟩)]] w fun e w' => e = .returned (.int .i64 (posC l c : Nat)) ∧ Below w.heap.size w w' := by
  have HH := hid H; have HS := hid hs
  clear H hs
  go_enter Try.func85, Try.ntmps85
  go_wp2
  go_loopw [5, 6] (fun i j wr => ∃ a z : Nat, a ≤ z ∧ z ≤ l.length ∧ i = .int .i64 a ∧ j = .int .i64 z ∧ (∀ k (h : k < l.length), k < a → aheadC l[k] c = true) ∧ (∀ k (h : k < l.length), z ≤ k → aheadC l[k] c = false) ∧ Below w.heap.size w wr) (fun i j _ => (intOf j - intOf i).toNat)
  case atStart => exact ⟨0, l.length, Nat.zero_le _, Nat.le_refl _, rfl, rfl, fun _ _ h => absurd h (Nat.not_lt_zero _), fun k h h' => absurd h (by omega), by (repeat' (first | (with_reducible exact Below.refl _ _) | (with_reducible assumption) | (with_reducible refine Below.new ?_ _) | (with_reducible refine Below.alloc ?_ ?_ _) | (with_reducible refine Below.drew ?_) | (with_reducible refine Below.drewN ?_ _) | (with_reducible refine Below.setCell ?_ ?_ _) | (refine Below.step ?_ (by assumption)) | go_size))⟩
  case round =>
    obtain ⟨a, z, haz, hz, rfl, rfl, hlo, hhi, hbel⟩ := hrel
    have HLO := hid hlo; have HHI := hid hhi
    clear hlo hhi
    by_cases hlt : a < z
    · obtain ⟨m, hm⟩ : ∃ m, (a + z) / 2 = m := ⟨_, rfl⟩
      have hml : m < l.length := by omega
      have hma : a ≤ m := by omega
      have hmz : m < z := by omega
      have em : ((a : Int) + (z : Int)) / 2 = (m : Int) := by omega
      have HC := hid (HH.out m hml)
      have HT := hid (fun (h : aheadC l[m] c = true) k (hk : k < l.length) (hkm : k < m + 1) => show aheadC l[k] c = true from by
        by_cases e : k = m
        · subst e; exact h
        · exact ahead_mono HS.out c (i := k) (j := m) (by omega) hml h)
      have HF := hid (fun (h : aheadC l[m] c = false) k (hk : k < l.length) (hkm : m ≤ k) => show aheadC l[k] c = false from by
        by_cases e : m = k
        · subst e; exact h
        · cases hh : aheadC l[k] c with
          | false => rfl
          | true => exact absurd (ahead_mono HS.out c (i := m) (j := k) (by omega) hk hh) (by rw [h]; simp))
      have g1 : (0 : Int) ≤ (a : Int) := Int.natCast_nonneg _
      have g2 : (0 : Int) ≤ (z : Int) := Int.natCast_nonneg _
      have g3 : (a : Int) + (z : Int) ≤ 2000000 := by omega
      have g4 : (0 : Int) ≤ (m : Int) := Int.natCast_nonneg _
      have g5 : (m : Int) ≤ 1000000 := by omega
      clear hm
      generalize aheadC l[m] c = r at *
      cases r with
      | true =>
        go_wp2_with (go_at_call 86; go_loud ((with_reducible refine (HC.out _ hbel).mono ?_); rintro e w2 ⟨rfl, hb2⟩))
        go_roundw
        case rel => exact ⟨m + 1, z, by omega, hz, by go_num, rfl, HT.out trivial, HHI.out, hbel.step hb2⟩
        case measure => simp [intOf]; omega
      | false =>
        go_wp2_with (go_at_call 86; go_loud ((with_reducible refine (HC.out _ hbel).mono ?_); rintro e w2 ⟨rfl, hb2⟩))
        go_roundw
        case rel => exact ⟨a, m, hma, by omega, rfl, rfl, HLO.out, HF.out trivial, hbel.step hb2⟩
        case measure => simp [intOf]; omega
    · obtain rfl : a = z := by omega
      have HP := hid (posC_of l c a hz HLO.out (fun h => HHI.out a h (Nat.le_refl _)))
      go_wp2
      go_ret
      exact ⟨ret_int (by rw [HP.out]), hbel⟩
end Go.Proofs.Ytdgeinipdphoeaa
/- Rollup: plain laws of putting a cell among others. -/
namespace Go.Proofs.Ytdgeinipdphoeaa
set_option linter.unusedVariables false
set_option linter.unusedSimpArgs false
open Go.ChangeShapes Go.WideShapes Go.ChangeAt Go.RowKit

abbrev puts (m : Nat) (l k : List CellD) : List CellD := Put.puts (cellRule m) l k
abbrev put1 (m : Nat) (l : List CellD) (d : CellD) : List CellD := Put.put (cellRule m) l d
theorem ahead_neg {a b : CellD} : aheadC a b = true ↔ cmpC a b < 0 := by unfold aheadC; simp
theorem cmpC_neg (a b : CellD) : cmpC b a = -cmpC a b := (cellRule 0).neg a b
/-- One more, at its place. -/
theorem put_same (m : Nat) : ∀ (l : List CellD) (d : CellD) (h : posC l d < l.length), aheadC d l[posC l d] = false → put1 m l d = l.set (posC l d) (bothC l[posC l d] d)
  | [], d, h, _ => absurd h (Nat.not_lt_zero _)
  | x :: l, d, h, hn => by
    cases hx : aheadC x d with
    | true =>
      have hp : posC (x :: l) d = posC l d + 1 := by unfold posC; rw [List.takeWhile_cons, hx]; rfl
      have hc : cmpC x d < 0 := ahead_neg.1 hx
      have hlt : posC l d < l.length := by rw [hp] at h; simpa using h
      simp only [hp, List.getElem_cons_succ] at hn ⊢
      rw [show put1 m (x :: l) d = x :: put1 m l d from Put.put_lt (cellRule m) l hc, put_same m l d hlt hn, List.set_cons_succ]
    | false =>
      have hp : posC (x :: l) d = 0 := by unfold posC; rw [List.takeWhile_cons, hx]; rfl
      simp only [hp, List.getElem_cons_zero] at hn ⊢
      have h1 : ¬ cmpC x d < 0 := fun h => by rw [ahead_neg.2 h] at hx; cases hx
      have h2 : ¬ cmpC d x < 0 := fun h => by rw [ahead_neg.2 h] at hn; cases hn
      have h3 := cmpC_neg x d
      rw [show put1 m (x :: l) d = bothC x d :: l from Put.put_eq (cellRule m) l (show cmpC x d = 0 by omega), List.set_cons_zero]
theorem put_new (m : Nat) : ∀ (l : List CellD) (d : CellD), (∀ h : posC l d < l.length, aheadC d l[posC l d] = true) → put1 m l d = l.take (posC l d) ++ d :: l.drop (posC l d)
  | [], d, _ => rfl
  | x :: l, d, hn => by
    cases hx : aheadC x d with
    | true =>
      have hp : posC (x :: l) d = posC l d + 1 := by unfold posC; rw [List.takeWhile_cons, hx]; rfl
      have hc : cmpC x d < 0 := ahead_neg.1 hx
      rw [show put1 m (x :: l) d = x :: put1 m l d from Put.put_lt (cellRule m) l hc, put_new m l d (fun h => by have := hn (by rw [hp]; simpa using h); simpa [hp] using this), hp]
      rfl
    | false =>
      have hp : posC (x :: l) d = 0 := by unfold posC; rw [List.takeWhile_cons, hx]; rfl
      have h1 := hn (by rw [hp]; simp)
      simp only [hp, List.getElem_cons_zero] at h1
      have h2 : cmpC d x < 0 := ahead_neg.1 h1
      have h3 := cmpC_neg x d
      rw [show put1 m (x :: l) d = d :: x :: l from Put.put_gt (cellRule m) l (show 0 < cmpC x d by omega), hp]
      rfl
theorem puts_succ (m : Nat) (l more : List CellD) (k : Nat) (hk : k < more.length) : puts m l (more.take (k + 1)) = put1 m (puts m l (more.take k)) more[k] := by
  rw [List.take_succ_eq_append_getElem hk]
  show List.foldl _ _ _ = _
  rw [List.foldl_append]
  rfl

def NonNeg (l : List CellD) : Prop := ∀ c ∈ l, 0 ≤ c.n
abbrev countT (l : List CellD) : Int := Put.total (fun c => c.n) l
theorem countT_nonneg : ∀ {l : List CellD}, NonNeg l → 0 ≤ countT l
  | [], _ => by simp [countT, Put.total]
  | x :: l, h => by
    have h1 := h x (by simp)
    have h2 := countT_nonneg (l := l) (fun c hc => h c (by simp [hc]))
    show 0 ≤ x.n + countT l
    omega
theorem le_countT : ∀ {l : List CellD}, NonNeg l → ∀ c ∈ l, c.n ≤ countT l
  | [], _, c, hc => by simp at hc
  | x :: l, h, c, hc => by
    have h1 := h x (by simp)
    have h3 : NonNeg l := fun c hc => h c (by simp [hc])
    have h2 := countT_nonneg h3
    show c.n ≤ x.n + countT l
    rcases List.mem_cons.1 hc with rfl | hc
    · omega
    · have := le_countT h3 c hc
      omega
theorem countT_append (l k : List CellD) : countT (l ++ k) = countT l + countT k := by
  induction l with
  | nil => simp [countT, Put.total]
  | cons x l ih => show x.n + countT (l ++ k) = x.n + countT l + countT k; omega
theorem countT_puts (m : Nat) (l k : List CellD) : countT (puts m l k) = countT l + countT k := Put.puts_total (cellRule m) (fun c => c.n) (fun a b _ => rfl) l k
theorem NonNeg.put {m : Nat} {l : List CellD} {d : CellD} (hl : NonNeg l) (hd : 0 ≤ d.n) : NonNeg (put1 m l d) := by
  intro y hy
  rcases Put.put_mem (cellRule m) hy with h | ⟨x, hx, h⟩ | ⟨x, hx, h0, h⟩
  · rw [h]; exact hd
  · rw [h]; exact hl x hx
  · rw [h]; have := hl x hx; show 0 ≤ x.n + d.n; omega
theorem NonNeg.puts {m : Nat} {l : List CellD} (hl : NonNeg l) : ∀ {k : List CellD}, NonNeg k → NonNeg (puts m l k) := by
  intro k
  induction k generalizing l with
  | nil => intro _; exact hl
  | cons d k ih => intro hk; exact ih (hl.put (m := m) (hk d (by simp))) (fun c hc => hk c (by simp [hc]))
theorem countT_take {l : List CellD} (h : NonNeg l) (k : Nat) (hk : k < l.length) : countT (l.take k) + l[k].n ≤ countT l := by
  have e : l = l.take k ++ l[k] :: l.drop (k + 1) := by rw [List.getElem_cons_drop, List.take_append_drop]
  have h2 : countT l = countT (l.take k) + (l[k].n + countT (l.drop (k + 1))) := by
    conv => lhs; rw [e]
    exact countT_append _ _
  have h3 : 0 ≤ countT (l.drop (k + 1)) := countT_nonneg fun c hc => h c (List.mem_of_mem_drop hc)
  omega
theorem countT_take_le {l : List CellD} (h : NonNeg l) (k : Nat) : countT (l.take k) ≤ countT l := by
  have h2 : countT l = countT (l.take k) + countT (l.drop k) := by
    conv => lhs; rw [← List.take_append_drop k l]
    exact countT_append _ _
  have h3 : 0 ≤ countT (l.drop k) := countT_nonneg fun c hc => h c (List.mem_of_mem_drop hc)
  omega
/-- Cells in their order, each of so many numbers. -/
structure Rolled (m : Nat) (l : List CellD) : Prop where
  sorted : l.Pairwise fun a b => cmpC a b < 0
  all : Put.All (cellRule m) l
  nonneg : NonNeg l
theorem Rolled.nil (m : Nat) : Rolled m [] := ⟨List.Pairwise.nil, fun _ h => (by simp at h), fun _ h => (by simp at h)⟩
theorem Rolled.puts {m : Nat} {l k : List CellD} (h : Rolled m l) (hk : Put.All (cellRule m) k) (hn : NonNeg k) : Rolled m (puts m l k) :=
  ⟨Put.puts_sorted (cellRule m) h.sorted, Put.puts_all (cellRule m) h.all hk, h.nonneg.puts hn⟩
end Go.Proofs.Ytdgeinipdphoeaa
/- Rollup: what 'put' leaves in memory: a cell added to in place; a new row of cells. -/
namespace Go.Proofs.Ytdgeinipdphoeaa
set_option linter.unusedVariables false
set_option linter.unusedSimpArgs false
open Go.ChangeShapes Go.WideShapes Go.ChangeAt Go.RowKit

theorem rowP_set : ∀ (l : List CellP) (k : Nat) (p : CellP), k < l.length → ((((((l.flatMap rowP).set (k * 6) (.int .i64 p.2.t)).set (k * 6 + 1) p.1.vl).set (k * 6 + 2) (.int .i64 p.2.n)).set (k * 6 + 3) p.1.vs).set (k * 6 + 4) p.1.vm).set (k * 6 + 5) p.1.vx = (l.set k p).flatMap rowP
  | [], k, _, h => absurd h (Nat.not_lt_zero k)
  | x :: l, 0, p, _ => by simp [rowP, CellV.row]
  | x :: l, k + 1, p, h => by
    have := rowP_set l k p (by simpa using h)
    rw [List.set_cons_succ, List.flatMap_cons, List.flatMap_cons, ← this]
    have e : (k + 1) * 6 = k * 6 + 1 + 1 + 1 + 1 + 1 + 1 := by omega
    rw [e]
    simp [rowP, CellV.row]
def set6 (w : World) (g o : Nat) (x0 x1 x2 x3 x4 x5 : Value) : World := (((((w.setCell ⟨g, o, none⟩ x0).setCell ⟨g, o + 1, none⟩ x1).setCell ⟨g, o + 2, none⟩ x2).setCell ⟨g, o + 3, none⟩ x3).setCell ⟨g, o + 4, none⟩ x4).setCell ⟨g, o + 5, none⟩ x5
theorem turn_set6 (w : World) (g o : Nat) (x0 x1 x2 x3 x4 x5 : Value) : TurnO [g] w (set6 w g o x0 x1 x2 x3 x4 x5) :=
  ((((((TurnO.refl _ _).setCell (.inl (by simp)) _).setCell (.inl (by simp)) _).setCell (.inl (by simp)) _).setCell (.inl (by simp)) _).setCell (.inl (by simp)) _).setCell (.inl (by simp)) _
theorem row_set6 {w : World} {B g n cap : Nat} {ps : List CellP} (h : w.ownsRow B 46 6 (.slice (some ⟨g, 0, none⟩) n cap) n (ps.flatMap rowP)) {k : Nat} (hk : k < ps.length) (p : CellP) :
    (set6 w g (k * 6) (.int .i64 p.2.t) p.1.vl (.int .i64 p.2.n) p.1.vs p.1.vm p.1.vx).ownsRow B 46 6 (.slice (some ⟨g, 0, none⟩) n cap) n ((ps.set k p).flatMap rowP) := by
  rw [← rowP_set ps k p hk]
  exact ((((((h.stored _ _).1.stored _ _).1.stored _ _).1.stored _ _).1.stored _ _).1.stored _ _).1
theorem both_own {p box B B' m : Nat} {T : List Nat} {c d : CellD} {u u' : CellV} {w0 w : World} (h : AddAt p box T B B' c d u u' w0 m m w) (l1 : c.sums.length = m) (l2 : c.mins.length = m) (l3 : c.maxs.length = m) (k1 : d.sums.length = m) (k2 : d.mins.length = m) (k3 : d.maxs.length = m) : OwnC w B u (bothC c d) := by
  have e1 : upd (· + ·) c.sums d.sums m = List.zipWith (· + ·) c.sums d.sums := by rw [← l1]; exact upd_all _ _ _ (by omega)
  have e2 : upd min c.mins d.mins m = List.zipWith min c.mins d.mins := by rw [← l2]; exact upd_all _ _ _ (by omega)
  have e3 : upd max c.maxs d.maxs m = List.zipWith max c.maxs d.maxs := by rw [← l3]; exact upd_all _ _ _ (by omega)
  have h1 := h.s; have h2 := h.m; have h3 := h.x
  rw [e1] at h1
  rw [e2] at h2
  rw [e3] at h3
  refine ⟨h.l, ?_, ?_, ?_⟩
  · have : (bothC c d).sums.length = c.sums.length := by simp [bothC]; omega
    rw [this]; exact h1
  · have : (bothC c d).mins.length = c.mins.length := by simp [bothC]; omega
    rw [this]; exact h2
  · have : (bothC c d).maxs.length = c.maxs.length := by simp [bothC]; omega
    rw [this]; exact h3
theorem flat_drop {α β : Type} (k : Nat) (f : α → List β) (hf : ∀ x, (f x).length = k) : ∀ (l : List α) (m : Nat), (l.flatMap f).drop (m * k) = (l.drop m).flatMap f
  | [], m => by simp
  | x :: l, 0 => by simp
  | x :: l, m + 1 => by
    rw [List.flatMap_cons, List.drop_append, hf, show (m + 1) * k - k = m * k by rw [Nat.succ_mul]; omega, flat_drop k f hf l m, List.drop_eq_nil_of_le (by rw [hf, Nat.succ_mul]; omega)]
    rfl
theorem OwnC.not_blk {w : World} {B : Nat} {u : CellV} {c : CellD} (h : OwnC w B u c) {b : Nat} {cs : Array Value} {t : TypeId} (hb : w.heap[b]? = some (.cells cs t (0, 0))) (h1 : t ≠ 54) (h2 : t ≠ 58) (h3 : t ≠ 2) : b ∉ u.blks := by
  intro hm
  have key : ∀ {e : TypeId} {size : Nat} {v : Value} {n : Nat} {xs : List Value}, w.ownsRow B e size v n xs → v.ownBlock = some b → t = e := fun hr hv => by
    obtain ⟨cur, h1⟩ := row_type hr hv
    rw [hb] at h1
    simp at h1
    exact h1.2
  rcases mem_blks.1 hm with hm | hm | hm | hm
  · exact h1 (key h.l hm)
  · exact h2 (key h.s hm)
  · exact h3 (key h.m hm)
  · exact h3 (key h.x hm)
theorem OwnCs.nodup_at {w : World} {B : Nat} {v : Value} {ps : List CellP} (h : OwnCs w B v ps) {i : Nat} (hi : i < ps.length) : ps[i].1.blks.Nodup := by
  have hnd := h.nodup
  rw [List.flatMap_def, List.nodup_iff_pairwise_ne] at hnd
  exact List.nodup_iff_pairwise_ne.2 ((List.pairwise_flatten.1 hnd).1 _ (List.mem_map.2 ⟨ps[i], List.getElem_mem hi, rfl⟩))
theorem OwnCs.lt_at {w : World} {B : Nat} {v : Value} {ps : List CellP} (h : OwnCs w B v ps) {i : Nat} (hi : i < ps.length) : ∀ g ∈ ps[i].1.blks, B ≤ g ∧ g < w.heap.size := (h.each _ (List.getElem_mem hi)).lt
theorem OwnCs.not_blk {w : World} {B : Nat} {v : Value} {ps : List CellP} (h : OwnCs w B v ps) {b : Nat} {cs : Array Value} {t : TypeId} (hb : w.heap[b]? = some (.cells cs t (0, 0))) (h0 : t ≠ 46) : ¬ v.ownBlock = some b := by
  intro hv
  obtain ⟨cur, h1⟩ := row_type h.row hv
  rw [hb] at h1
  simp at h1
  exact h0 h1.2
/-- One cell of the list has been added to, and written back. -/
theorem put_merged {S S1 w4 : World} {B m g cap : Nat} {qs : List CellP} {P : Nat} {d : CellD} {u' : CellV} {B' box : Nat} (hq : OwnCs S B (.slice (some ⟨g, 0, none⟩) qs.length cap) qs) (hP : P < qs.length) (hS : Below S.heap.size S S1) (hS1 : S.heap.size < S1.heap.size)
    (h : AddAt S.heap.size box (S.heap.size :: qs[P].1.blks) B B' qs[P].2 d qs[P].1 u' S1 m m w4)
    (l1 : qs[P].2.sums.length = m) (l2 : qs[P].2.mins.length = m) (l3 : qs[P].2.maxs.length = m) (k1 : d.sums.length = m) (k2 : d.mins.length = m) (k3 : d.maxs.length = m) :
    OwnCs (set6 w4 g (P * 6) (.int .i64 qs[P].2.t) qs[P].1.vl (.int .i64 (qs[P].2.n + d.n)) qs[P].1.vs qs[P].1.vm qs[P].1.vx) B (.slice (some ⟨g, 0, none⟩) qs.length cap) (qs.set P (qs[P].1, bothC qs[P].2 d)) ∧
    TurnO (g :: S.heap.size :: qs[P].1.blks) S (set6 w4 g (P * 6) (.int .i64 qs[P].2.t) qs[P].1.vl (.int .i64 (qs[P].2.n + d.n)) qs[P].1.vs qs[P].1.vm qs[P].1.vx) := by
  have hg : (Value.slice (some ⟨g, 0, none⟩) qs.length cap).ownBlock = some g := rfl
  have hgo := hq.out hg
  have hgP : g ∉ qs[P].1.blks := fun hm => hgo (List.mem_flatMap.2 ⟨qs[P], List.getElem_mem hP, hm⟩)
  have hgl := (hq.row.lt g hg).2
  have t1 : TurnO (S.heap.size :: qs[P].1.blks) S w4 := (TurnO.of hS).trans h.turn
  have t2 : TurnO (g :: S.heap.size :: qs[P].1.blks) S _ := (t1.mono (fun k hk => .inl (List.mem_cons_of_mem _ hk))).trans ((turn_set6 w4 g (P * 6) (.int .i64 qs[P].2.t) qs[P].1.vl (.int .i64 (qs[P].2.n + d.n)) qs[P].1.vs qs[P].1.vm qs[P].1.vx).mono (fun k hk => by simp at hk; simp [hk]))
  refine ⟨hq.set hP t2 (fun x hx => ?_) ?_ ?_, t2⟩
  · rcases List.mem_cons.1 hx with rfl | hx
    · exact .inr (.inl rfl)
    · rcases List.mem_cons.1 hx with rfl | hx
      · exact .inr (.inr (Nat.le_refl _))
      · exact .inl hx
  · have hr := t1.row hq.row (fun q hq' => by
      obtain rfl : g = q := Option.some.inj (hg.symm.trans hq')
      simp only [List.mem_cons, not_or]
      exact ⟨by omega, hgP⟩)
    exact row_set6 hr hP (qs[P].1, bothC qs[P].2 d)
  · exact (both_own h l1 l2 l3 k1 k2 k3).turn (turn_set6 w4 g (P * 6) _ _ _ _ _ _) (fun q hq' hqg => by
      obtain rfl : q = g := by simpa using hqg
      exact hgP hq')
/-- A new row of cells, its address written into the box. -/
theorem put_new_row {S w7 : World} {B base b1 n' : Nat} {v v2 : Value} {qs : List CellP} {P : Nat} {d : CellD} {U : CellV} {cs : List Value} (hq : OwnCs S B v qs) (hP : P ≤ qs.length) (hB : Below S.heap.size S w7) (hBS : B ≤ S.heap.size)
    (hb : S.heap[b1]? = some (.cells cs.toArray 40 (0, 0))) (hD : OwnC S base U d) (hbase : B ≤ base) (hn : U.blks.Nodup) (hd : ∀ g ∈ U.blks, g ∉ qs.flatMap fun p => p.1.blks)
    (hr : w7.ownsRow S.heap.size 46 6 v2 n' ((qs.flatMap rowP).take (P * 6) ++ rowP (U, d) ++ (qs.flatMap rowP).drop (P * 6))) (hn' : n' = qs.length + 1) :
    OwnCs (w7.setCell ⟨b1, 0, none⟩ v2) B v2 (qs.take P ++ (U, d) :: qs.drop P) := by
  have hlt := blk_lt hb
  have t1 := turn_set w7 b1 0 v2
  have ht : TurnO [b1] S (w7.setCell ⟨b1, 0, none⟩ v2) := (TurnO.of hB).trans t1
  subst hn'
  refine OwnCs.insert (v := v) (hq.turn ht (fun g hg hgb => ?_) (fun g hg hgb => ?_)) P ?_ ((hD.turn ht (fun g hg hgb => ?_)).le hbase) hn hd
  · obtain rfl : g = b1 := by simpa using hgb
    exact hq.not_blk hb (by decide) hg
  · obtain rfl : g = b1 := by simpa using hgb
    obtain ⟨p, hp, hm⟩ := List.mem_flatMap.1 hg
    exact (hq.each p hp).not_blk hb (by decide) (by decide) (by decide) hm
  · rw [flat_take 6 rowP rowP_len, flat_drop 6 rowP rowP_len] at hr
    exact (row_far hr hlt).base_le hBS
  · obtain rfl : g = b1 := by simpa using hgb
    exact hD.not_blk hb (by decide) (by decide) (by decide) hg
end Go.Proofs.Ytdgeinipdphoeaa
