/- Texts joined: SciE, SchW, SchX, ValsR, SciF. -/
import Derived.Test.YtdgeinipdphoeaaDoorHi
import Derived.Test.YtdgeinipdphoeaaDoorHg
import Derived.Test.YtdgeinipdphoeaaDoorHa
/- A row of bytes: the reference's 'Decode' behind the time. -/
namespace Go.Proofs.YtdgeinipdphoeaaDoor
set_option linter.unusedVariables false
set_option linter.unusedSimpArgs false
set_option maxRecDepth 100000
open Go.ChangeShapes Go.WideShapes Go.ChangeAt Go.RowKit

set_option maxHeartbeats 4000000 in
theorem refDecode_main (vd vm : Value) (ds ms : List ByteArray) (g : Int) (s : ByteArray) (hs : s.size ≤ 9223372036854775807) (w : World) (hd : StrsSl w vd ds) (hm : StrsSl w vm ms) (td : Texts ds) (tm : Texts ms) (hr : rightS ds ms g = true)
    {n k : Nat} (hv : numV 1000000000000 (bytesOf s) = (0, n, k)) (hx : nextV (bytesOf s) = (0, n, k)) (hn : n ≤ 1000000000000) {F : RowF} (hF : rowF ds.length ms.length s = F) :
    Calls Tryd.prog 11 #[.agg #[vd, vm, .int .i64 g], .string s] w (DecPost w F) := by
  obtain ⟨i0, hi, hiz0, hiz1, hiz2⟩ := info_parts info_val
  obtain ⟨j0, hj0, hjz0, hjz1, hjz2⟩ := info_parts sinfo_i64
  have HR := hid (fun W (h : Below w.heap.size w W) => refRight_any vd vm ds ms g W (hd.below h) (hm.below h) td tm)
  rw [hr] at HR
  unfold rightS at hr
  simp only [Bool.and_eq_true, decide_eq_true_eq] at hr
  obtain ⟨⟨_, hd6⟩, hm4, _⟩ := hr
  have HG := hid (fun (u : ByteArray) (hu : u.size ≤ 9223372036854775807) (c n k : Nat) (hx : nextV (bytesOf u) = (c, n, k)) (W : World) => refGet_is u hu hx W)
  have HG1 := hid (fun W => refGet_is s hs hx W)
  have hn64 := (nextV_is (bytesOf s)).1
  rw [hx] at hn64
  dsimp only at hn64
  obtain ⟨ad, cd, rfl, _, _, _⟩ := SlAt.shape hd
  obtain ⟨am', cm, rfl, _, _, _⟩ := SlAt.shape hm
  clear hd hm
  generalize ds.length = nd at *
  generalize ms.length = nm at *
  obtain ⟨s1, hs1⟩ : ∃ s1, s.extract k s.size = s1 := ⟨_, rfl⟩
  have hs1z : s1.size ≤ 9223372036854775807 := by rw [← hs1, ByteArray.size_extract]; omega
  have HV0 := hid hv; have HS1 := hid hs1; have HF := hid hF
  rw [hs1] at HG1
  have hn2 : ¬ (1000000000000 : Int) < (n : Int) := by omega
  clear hv hs1 hF hx
  go_enter Tryd.func11, Tryd.ntmps11
  go_wp2_with (first
    | (go_at_call 20; ((with_reducible refine (HR.out _ (by (repeat' (first | (with_reducible exact Below.refl _ _) | (with_reducible assumption) | (with_reducible refine Below.new ?_ _) | (with_reducible refine Below.alloc ?_ ?_ _) | (with_reducible refine Below.drew ?_) | (with_reducible refine Below.drewN ?_ _) | (with_reducible refine Below.setCell ?_ ?_ _) | (refine Below.step ?_ (by assumption)) | go_size)))).mono ?_); rintro e w1 ⟨rfl, hb1⟩; have q0 := (hb1.block w.heap.size (by simp; omega)).trans (show _ = some (Obj.cells #[.slice ad nd cd, .slice am' nm cm, .int .i64 g] 24 (0, 0)) by (simp (disch := first | omega | (simp only [World.size_alloc, World.size_setCell, World.size_drew]; done) | (simp only [World.size_alloc, World.size_setCell, World.size_drew]; omega)) only [heap_at, heap_past, heap_set_other, heap_set_same])); have q1 := (hb1.block (w.heap.size + 1) (by simp)).trans (show _ = some zeroR by (simp (disch := first | omega | (simp only [World.size_alloc, World.size_setCell, World.size_drew]; done) | (simp only [World.size_alloc, World.size_setCell, World.size_drew]; omega)) only [heap_at, heap_past, heap_set_other, heap_set_same])); obtain ⟨hc1, hf1, hk1, hz1⟩ := bcell3 hb1; (try simp only [World.size_alloc, World.size_drew] at hz1); have : w.heap.size < w1.heap.size := (by omega); have : w.heap.size + 1 < w1.heap.size := (by omega)))
    | (go_at_call 26; go_loud ((with_reducible refine (HG1.out _).mono ?_); rintro e w2 ⟨rfl, hb2⟩; obtain ⟨hc2, hf2, hk2, hz2⟩ := bcell3 hb2; (try simp only [World.size_alloc, World.size_drew] at hz2); have : w.heap.size < w2.heap.size := (by omega); have : w.heap.size + 1 < w2.heap.size := (by omega); have q2 := blk_below q1 hb2; have q3 := blk_below q0 hb2)))
  have hBw : Below w.heap.size w w2 := by (repeat' (first | (with_reducible exact Below.refl _ _) | (with_reducible assumption) | (with_reducible refine Below.new ?_ _) | (with_reducible refine Below.alloc ?_ ?_ _) | (with_reducible refine Below.drew ?_) | (with_reducible refine Below.drewN ?_ _) | (with_reducible refine Below.setCell ?_ ?_ _) | (refine Below.step ?_ (by assumption)) | go_size))
  have hwz : w.heap.size + 1 + 1 ≤ w2.heap.size := by omega
  clear hc1 hf1 hk1 hz1 hc2 hf2 hk2 hz2 q0 q1 hb1 hb2
  go_loopw [7, 8, 9, 11] (fun nn u e i wr => ∃ q : Nat, q ≤ nd ∧ i = .int .i64 q ∧ wr.heap[w.heap.size]? = some (.cells #[.slice ad nd cd, .slice am' nm cm, .int .i64 g] 24 (0, 0)) ∧ wr.heap[w.heap.size + 1]? = some zeroR ∧ Below w.heap.size w wr ∧ w2.heap.size < wr.heap.size ∧
    ((e = .int .i64 0 ∧ u = .string (restV s1 q) ∧ okTill s1 q ∧ ∃ v, wr.heap[w2.heap.size]? = some (.cells #[.int .i64 (n : Int), v, .slice none 0 0] 28 (0, 0)) ∧ wr.ownsRow (w2.heap.size + 1) 41 2 v q (valsT s1 q)) ∨ (∃ C : Nat, C ≠ 0 ∧ e = .int .i64 (C : Int) ∧ F = ⟨C, 0, [], [], s⟩))) (fun _ _ _ i _ => nd - (intOf i).toNat)
  case atStart => exact ⟨0, Nat.zero_le _, rfl, blk_below q3 (by (repeat' (first | (with_reducible exact Below.refl _ _) | (with_reducible assumption) | (with_reducible refine Below.new ?_ _) | (with_reducible refine Below.alloc ?_ ?_ _) | (with_reducible refine Below.drew ?_) | (with_reducible refine Below.drewN ?_ _) | (with_reducible refine Below.setCell ?_ ?_ _) | (refine Below.step ?_ (by assumption)) | go_size))), blk_below q2 (by (repeat' (first | (with_reducible exact Below.refl _ _) | (with_reducible assumption) | (with_reducible refine Below.new ?_ _) | (with_reducible refine Below.alloc ?_ ?_ _) | (with_reducible refine Below.drew ?_) | (with_reducible refine Below.drewN ?_ _) | (with_reducible refine Below.setCell ?_ ?_ _) | (refine Below.step ?_ (by assumption)) | go_size))), hBw.alloc (by omega) _, by simp, .inl ⟨rfl, rfl, fun j hj => absurd hj (Nat.not_lt_zero _), .slice none 0 0, heap_at rfl, World.ownsRow_nil _ _ _ _⟩⟩
  case round =>
    clear q2 q3 hBw
    obtain ⟨q, hq, rfl, hsc, hzr, hB, hzz, hcase⟩ := hrel
    obtain ⟨c0, c1, c2, c3, c4, c5⟩ := three_at hsc
    rcases hcase with ⟨rfl, rfl, hok, v, hbox, hrow⟩ | ⟨C, hC, rfl, hFC⟩
    · have zwr : w.heap.size + 1 < wr.heap.size := by omega
      obtain ⟨ao, cap, rfl⟩ := hrow.shape
      obtain ⟨e0, e1, e2, e3, e4, e5⟩ := three_at hbox
      have HB := hid hB; have HOK := hid hok
      clear hB hok
      by_cases hqn : q < nd
      · have g1 : (q : Int) < (nd : Int) := by omega
        have hUz : (restV s1 q).size ≤ 9223372036854775807 := Nat.le_trans (restV_le s1 q) hs1z
        obtain ⟨U, hU⟩ : ∃ U, restV s1 q = U := ⟨_, rfl⟩
        have hnx : restV s1 (q + 1) = U.extract (readV U).2.2 U.size := by rw [restV, hU]
        have hvs := valsT_succ s1 q
        have hbadV : ∀ C : Nat, C ≠ 0 → (readV U).1 = C → F = ⟨C, 0, [], [], s⟩ := fun C hC hr => by
          rw [← HF.out]
          exact rowF_dims HV0.out (by rw [HS1.out]; exact (valsF_bad nd s1 q hqn HOK.out (by rw [hU, hr]; exact hC)).trans (by rw [hU, hr])) hC
        have HOK2 : Hid ((readV U).1 = 0 → okTill s1 (q + 1)) := fun h => okTill_succ HOK.out (by rw [hU]; exact h)
        rw [hU] at hUz hvs ⊢
        obtain ⟨c, m, j, hy⟩ : ∃ c m j, nextV (bytesOf U) = (c, m, j) := ⟨_, _, _, rfl⟩
        have HGU := hid (fun W => HG.out U hUz c m j hy W)
        have hm64 := (nextV_is (bytesOf U)).1
        rw [hy] at hm64
        dsimp only at hm64
        obtain ⟨V, hV⟩ : ∃ V, U.extract j U.size = V := ⟨_, rfl⟩
        have hVz : V.size = U.size - j := by rw [← hV, ByteArray.size_extract]; omega
        have hVend : ∀ b, V.extract b V.size = U.extract (j + b) U.size := fun b => by rw [← hV]; exact sx_end U j b
        rw [hV] at HGU
        have HVE := hid hV; have HVD := hid hVend
        clear hV hVend
        have HNX := hid hnx; have HVS := hid hvs; have HBV := hid hbadV
        clear hnx hvs hbadV hU
        rcases readV_cases hy with ⟨hc, hv⟩ | ⟨rfl, hm, hv⟩ | ⟨rfl, rfl, hv⟩ | ⟨rfl, hm0, hm1, hz, hv⟩ | ⟨rfl, hm0, hm1, hz, hv⟩
        · have hFC := HBV.out c hc hv
          have hc1 : decide ((c : Int) = 0) = false := by simp; omega
          have hc2 : ¬ (c : Int) = 0 := by omega
          have hc3 : ((c : Int) == 0) = false := by simp; omega
          have HFC := hid hFC
          clear hFC hv hy hrow
          go_wp2_with (go_at_call 26; go_loud ((with_reducible refine (HGU.out _).mono ?_); rintro e w5 ⟨rfl, hb5⟩))
          go_roundw
          case rel => exact ⟨q + 1, hqn, by go_num, blk_below hsc hb5, blk_below hzr hb5, HB.out.trans (hb5.mono (by omega)), by have := hb5.size; omega, .inr ⟨c, hc, rfl, HFC.out⟩⟩
          case measure => simp [intOf]; omega
        · have HFC := hid (HBV.out 101 (by decide) hv)
          have hm2 : (101 : Int) < (m : Int) := by omega
          clear hv hy hrow
          go_wp2_with (go_at_call 26; go_loud ((with_reducible refine (HGU.out _).mono ?_); rintro e w5 ⟨rfl, hb5⟩))
          go_roundw
          case rel => exact ⟨q + 1, hqn, by go_num, blk_below hsc hb5, blk_below hzr hb5, HB.out.trans (hb5.mono (by omega)), by have := hb5.size; omega, .inr ⟨101, by decide, rfl, HFC.out⟩⟩
          case measure => simp [intOf]; omega
        · have hr5 := fun W (h : Below wr.heap.size wr W) => row_below hrow h
          have hv1 : (readV U).2.1 = ⟨noV, true⟩ := by rw [hv]
          have hv2 : (readV U).2.2 = j := by rw [hv]
          have hok5 := HOK2.out (by rw [hv])
          have HR5 := hid hr5; have HV1 := hid hv1; have HV2 := hid hv2; have HOK5 := hid hok5
          clear hv hy hrow hr5 hv1 hv2 hok5
          go_wp2_with (first
            | (go_at_call 26; go_loud ((with_reducible refine (HGU.out _).mono ?_); rintro e w5 ⟨rfl, hb5⟩; have hrow5 := HR5.out _ hb5; have hbox5 := blk_below hbox hb5; obtain ⟨y0, y1, y2, y3, y4, y5⟩ := three_at hbox5; have hz5 := hb5.size; have hl5 : w2.heap.size < w5.heap.size := (by omega)))
            | (at_builtin; go_loud (refine wpList_append_own _ rfl _ _ 25 rfl (w2.heap.size + 1) 41 i0 (.agg #[.string { data := #[] }, .bool false]) 2 24 Tryd.underlying25 hi hiz0 hiz1 hiz2 rfl (by decide) _ _ _ rfl (hrow5.alloc _) ⟨w5.heap.size, 0, none⟩ 1 1 [.string { data := #[] }, .bool true] rfl rfl (two_new _ _ _ _) (val_one _ _) (by unfold maxLen; omega) (by omega) (by simp; omega) ?_); intro v' w1' hown' hgrow' hnil'; obtain ⟨g', cap', rfl⟩ := ownsRow_succ hown'; have hbox' := (hgrow'.block w2.heap.size (by simp; omega) (fun e => by have := (hrow5.lt _ e.symm).1; omega)).trans ((heap_past (by omega)).trans hbox5); obtain ⟨e0', e1', e2', e3', e4', e5'⟩ := three_at hbox'))
          have hgz := hgrow'.size
          simp only [World.size_alloc] at hgz
          have far : ∀ (b : Nat) (o : Obj), b < w2.heap.size → w5.heap[b]? = some o → (w1'.setCell ⟨w2.heap.size, 1, none⟩ (.slice (some ⟨g', 0, none⟩) (q + 1) cap')).heap[b]? = some o := fun b o hb ho => (heap_set_other (by omega)).trans ((hgrow'.block b (by have := blk_lt ho; simp; omega) (fun e => by have := (hrow5.lt _ e.symm).1; omega)).trans ((heap_past (by have := blk_lt ho; omega)).trans ho))
          have hown2 : w1'.ownsRow (w2.heap.size + 1) 41 2 (.slice (some ⟨g', 0, none⟩) (q + 1) cap') (q + 1) (valsT s1 (q + 1)) := by rw [HVS.out, HV1.out]; exact hown'
          have hg3 := (row_of_own hown2 g' rfl).1
          have hB9 : Below w.heap.size w (w1'.setCell ⟨w2.heap.size, 1, none⟩ (.slice (some ⟨g', 0, none⟩) (q + 1) cap')) := (((HB.out.trans (hb5.mono (by omega))).alloc (by omega) _).grown hgrow' (by simp; omega) (fun r e => by have := (hrow5.lt r e).1; omega)).setCell (by dsimp only; omega) _
          have hbx := blk_set (o := 1) (v := .slice (some ⟨g', 0, none⟩) (q + 1) cap') hbox'
          have hrx : (w1'.setCell ⟨w2.heap.size, 1, none⟩ (.slice (some ⟨g', 0, none⟩) (q + 1) cap')).ownsRow (w2.heap.size + 1) 41 2 (.slice (some ⟨g', 0, none⟩) (q + 1) cap') (q + 1) (valsT s1 (q + 1)) := row_far hown2 (by omega)
          exact ⟨⟨q + 1, hqn, by go_num, far _ _ (by omega) (blk_below hsc hb5), far _ _ (by omega) (blk_below hzr hb5), hB9, by simp; omega, .inl ⟨rfl, by rw [HNX.out, HV2.out, HVE.out], HOK5.out, _, by simpa using hbx, hrx⟩⟩, by simp [intOf]; omega⟩
        · obtain ⟨m', rfl⟩ : ∃ m', m = m' + 1 := ⟨m - 1, by omega⟩
          have HFC := hid (HBV.out 21 (by decide) hv)
          have hz2 : (V.size : Int) < (m' : Int) := by omega
          have hz3 : V.size < m' := by omega
          have hm2 : ¬ (101 : Int) < (m' : Int) + 1 := by omega
          have hm3 : (0 : Int) < (m' : Int) + 1 := by omega
          clear hv hy hrow
          go_wp2_with (go_at_call 26; go_loud ((with_reducible refine (HGU.out _).mono ?_); rintro e w5 ⟨rfl, hb5⟩))
          go_roundw
          case rel => exact ⟨q + 1, hqn, by go_num, blk_below hsc hb5, blk_below hzr hb5, HB.out.trans (hb5.mono (by omega)), by have := hb5.size; omega, .inr ⟨21, by decide, rfl, HFC.out⟩⟩
          case measure => simp [intOf]; omega
        · obtain ⟨m', rfl⟩ : ∃ m', m = m' + 1 := ⟨m - 1, by omega⟩
          have hr5 := fun W (h : Below wr.heap.size wr W) => row_below hrow h
          rw [Nat.add_sub_cancel] at hv hz
          have hz3 : m' ≤ V.size := by omega
          have hV1 : (readV U).2.1 = ⟨V.extract 0 m', false⟩ := by rw [hv, HVE.out]
          have hV2 : (readV U).2.2 = j + m' := by rw [hv]
          have hok5 := HOK2.out (by rw [hv])
          have hm2 : ¬ (101 : Int) < (m' : Int) + 1 := by omega
          have hm3 : (0 : Int) < (m' : Int) + 1 := by omega
          have hqb : V.size ≤ 9223372036854775807 := by omega
          have hz2 : ¬ (V.size : Int) < (m' : Int) := by omega
          have hz4 : (0 : Int) ≤ (m' : Int) := by omega
          have hz6 : (m' : Int) ≤ (V.size : Int) := by omega
          have HR5 := hid hr5; have HV1 := hid hV1; have HV2 := hid hV2; have HOK5 := hid hok5
          clear hv hy hrow hr5 hV1 hV2 hok5 hz hVz
          go_wp2_with (go_at_call 26; go_loud ((with_reducible refine (HGU.out _).mono ?_); rintro e w5 ⟨rfl, hb5⟩; have hrow5 := HR5.out _ hb5; have hbox5 := blk_below hbox hb5; obtain ⟨y0, y1, y2, y3, y4, y5⟩ := three_at hbox5; have hz5 := hb5.size; have hl5 : w2.heap.size < w5.heap.size := (by omega)))
          have hS0 : (fun w' : World => w'.cell? ⟨w2.heap.size, 1, none⟩ = some (.slice ao q cap)) w5.drew := by go_simp
          refine wp_norm ?_
          refine wp_region_some (fun w' : World => w'.cell? ⟨w2.heap.size, 1, none⟩ = some (.slice ao q cap)) [8, 9, 10] (by kernel_rfl) ?_
          have hwr : IntKind.u64.wrap (m' : Int) = (m' : Int) := by unfold IntKind.wrap; simp [IntKind.bits, IntKind.signed]; omega
          (refine wpMix_take (i := 0) (v := ?_) rfl (by kernel_rfl) (fun _ _ _ h => h) (Or.inl ⟨by rfl, ?_⟩) hS0 ?_; rotate_left 1; (focus (intro w hSw; (try dsimp only at hSw); go_simp; try (with_reducible rfl))); (try simp only [Act.put, List.setIfInBounds_toArray, List.set_cons_zero, List.set_cons_succ]))
          (refine wpMix_take (i := 1) (v := ?_) rfl (by kernel_rfl) (fun _ _ _ h => h) (Or.inl ⟨by rfl, ?_⟩) hS0 ?_; rotate_left 1; (focus (intro w hSw; (try dsimp only at hSw); go_simp; try (with_reducible rfl))); (try simp only [Act.put, List.setIfInBounds_toArray, List.set_cons_zero, List.set_cons_succ]))
          (refine wpMix_take (i := 2) (v := ?_) rfl (by kernel_rfl) (fun _ _ _ h => h) (Or.inl ⟨by rfl, ?_⟩) hS0 ?_; rotate_left 1; (focus (intro w hSw; (try dsimp only at hSw); go_simp; try (with_reducible rfl))); (try simp only [Act.put, List.setIfInBounds_toArray, List.set_cons_zero, List.set_cons_succ]))
          (refine wpMix_take (i := 3) (v := ?_) rfl (by kernel_rfl) (fun _ _ _ h => h) (Or.inl ⟨by rfl, ?_⟩) hS0 ?_; rotate_left 1; (focus (intro w hSw; (try dsimp only at hSw); go_simp; try (with_reducible rfl))); (try simp only [Act.put, List.setIfInBounds_toArray, List.set_cons_zero, List.set_cons_succ]))
          (refine wpMix_take (i := 4) (v := ?_) rfl (by kernel_rfl) (fun _ _ _ h => h) (Or.inl ⟨by rfl, ?_⟩) hS0 ?_; rotate_left 1; (focus (intro w hSw; (try dsimp only at hSw); go_simp; try (with_reducible rfl))); (try simp only [Act.put, List.setIfInBounds_toArray, List.set_cons_zero, List.set_cons_succ]))
          (refine wpMix_take (i := 5) (v := ?_) rfl (by kernel_rfl) (fun _ _ _ h => h) (Or.inl ⟨by rfl, ?_⟩) hS0 ?_; rotate_left 1; (focus (intro w hSw; (try dsimp only at hSw); go_simp; try (with_reducible rfl))); (try simp only [Act.put, List.setIfInBounds_toArray, List.set_cons_zero, List.set_cons_succ]))
          (refine wpMix_take (i := 6) (v := ?_) rfl (by kernel_rfl) (fun _ _ _ h => h) (Or.inl ⟨by rfl, ?_⟩) hS0 ?_; rotate_left 1; (focus (intro w hSw; (try dsimp only at hSw); go_simp; try (with_reducible rfl))); (try simp only [Act.put, List.setIfInBounds_toArray, List.set_cons_zero, List.set_cons_succ]))
          clear hwr
          refine wpMix_next (t := 7) (by kernel_rfl) ?_
          simp only [opsAt, List.flatMap_cons, List.flatMap_nil, List.take_succ_cons, List.take_zero, List.drop_succ_cons, List.drop_zero, List.append_nil, List.cons_append, List.nil_append]
          go_wp2
          refine ⟨cell_new hS0 _, ?_⟩
          refine wpMix_rest [8, 9, 10] (by kernel_rfl) ?_
          simp only [opsAt, List.flatMap_cons, List.flatMap_nil, List.take_succ_cons, List.take_zero, List.drop_succ_cons, List.drop_zero, List.append_nil, List.cons_append, List.nil_append]
          go_wp2_with (at_builtin; go_loud (refine wpList_append_own _ rfl _ _ 25 rfl (w2.heap.size + 1) 41 i0 (.agg #[.string { data := #[] }, .bool false]) 2 24 Tryd.underlying25 hi hiz0 hiz1 hiz2 rfl (by decide) _ _ _ rfl ((hrow5.alloc _).drew) ⟨w5.heap.size, 0, none⟩ 1 1 [.string (V.extract 0 m'), .bool false] rfl rfl (two_new _ _ _ _) (val_one _ _) (by unfold maxLen; omega) (by omega) (by simp; omega) ?_); intro v' w1' hown' hgrow' hnil'; obtain ⟨g', cap', rfl⟩ := ownsRow_succ hown'; have hbox' := (hgrow'.block w2.heap.size (by simp; omega) (fun e => by have := (hrow5.lt _ e.symm).1; omega)).trans ((heap_past (w := w5.drew) (by simp; omega)).trans hbox5); obtain ⟨e0', e1', e2', e3', e4', e5'⟩ := three_at hbox')
          refine qn ?_
          have hgz := hgrow'.size
          simp only [World.size_alloc, World.size_drew] at hgz
          have far : ∀ (b : Nat) (o : Obj), b < w2.heap.size → w5.heap[b]? = some o → (w1'.setCell ⟨w2.heap.size, 1, none⟩ (.slice (some ⟨g', 0, none⟩) (q + 1) cap')).heap[b]? = some o := fun b o hb ho => (heap_set_other (by omega)).trans ((hgrow'.block b (by have := blk_lt ho; simp; omega) (fun e => by have := (hrow5.lt _ e.symm).1; omega)).trans ((heap_past (by have := blk_lt ho; simp; omega)).trans ho))
          have hown2 : w1'.ownsRow (w2.heap.size + 1) 41 2 (.slice (some ⟨g', 0, none⟩) (q + 1) cap') (q + 1) (valsT s1 (q + 1)) := by rw [HVS.out, HV1.out]; exact hown'
          have hg3 := (row_of_own hown2 g' rfl).1
          have hB9 : Below w.heap.size w (w1'.setCell ⟨w2.heap.size, 1, none⟩ (.slice (some ⟨g', 0, none⟩) (q + 1) cap')) := ((((HB.out.trans (hb5.mono (by omega))).drew).alloc (by simp; omega) _).grown hgrow' (by simp; omega) (fun r e => by have := (hrow5.lt r e).1; omega)).setCell (by dsimp only; omega) _
          have hbx := blk_set (o := 1) (v := .slice (some ⟨g', 0, none⟩) (q + 1) cap') hbox'
          have hrx : (w1'.setCell ⟨w2.heap.size, 1, none⟩ (.slice (some ⟨g', 0, none⟩) (q + 1) cap')).ownsRow (w2.heap.size + 1) 41 2 (.slice (some ⟨g', 0, none⟩) (q + 1) cap') (q + 1) (valsT s1 (q + 1)) := row_far hown2 (by omega)
          go_wp2
          exact ⟨⟨q + 1, hqn, by go_num, far _ _ (by omega) (blk_below hsc hb5), far _ _ (by omega) (blk_below hzr hb5), hB9, by simp; omega, .inl ⟨rfl, by rw [HNX.out, HV2.out, ← HVD.out m'], HOK5.out, _, by simpa using hbx, hrx⟩⟩, by simp [intOf]; omega⟩
      · obtain rfl : q = nd := by omega
        rename World => W0
        have hvf := valsF_ok q s1 HOK.out
        have hvt : valsT s1 q = ((List.range q).map fun i => (readV (restV s1 i)).2.1).flatMap ValD.cells := rfl
        have hll : ((List.range q).map fun i => (readV (restV s1 i)).2.1).length = q := by simp
        obtain ⟨l, hl⟩ : ∃ l, ((List.range q).map fun i => (readV (restV s1 i)).2.1) = l := ⟨_, rfl⟩
        obtain ⟨s2, hs2⟩ : ∃ s2, restV s1 q = s2 := ⟨_, rfl⟩
        have hs2z : s2.size ≤ 9223372036854775807 := by have := restV_le s1 q; rw [hs2] at this; omega
        rw [hl] at hvf hvt hll
        rw [hs2] at hvf ⊢
        rw [hvt] at hrow
        have HVF := hid hvf; have HLL := hid hll
        clear hvf hvt hl hs2 hll HOK
        have hVD : ∀ g0, (Value.slice ao q cap).ownBlock = some g0 → w2.heap.size + 1 ≤ g0 ∧ g0 < W0.heap.size := fun g0 e => hrow.lt g0 e
        have HVD := hid hVD
        clear hVD
        go_wp2
        clear c0 c1 c2 c3 c4 c5 e0 e1 e2 e3 e4 e5
        go_loopw [7, 8, 9, 12] (fun nn u e i wr2 => ∃ j : Nat, j ≤ nm ∧ i = .int .i64 j ∧ wr2.heap[w.heap.size]? = some (.cells #[.slice ad q cd, .slice am' nm cm, .int .i64 g] 24 (0, 0)) ∧ wr2.heap[w.heap.size + 1]? = some zeroR ∧ Below w.heap.size w wr2 ∧ W0.heap.size ≤ wr2.heap.size ∧
          ((e = .int .i64 0 ∧ ∃ ys uu, u = .string uu ∧ NumsRd nm s2 j ys uu ∧ (∃ vn, wr2.heap[w2.heap.size]? = some (.cells #[.int .i64 (n : Int), .slice ao q cap, vn] 28 (0, 0)) ∧ wr2.ownsRow W0.heap.size 2 1 vn j (ys.map (Value.int .i64))) ∧ wr2.ownsRow (w2.heap.size + 1) 41 2 (.slice ao q cap) q (l.flatMap ValD.cells)) ∨ (∃ C : Nat, C ≠ 0 ∧ e = .int .i64 (C : Int) ∧ F = ⟨C, 0, [], [], s⟩))) (fun _ _ _ i _ => nm - (intOf i).toNat)
        case atStart => exact ⟨0, Nat.zero_le _, rfl, hsc, hzr, HB.out, Nat.le_refl _, .inl ⟨rfl, [], s2, rfl, NumsRd.zero _ _, ⟨_, hbox, World.ownsRow_nil _ _ _ _⟩, hrow⟩⟩
        case round =>
          clear hsc hzr hbox hrow HB
          obtain ⟨j, hj, rfl, hsc, hzr, hB, hzX, hcase⟩ := hrel
          obtain ⟨c0, c1, c2, c3, c4, c5⟩ := three_at hsc
          obtain ⟨z0, z1, z2, z3, z4, z5⟩ := three_at hzr
          have HB := hid hB
          clear hB
          rcases hcase with ⟨rfl, ys, uu, rfl, hnr, ⟨vn, hbox, hrn⟩, hrow⟩ | ⟨C, hC, rfl, hFC⟩
          · obtain ⟨bo, bcap, rfl⟩ := hrn.shape
            obtain ⟨e0, e1, e2, e3, e4, e5⟩ := three_at hbox
            have hzw : w2.heap.size + 1 ≤ wr.heap.size := by omega
            by_cases hjn : j < nm
            · have g1 : (j : Int) < (nm : Int) := by omega
              obtain ⟨c, m, x, hy⟩ : ∃ c m x, nextV (bytesOf uu) = (c, m, x) := ⟨_, _, _, rfl⟩
              have HGU := hid (fun W => HG.out uu (by have := hnr.size; omega) c m x hy W)
              have hm64 := (nextV_is (bytesOf uu)).1
              rw [hy] at hm64
              dsimp only at hm64
              have HBK := hid (fun W => refBack_any (m : Int) (by omega) W)
              have hny := numV_next (bytesOf uu)
              rw [hy] at hny
              have HNY := hid hny; have HNR := hid hnr
              clear hny hnr hy
              go_wp2_with (go_at_call 26; go_loud ((with_reducible refine (HGU.out _).mono ?_); rintro e w5 ⟨rfl, hb5⟩; have hrn5 := row_below hrn hb5; have hbox5 := blk_below hbox hb5; have hrow5 := row_below hrow hb5; obtain ⟨y0, y1, y2, y3, y4, y5⟩ := three_at hbox5; have hz5 := hb5.size; have hl5 : w2.heap.size < w5.heap.size := (by omega)))
              have hS0 : (fun w' : World => w'.cell? ⟨w2.heap.size, 2, none⟩ = some (.slice bo j bcap)) w5.drew := by go_simp
              refine wp_norm ?_
              refine wp_region_some (fun w' : World => w'.cell? ⟨w2.heap.size, 2, none⟩ = some (.slice bo j bcap)) [5, 6, 7] (by kernel_rfl) ?_
              (refine wpMix_take (i := 0) (v := ?_) rfl (by kernel_rfl) (fun _ _ _ h => h) (Or.inl ⟨by rfl, ?_⟩) hS0 ?_; rotate_left 1; (focus (intro w hSw; (try dsimp only at hSw); go_simp; try (with_reducible rfl))); (try simp only [Act.put, List.setIfInBounds_toArray, List.set_cons_zero, List.set_cons_succ]))
              (refine wpMix_take (i := 1) (v := ?_) rfl (by kernel_rfl) (fun _ _ _ h => h) (Or.inl ⟨by rfl, ?_⟩) hS0 ?_; rotate_left 1; (focus (intro w hSw; (try dsimp only at hSw); go_simp; try (with_reducible rfl))); (try simp only [Act.put, List.setIfInBounds_toArray, List.set_cons_zero, List.set_cons_succ]))
              (refine wpMix_take (i := 2) (v := ?_) rfl (by kernel_rfl) (fun _ _ _ h => h) (Or.inl ⟨by rfl, ?_⟩) hS0 ?_; rotate_left 1; (focus (intro w hSw; (try dsimp only at hSw); go_simp; try (with_reducible rfl))); (try simp only [Act.put, List.setIfInBounds_toArray, List.set_cons_zero, List.set_cons_succ]))
              refine wpMix_next (t := 3) (by kernel_rfl) ?_
              simp only [opsAt, List.flatMap_cons, List.flatMap_nil, List.take_succ_cons, List.take_zero, List.drop_succ_cons, List.drop_zero, List.append_nil, List.cons_append, List.nil_append]
              go_wp2_with (go_at_call 27; go_loud ((with_reducible refine (HBK.out _).mono ?_); rintro e w6 ⟨rfl, hb6⟩))
              refine ⟨cell_step hS0 hb6, ?_⟩
              have hS6 := cell_step hS0 hb6
              refine wpMix_next (t := 4) (by kernel_rfl) ?_
              simp only [opsAt, List.flatMap_cons, List.flatMap_nil, List.take_succ_cons, List.take_zero, List.drop_succ_cons, List.drop_zero, List.append_nil, List.cons_append, List.nil_append]
              go_wp2
              refine ⟨cell_new hS6 _, ?_⟩
              refine wpMix_rest [5, 6, 7] (by kernel_rfl) ?_
              simp only [opsAt, List.flatMap_cons, List.flatMap_nil, List.take_succ_cons, List.take_zero, List.drop_succ_cons, List.drop_zero, List.append_nil, List.cons_append, List.nil_append]
              have hz6 := hb6.size
              simp only [World.size_drew] at hz6
              have hB6 : Below w5.heap.size w5 w6 := (Below.drew (Below.refl _ _)).trans hb6
              have hrn6 : w6.ownsRow W0.heap.size 2 1 (.slice bo j bcap) j (ys.map (Value.int .i64)) := row_below hrn5 hB6
              have hrow6 := row_below hrow5 hB6
              have hbox6 := blk_below hbox5 hB6
              clear hrn5 hrow5 hS0 hS6 hrn hrow
              go_wp2_with (at_builtin; go_loud (refine wpList_append_own _ rfl _ _ 26 rfl (W0.heap.size) 2 j0 (.int .i64 0) 1 8 Tryd.underlying26 hj0 hjz0 hjz1 hjz2 rfl (by decide) _ _ _ rfl (hrn6.alloc _) ⟨w6.heap.size, 0, none⟩ 1 1 [.int .i64 (backV (m : Int))] rfl rfl (one_new _ _ _) (one_int _ _) (by unfold maxLen; omega) (by omega) (by simp; omega) ?_); intro v' w1' hown' hgrow' hnil'; obtain ⟨g', cap', rfl⟩ := ownsRow_succ hown'; have hbox' := (hgrow'.block w2.heap.size (by simp; omega) (fun e => by have := (hrn6.lt _ e.symm).1; omega)).trans ((heap_past (by omega)).trans hbox6); obtain ⟨e0', e1', e2', e3', e4', e5'⟩ := three_at hbox')
              refine qn ?_
              have hgz := hgrow'.size
              simp only [World.size_alloc] at hgz
              have hX6 : W0.heap.size ≤ w6.heap.size := by omega
              have far : ∀ (b : Nat) (o : Obj), b < w2.heap.size → wr.heap[b]? = some o → (w1'.setCell ⟨w2.heap.size, 2, none⟩ (.slice (some ⟨g', 0, none⟩) (j + 1) cap')).heap[b]? = some o := fun b o hb ho =>
                (heap_set_other (by omega)).trans ((hgrow'.block b (by simp; omega) (fun e => by have := (hrn6.lt _ e.symm).1; omega)).trans ((heap_past (by omega)).trans (blk_below (blk_below ho hb5) hB6)))
              have hown2 : w1'.ownsRow W0.heap.size 2 1 (.slice (some ⟨g', 0, none⟩) (j + 1) cap') (j + 1) ((ys ++ [backV (m : Int)]).map (Value.int .i64)) := by rw [List.map_append]; exact hown'
              have hvr : w1'.ownsRow (w2.heap.size + 1) 41 2 (.slice ao q cap) q (l.flatMap ValD.cells) := (row_below hrow6 (by (repeat' (first | (with_reducible exact Below.refl _ _) | (with_reducible assumption) | (with_reducible refine Below.new ?_ _) | (with_reducible refine Below.alloc ?_ ?_ _) | (with_reducible refine Below.drew ?_) | (with_reducible refine Below.drewN ?_ _) | (with_reducible refine Below.setCell ?_ ?_ _) | (refine Below.step ?_ (by assumption)) | go_size)))).kept hgrow' (by
                cases hq : (Value.slice ao q cap).ownBlock with
                | none => exact .inl rfl
                | some g0 => exact .inr fun e => by have := HVD.out g0 hq; have := (hrn6.lt g0 e.symm).1; omega)
              have hB9 : Below w.heap.size w (w1'.setCell ⟨w2.heap.size, 2, none⟩ (.slice (some ⟨g', 0, none⟩) (j + 1) cap')) := ((((HB.out.trans (hb5.mono (by omega))).trans (hB6.mono (by omega))).alloc (by omega) _).grown hgrow' (by simp; omega) (fun r e => by have := (hrn6.lt r e).1; omega)).setCell (by dsimp only; omega) _
              have hbx := blk_set (o := 2) (v := .slice (some ⟨g', 0, none⟩) (j + 1) cap') hbox'
              have g0 := far _ _ (by omega) hsc
              have g2 := far _ _ (by omega) hzr
              have hrx := row_far (o := 2) (u := .slice (some ⟨g', 0, none⟩) (j + 1) cap') hown2 (show w2.heap.size < W0.heap.size by omega)
              have hvx := row_far (o := 2) (u := .slice (some ⟨g', 0, none⟩) (j + 1) cap') hvr (show w2.heap.size < w2.heap.size + 1 by omega)
              go_wp2
              by_cases hc : c = 0
              · subst hc
                exact ⟨⟨j + 1, hjn, by go_num, g0, g2, hB9, by simp; omega, .inl ⟨rfl, _, _, rfl, HNR.out.step hjn HNY.out, ⟨_, by simpa using hbx, hrx⟩, hvx⟩⟩, by simp [intOf]; omega⟩
              · exact ⟨⟨j + 1, hjn, by go_num, g0, g2, hB9, by simp; omega, .inr ⟨c, hc, rfl, by rw [← HF.out]; exact rowF_nums HV0.out (by rw [HS1.out]; exact HVF.out) (HNR.out.bad hjn HNY.out hc) hc⟩⟩, by simp [intOf]; omega⟩
            · obtain rfl : j = nm := by omega
              have hFF : F = ⟨0, (n : Int), l, ys, uu⟩ := by rw [← HF.out]; exact rowF_ok HV0.out (by rw [HS1.out]; exact HVF.out) hnr.done
              have HFF := hid hFF
              have hlen := hnr.len
              have HR1 := hid hrn; have HR2 := hid hrow; have HLN := hid hlen
              clear hFF hnr hrn hrow hlen hsc
              go_wp2
              ((show bodyPost _ _ _ _ _ _); refine bodyPost_ret (by simp only [results, Tryd.results11]; go_simp; try rfl) rfl ?_)
              rw [HFF.out]
              refine ⟨.slice ao q cap, .slice bo j bcap, rfl, ?_, ?_, below3 HB.out (by omega)⟩
              · dsimp only
                rw [HLL.out]
                exact (row_far3 HR2.out (by omega)).base_le (by omega)
              · dsimp only
                rw [HLN.out]
                exact (row_far3 HR1.out (by omega)).base_le (by omega)
          · have hc1 : decide ((C : Int) = 0) = false := by simp; omega
            have hc2 : ¬ (C : Int) = 0 := by omega
            have hc3 : ((C : Int) == 0) = false := by simp; omega
            have HFC := hid hFC
            clear hFC
            have hzw : w.heap.size + 1 < wr.heap.size := by omega
            by_cases hjn : j < nm
            all_goals
              go_wp2
              ((show bodyPost _ _ _ _ _ _); refine bodyPost_ret (by simp only [results, Tryd.results11]; go_simp; try rfl) rfl ?_)
              rw [HFC.out]
              exact DecPost.bad (below3 HB.out (by omega))
    · have hc1 : decide ((C : Int) = 0) = false := by simp; omega
      have hc2 : ¬ (C : Int) = 0 := by omega
      have hc3 : ((C : Int) == 0) = false := by simp; omega
      have HFC := hid hFC
      have zwr : w.heap.size + 1 < wr.heap.size := by omega
      have HB := hid hB
      obtain ⟨z0, z1, z2, z3, z4, z5⟩ := three_at hzr
      clear hFC hB
      by_cases hqn : q < nd
      all_goals
        have g1 : (q : Int) ≤ (nd : Int) := by omega
        go_wp2
        refine wp_loop_rounds 1 ?_
        rw [rounds_succ]
        by_cases hnm : nm = 0
        · subst hnm
          go_wp2
          ((show bodyPost _ _ _ _ _ _); refine bodyPost_ret (by simp only [results, Tryd.results11]; go_simp; try rfl) rfl ?_)
          rw [HFC.out]
          exact DecPost.bad (below3 HB.out (by omega))
        · have g2 : (0 : Int) < (nm : Int) := by omega
          go_wp2
          ((show bodyPost _ _ _ _ _ _); refine bodyPost_ret (by simp only [results, Tryd.results11]; go_simp; try rfl) rfl ?_)
          rw [HFC.out]
          exact DecPost.bad (below3 HB.out (by omega))
end Go.Proofs.YtdgeinipdphoeaaDoor
/- A row's bytes by the reference. -/
namespace Go.Proofs.YtdgeinipdphoeaaDoor
set_option linter.unusedVariables false
set_option linter.unusedSimpArgs false
set_option maxRecDepth 100000
open Go.ChangeShapes Go.WideShapes Go.ChangeAt Go.RowKit

set_option maxHeartbeats 1000000 in
theorem refEncode_bad (vd vm vr vn : Value) (ds ms : List ByteArray) (g t : Int) (l : List ValD) (xs : List Int) (w : World) (hd : StrsSl w vd ds) (hm : StrsSl w vm ms) (td : Texts ds) (tm : Texts ms) (hr : ValsSl w vr l) (tr : Vals l) (hn : IntsSl w vn xs) (hf : fitsS ds ms g t l xs.length = false) :
    Calls Tryd.prog 9 #[.agg #[vd, vm, .int .i64 g], .agg #[.int .i64 t, vr, vn]] w fun e w' => e = .returned (.tuple #[.string { data := #[] }, .int .i64 (if rightS ds ms g = true then 101 else 100)]) ∧ Below w.heap.size w w' := by
  have HR := hid (fun W (h : Below w.heap.size w W) => refRight_any vd vm ds ms g W (hd.below h) (hm.below h) td tm)
  have HF := hid (fun W (h : Below w.heap.size w W) => refFits_any vd vm vr vn ds ms g t l xs.length _ W (hd.below h) (hm.below h) td tm (hr.below h) tr (hn.below h))
  rw [hf] at HF
  obtain ⟨ad, cd, rfl, _, _, _⟩ := SlAt.shape hd
  obtain ⟨am, cm, rfl, _, _, _⟩ := SlAt.shape hm
  obtain ⟨ar, cr, rfl, _, _, _⟩ := SlAt.shape hr
  obtain ⟨an, cn, rfl, _, _, _⟩ := SlAt.shape hn
  clear hd hm hr hn hf
  generalize ds.length = nd at *
  generalize ms.length = nm at *
  generalize l.length = nl at *
  generalize xs.length = nx at *
  generalize rightS ds ms g = rs at *
  cases rs with
  | false =>
    have HE : Hid ((if false = true then (101 : Int) else 100) = 100) := rfl
    rw [HE.out]
    go_enter Tryd.func9, Tryd.ntmps9
    go_wp2_with (go_at_call 20; ((with_reducible refine (HR.out _ (by (repeat' (first | (with_reducible exact Below.refl _ _) | (with_reducible assumption) | (with_reducible refine Below.new ?_ _) | (with_reducible refine Below.alloc ?_ ?_ _) | (with_reducible refine Below.drew ?_) | (with_reducible refine Below.drewN ?_ _) | (with_reducible refine Below.setCell ?_ ?_ _) | (refine Below.step ?_ (by assumption)) | go_size)))).mono ?_); rintro e w1 ⟨rfl, hb1⟩; obtain ⟨hc1, hf1, hk1, hz1⟩ := bcell3 hb1; (try simp only [World.size_alloc, World.size_drew] at hz1); have : w.heap.size < w1.heap.size := (by omega); have : w.heap.size + 1 < w1.heap.size := (by omega)))
    go_ret2
    exact ⟨rfl, by (repeat' (first | (with_reducible exact Below.refl _ _) | (with_reducible assumption) | (with_reducible refine Below.new ?_ _) | (with_reducible refine Below.alloc ?_ ?_ _) | (with_reducible refine Below.drew ?_) | (with_reducible refine Below.drewN ?_ _) | (with_reducible refine Below.setCell ?_ ?_ _) | (refine Below.step ?_ (by assumption)) | go_size))⟩
  | true =>
    have HE : Hid ((if true = true then (101 : Int) else 100) = 101) := rfl
    rw [HE.out]
    go_enter Tryd.func9, Tryd.ntmps9
    go_wp2_with (first
      | (go_at_call 20; ((with_reducible refine (HR.out _ (by (repeat' (first | (with_reducible exact Below.refl _ _) | (with_reducible assumption) | (with_reducible refine Below.new ?_ _) | (with_reducible refine Below.alloc ?_ ?_ _) | (with_reducible refine Below.drew ?_) | (with_reducible refine Below.drewN ?_ _) | (with_reducible refine Below.setCell ?_ ?_ _) | (refine Below.step ?_ (by assumption)) | go_size)))).mono ?_); rintro e w1 ⟨rfl, hb1⟩; obtain ⟨hc1, hf1, hk1, hz1⟩ := bcell3 hb1; (try simp only [World.size_alloc, World.size_drew] at hz1); have : w.heap.size < w1.heap.size := (by omega); have : w.heap.size + 1 < w1.heap.size := (by omega)))
      | (go_at_call 21; ((with_reducible refine (HF.out _ (by (repeat' (first | (with_reducible exact Below.refl _ _) | (with_reducible assumption) | (with_reducible refine Below.new ?_ _) | (with_reducible refine Below.alloc ?_ ?_ _) | (with_reducible refine Below.drew ?_) | (with_reducible refine Below.drewN ?_ _) | (with_reducible refine Below.setCell ?_ ?_ _) | (refine Below.step ?_ (by assumption)) | go_size)))).mono ?_); rintro e w2 ⟨rfl, hb2⟩)))
    go_ret2
    exact ⟨rfl, by (repeat' (first | (with_reducible exact Below.refl _ _) | (with_reducible assumption) | (with_reducible refine Below.new ?_ _) | (with_reducible refine Below.alloc ?_ ?_ _) | (with_reducible refine Below.drew ?_) | (with_reducible refine Below.drewN ?_ _) | (with_reducible refine Below.setCell ?_ ?_ _) | (refine Below.step ?_ (by assumption)) | go_size))⟩
end Go.Proofs.YtdgeinipdphoeaaDoor
/- A row's bytes by the reference, at a row that fits. -/
namespace Go.Proofs.YtdgeinipdphoeaaDoor
set_option linter.unusedVariables false
set_option linter.unusedSimpArgs false
set_option maxRecDepth 100000
open Go.ChangeShapes Go.WideShapes Go.ChangeAt Go.RowKit

theorem str_app (a b : List UInt8) : (⟨a.toArray⟩ : ByteArray) ++ ⟨b.toArray⟩ = ⟨(a ++ b).toArray⟩ := by
  apply ByteArray.ext
  simp
theorem str_app2 (a : List UInt8) (s : ByteArray) : (⟨a.toArray⟩ : ByteArray) ++ s = ⟨(a ++ s.data.toList).toArray⟩ := by
  apply ByteArray.ext
  simp

set_option maxHeartbeats 4000000 in
theorem refEncode_ok (vd vm vr vn : Value) (ds ms : List ByteArray) (g t : Int) (l : List ValD) (xs : List Int) (w : World) (hd : StrsSl w vd ds) (hm : StrsSl w vm ms) (td : Texts ds) (tm : Texts ms) (hr : ValsSl w vr l) (tr : Vals l) (hn : IntsSl w vn xs) (tn : Nums64 xs) (hf : fitsS ds ms g t l xs.length = true) :
    Calls Tryd.prog 9 #[.agg #[vd, vm, .int .i64 g], .agg #[.int .i64 t, vr, vn]] w fun e w' => e = .returned (.tuple #[strV (rowE t l xs), .int .i64 0]) ∧ Below w.heap.size w w' := by
  have HR := hid (fun W (h : Below w.heap.size w W) => refRight_any vd vm ds ms g W (hd.below h) (hm.below h) td tm)
  have HF := hid (fun W (h : Below w.heap.size w W) => refFits_any vd vm vr vn ds ms g t l xs.length _ W (hd.below h) (hm.below h) td tm (hr.below h) tr (hn.below h))
  rw [hf] at HF
  have hf2 := hf
  unfold fitsS at hf2
  simp only [Bool.and_eq_true, decide_eq_true_eq] at hf2
  obtain ⟨hrs, ⟨ht0, ht1⟩, hll, hxl, hall⟩ := hf2
  rw [hrs] at HR
  unfold rightS at hrs
  simp only [Bool.and_eq_true, decide_eq_true_eq] at hrs
  obtain ⟨⟨_, hd6⟩, hm4, _⟩ := hrs
  have HOK := hid (fun i (hi : i < l.length) => okV_is (List.all_eq_true.1 hall l[i] (List.getElem_mem hi)))
  have hl6 : l.length ≤ 6 := by omega
  have hx4 : xs.length ≤ 4 := by omega
  have HLB : Hid (∀ k, ((l.take k).flatMap valE).length ≤ 660) := fun k => by
    have := vals_le (l.take k) (fun v hv => (okV_is (List.all_eq_true.1 hall v (List.mem_of_mem_take hv))).1)
    rw [List.length_take] at this
    omega
  have HXB : Hid (∀ k, ((xs.take k).flatMap numE).length ≤ 40) := fun k => by
    have := nums_le (xs.take k) (fun v hv => tn v (List.mem_of_mem_take hv))
    rw [List.length_take] at this
    omega
  have HTN := hid (fun i (hi : i < xs.length) => tn xs[i] (List.getElem_mem hi))
  obtain ⟨T, hT⟩ : ∃ T : Nat, t = (T : Int) := ⟨t.toNat, by omega⟩
  subst hT
  obtain ⟨PT, hPT⟩ : ∃ PT, putB (T : Int).toNat = PT := ⟨_, rfl⟩
  have hPT2 : PT.length ≤ 10 := by rw [← hPT]; exact putB_ten (by omega)
  have HPT := hid hPT
  have HP := hid (fun (n : Nat) (hn : n ≤ 18446744073709551615) W => refPut_any n hn W)
  have HPT3 := hid (fun W => refPut_any T (by omega) W)
  rw [show putB T = PT by rw [← hPT]; simp] at HPT3
  have HRE : Hid (rowE (T : Int) l xs = PT ++ l.flatMap valE ++ xs.flatMap numE) := by unfold Hid rowE; rw [hPT]
  obtain ⟨R, hR⟩ : ∃ R, rowE (T : Int) l xs = R := ⟨_, rfl⟩
  rw [hR]
  have HRR := hid hR
  have HVR := hid (ValsSl.parts hr)
  have HVN := hid hn
  obtain ⟨ad, cd, rfl, _, _, _⟩ := SlAt.shape hd
  obtain ⟨am, cm, rfl, _, _, _⟩ := SlAt.shape hm
  obtain ⟨ar, cr, rfl, _, _, _⟩ := SlAt.shape hr
  obtain ⟨an, cn, rfl, _, _, _⟩ := SlAt.shape hn
  obtain ⟨L, hL⟩ : ∃ L, l.length = L := ⟨_, rfl⟩
  obtain ⟨X, hX⟩ : ∃ X, xs.length = X := ⟨_, rfl⟩
  have HL := hid hL; have HX := hid hX
  rw [hL] at hl6 HF
  rw [hX] at hx4 HF
  rw [hL, hX]
  clear hd hm hr hn hf hR hPT hall hll hxl hd6 hm4 td tm tr tn hL hX
  generalize ds.length = nd at *
  generalize ms.length = nm at *
  go_enter Tryd.func9, Tryd.ntmps9
  go_wp2_with (first
      | (go_at_call 20; ((with_reducible refine (HR.out _ (by (repeat' (first | (with_reducible exact Below.refl _ _) | (with_reducible assumption) | (with_reducible refine Below.new ?_ _) | (with_reducible refine Below.alloc ?_ ?_ _) | (with_reducible refine Below.drew ?_) | (with_reducible refine Below.drewN ?_ _) | (with_reducible refine Below.setCell ?_ ?_ _) | (refine Below.step ?_ (by assumption)) | go_size)))).mono ?_); rintro e w1 ⟨rfl, hb1⟩; obtain ⟨hc1, hf1, hk1, hz1⟩ := bcell3 hb1; (try simp only [World.size_alloc, World.size_drew] at hz1); have : w.heap.size < w1.heap.size := (by omega); have : w.heap.size + 1 < w1.heap.size := (by omega)))
      | (go_at_call 21; ((with_reducible refine (HF.out _ (by (repeat' (first | (with_reducible exact Below.refl _ _) | (with_reducible assumption) | (with_reducible refine Below.new ?_ _) | (with_reducible refine Below.alloc ?_ ?_ _) | (with_reducible refine Below.drew ?_) | (with_reducible refine Below.drewN ?_ _) | (with_reducible refine Below.setCell ?_ ?_ _) | (refine Below.step ?_ (by assumption)) | go_size)))).mono ?_); rintro e w2 ⟨rfl, hb2⟩; obtain ⟨hc2, hf2, hk2, hz2⟩ := bcell3 hb2; (try simp only [World.size_alloc, World.size_drew] at hz2); have : w.heap.size < w2.heap.size := (by omega); have : w.heap.size + 1 < w2.heap.size := (by omega))))
  have p0 : w2.cell? ⟨w.heap.size + 1, 1, none⟩ = some (.slice ar L cr) := by go_simp
  have p1 : w2.cell? ⟨w.heap.size + 1, 2, none⟩ = some (.slice an X cn) := by go_simp
  have hBw : Below w.heap.size w w2 := by (repeat' (first | (with_reducible exact Below.refl _ _) | (with_reducible assumption) | (with_reducible refine Below.new ?_ _) | (with_reducible refine Below.alloc ?_ ?_ _) | (with_reducible refine Below.drew ?_) | (with_reducible refine Below.drewN ?_ _) | (with_reducible refine Below.setCell ?_ ?_ _) | (refine Below.step ?_ (by assumption)) | go_size))
  have hBz : w.heap.size + 1 < w2.heap.size := by omega
  clear hc1 hf1 hk1 hz1 hc2 hf2 hk2 hz2
  obtain ⟨B, hB⟩ : ∃ B, w2.heap.size = B := ⟨_, rfl⟩
  go_wp2_with (go_at_call 22; ((with_reducible refine (HPT3.out _).mono ?_); rintro e w3 ⟨rfl, hb3⟩))
  have hB3 : Below w.heap.size w w3 := hBw.trans (hb3.mono (by omega))
  replace p0 := cell_step p0 hb3
  replace p1 := cell_step p1 hb3
  have hz3 := hb3.size
  clear hb3
  go_loopw [6, 7] (fun b i wr => ∃ k : Nat, k ≤ L ∧ i = .int .i64 k ∧ b = strV (PT ++ (l.take k).flatMap valE) ∧ Below w3.heap.size w3 wr) (fun _ i _ => L - (intOf i).toNat)
  case atStart => exact ⟨0, Nat.zero_le _, rfl, by simp, Below.refl _ _⟩
  case round =>
    obtain ⟨k, hk, rfl, rfl, hbel⟩ := hrel
    have q0 := cell_step p0 hbel
    have hwz := hbel.size
    by_cases hkL : k < L
    · have hlen : k < l.length := by rw [HL.out]; exact hkL
      obtain ⟨ao, cap, e, _, _, _, hall⟩ := HVR.out
      simp only [Value.slice.injEq] at e
      obtain ⟨rfl, _, rfl⟩ := e
      obtain ⟨b, off, rfl, hc⟩ := hall (by omega)
      obtain ⟨c1, c2⟩ := hc k hlen
      have d1 := cell_step (cell_step c1 hB3) hbel
      have d2 := cell_step (cell_step c2 hB3) hbel
      obtain ⟨ok1, ok2⟩ := HOK.out k hlen
      have hs := flat_snoc valE hlen
      have hv : valE l[k] = putB (if l[k].nl then 0 else l[k].s.size + 1) ++ l[k].s.data.toList := rfl
      rw [hv] at hs
      have hlb := HLB.out k
      clear hall hc c1 c2 hv
      generalize l[k].s = s at *
      generalize l[k].nl = nl at *
      have g1 : (0 : Int) ≤ (k : Int) := Int.natCast_nonneg _
      have g2 : (k : Int) < (L : Int) := by omega
      obtain ⟨Y, hY⟩ : ∃ Y, PT ++ (l.take k).flatMap valE = Y := ⟨_, rfl⟩
      have hYl : Y.length ≤ 670 := by rw [← hY, List.length_append]; omega
      have hs2 : PT ++ (l.take (k + 1)).flatMap valE = Y ++ (putB (if nl then 0 else s.size + 1) ++ s.data.toList) := by rw [hs, ← hY, List.append_assoc]
      rw [hY]
      have HS := hid hs2; have HB := hid hbel
      clear hs hs2 hbel hY hlb
      cases nl with
      | true =>
        have hs0 : s.size = 0 := ok2 rfl
        have hd : s.data.toList = [] := List.eq_nil_of_length_eq_zero (by simpa using hs0)
        have hp0 : putB 0 = [0] := by rw [putB, if_pos (by decide)]; rfl
        go_wp2
        refine ⟨⟨k + 1, hkL, by go_num, ?_, HB.out⟩, by simp [intOf]; omega⟩
        rw [HS.out, hd, show (if true = true then 0 else s.size + 1) = 0 from rfl, hp0]
        show Value.string _ = Value.string _
        rw [← str_app]
        rfl
      | false =>
        have HPK : Hid (∀ W, Calls Tryd.prog 22 #[.int .u64 ((s.size : Int) + 1)] W fun e w' => e = .returned (strV (putB (s.size + 1))) ∧ Below W.heap.size W w') := fun W => by have := HP.out (s.size + 1) (by omega) W; simpa using this
        have hpl : (putB (s.size + 1)).length ≤ 10 := putB_ten (by omega)
        rw [show (if false = true then 0 else s.size + 1) = s.size + 1 from rfl] at HS
        generalize putB (s.size + 1) = PB at *
        go_wp2
        have e0 := World.plus_cell q0
        have e1 := World.plus_cell d1
        have e2 := World.plus_cell d2
        refine wp_region_plus (by kernel_rfl) (by kernel_rfl) ?_
        repeat (first | go_big_quiet_skip | (go_big_quiet_want; go_big_quiet_op; first | go_big_quiet_on | go_big_quiet_call (((go_at_call 22; exact Calls.plus_of (HPK.out _))))))
        refine wpQuiet_nil ?_
        rintro _ ⟨xq, rfl⟩
        go_wp2
        refine ⟨⟨k + 1, hkL, by go_num, ?_, HB.out.trans ((World.plus_below wr xq).mono hwz)⟩, by simp [intOf]; omega⟩
        rw [HS.out, str_app, str_app2, List.append_assoc]
    · obtain rfl : k = L := by omega
      have p2 := cell_step p1 hbel
      have hB4 : Below w.heap.size w wr := hB3.trans (hbel.mono (by omega))
      have HXS : Hid (∀ i, i < X → ∃ n : Int, xs[i]? = some n) := fun i hi => ⟨xs[i]'(by rw [HX.out]; exact hi), List.getElem?_eq_getElem _⟩
      clear p0 p1 hbel
      obtain ⟨Y, hY⟩ : ∃ Y, PT ++ (l.take k).flatMap valE = Y := ⟨_, rfl⟩
      have hYf : Y = PT ++ l.flatMap valE := by rw [← hY, List.take_of_length_le (by rw [HL.out]; exact Nat.le_refl _)]
      have hYl : Y.length ≤ 670 := by have := HLB.out k; rw [← hY, List.length_append]; omega
      rw [hY]
      have HYF := hid hYf
      clear hY hYf
      go_wp2
      clear q0
      go_loopw [6, 8] (fun b i wr2 => ∃ k : Nat, k ≤ X ∧ i = .int .i64 k ∧ b = strV (Y ++ (xs.take k).flatMap numE) ∧ Below wr.heap.size wr wr2) (fun _ i _ => X - (intOf i).toNat)
      case atStart => exact ⟨0, Nat.zero_le _, rfl, by simp, Below.refl _ _⟩
      case round =>
        obtain ⟨j, hj, rfl, rfl, hbel⟩ := hrel
        have q2 := cell_step p2 hbel
        by_cases hjX : j < X
        · have hlen : j < xs.length := by rw [HX.out]; exact hjX
          obtain ⟨b, off, rfl, hc⟩ := (SlAt.parts HVN.out).2.2.2.2 (by simp; omega)
          have c1 := hc j (.int .i64 xs[j]) (by rw [List.getElem?_map, List.getElem?_eq_getElem hlen]; rfl)
          have d1 := cell_step (cell_step c1 hB4) hbel
          have htn := HTN.out j hlen
          have hs := flat_snoc numE hlen
          have hxb := HXB.out j
          have hv : numE xs[j] = putB (turnV xs[j]).toNat := rfl
          rw [hv] at hs
          have htv := turnV_is htn
          have HT := hid (fun W => refTurn_any xs[j] htn W)
          obtain ⟨U, hU⟩ : ∃ U : Nat, turnV xs[j] = (U : Int) := ⟨(turnV xs[j]).toNat, by omega⟩
          have HPK : Hid (∀ W, Calls Tryd.prog 22 #[.int .u64 (U : Int)] W fun e w' => e = .returned (strV (putB U)) ∧ Below W.heap.size W w') := fun W => HP.out U (by omega) W
          have hpl : (putB U).length ≤ 10 := putB_ten (by omega)
          rw [hU] at hs HT
          rw [Int.toNat_natCast] at hs
          clear hc c1 hv htv hU
          generalize xs[j] = x at *
          obtain ⟨Z, hZ⟩ : ∃ Z, Y ++ (xs.take j).flatMap numE = Z := ⟨_, rfl⟩
          have hZl : Z.length ≤ 710 := by rw [← hZ, List.length_append]; omega
          have HS := hid (show Y ++ (xs.take (j + 1)).flatMap numE = Z ++ putB U by rw [hs, ← hZ, List.append_assoc])
          rw [hZ]
          have HB2 := hid hbel
          clear hs hZ hxb hbel
          generalize putB U = PB at *
          have g1 : (0 : Int) ≤ (j : Int) := Int.natCast_nonneg _
          have g2 : (j : Int) < (X : Int) := by omega
          go_wp2_with (first
            | (go_at_call 23; ((with_reducible refine (HT.out _).mono ?_); rintro e w5 ⟨rfl, hb5⟩))
            | (go_at_call 22; ((with_reducible refine (HPK.out _).mono ?_); rintro e w6 ⟨rfl, hb6⟩)))
          have hz5 := hb5.size
          have hz7 := HB2.out.size
          refine ⟨⟨j + 1, hjX, by go_num, ?_, HB2.out.trans ((hb5.mono hz7).trans (hb6.mono (by omega)))⟩, by simp [intOf]; omega⟩
          rw [HS.out, str_app]
        · obtain rfl : j = X := by omega
          have HB2 := hid hbel
          have hfin : Y ++ (xs.take j).flatMap numE = R := by
            rw [List.take_of_length_le (by rw [HX.out]; exact Nat.le_refl _), HYF.out, ← HRE.out, HRR.out]
          rw [hfin]
          clear hbel
          go_wp2
          go_ret2
          exact ⟨rfl, hB4.trans (HB2.out.mono (by have := hB4.size; omega))⟩
end Go.Proofs.YtdgeinipdphoeaaDoor
/- Rollup: the reference's comparing of lists of values. -/
namespace Go.Proofs.YtdgeinipdphoeaaDoor
set_option linter.unusedVariables false
set_option linter.unusedSimpArgs false
set_option maxRecDepth 100000
open Go.ChangeShapes Go.WideShapes Go.ChangeAt Go.RowKit

theorem valsL_ne {xs ys : List ValD} (k : Nat) (hx : k < xs.length) (hy : k < ys.length) (h : ¬ (xs[k].s = ys[k].s ∧ xs[k].nl = ys[k].nl)) : ¬ xs = ys := fun e => h (by subst e; exact ⟨rfl, rfl⟩)
theorem valsL_succ {xs ys : List ValD} (k : Nat) (hx : k < xs.length) (hy : k < ys.length) (ht : xs.take k = ys.take k) (h : xs[k].s = ys[k].s) (h2 : xs[k].nl = ys[k].nl) : xs.take (k + 1) = ys.take (k + 1) := by
  have h3 : xs[k] = ys[k] := by
    cases h4 : xs[k]; cases h5 : ys[k]
    rw [h4, h5] at h h2
    simp only [ValD.mk.injEq]
    exact ⟨h, h2⟩
  rw [List.take_succ_eq_append_getElem hx, List.take_succ_eq_append_getElem hy, ht, h3]

set_option maxHeartbeats 4000000 in
theorem refVals_any (va vb : Value) (xs ys : List ValD) (w : World) (ha : ValsSl w va xs) (hb : ValsSl w vb ys) :
    Calls Tryd.prog 28 #[va, vb] w fun e w' => e = .returned (.bool (decide (xs = ys))) ∧ Below w.heap.size w w' := by
  obtain ⟨ao, cap, rfl, q1, q2, _, hA⟩ := ha.parts
  obtain ⟨bo, cap', rfl, q3, q4, _, hB⟩ := hb.parts
  unfold maxLen at q2 q4
  clear ha hb
  by_cases hlen : xs.length = ys.length
  · have hl' := hid hlen
    rw [← hlen]
    clear hlen
    by_cases h0 : 0 < xs.length
    · obtain ⟨a, oa, rfl, hca⟩ := hA h0
      obtain ⟨b, ob, rfl, hcb⟩ := hB (by have := hl'.out; omega)
      clear hA hB
      have HA := hid hca; clear hca
      have HB := hid hcb; clear hcb
      go_enter Tryd.func28, Tryd.ntmps28
      go_wp2
      go_loopw [5] (fun i wr => ∃ k : Nat, k ≤ xs.length ∧ i = .int .i64 k ∧ xs.take k = ys.take k ∧ Below w.heap.size w wr) (fun i _ => xs.length - (intOf i).toNat)
      case atStart => exact ⟨0, Nat.zero_le _, rfl, rfl, Below.refl _ _⟩
      case round =>
        obtain ⟨k, hk, rfl, htake, hbel⟩ := hrel
        have HT := hid htake; clear htake
        by_cases hlt : k < xs.length
        · have hy : k < ys.length := by have := hl'.out; omega
          have d1 := cell_step (HA.out k hlt).1 hbel
          have d2 := cell_step (HA.out k hlt).2 hbel
          have d3 := cell_step (HB.out k hy).1 hbel
          have d4 := cell_step (HB.out k hy).2 hbel
          have HS := hid (valsL_succ k hlt hy HT.out)
          have HN := hid (valsL_ne k hlt hy)
          generalize xs[k].s = x1 at *
          generalize xs[k].nl = x2 at *
          generalize ys[k].s = y1 at *
          generalize ys[k].nl = y2 at *
          by_cases h1 : x1 = y1
          · subst h1
            by_cases h2 : x2 = y2
            · subst h2
              have HS' := hid (HS.out rfl rfl)
              go_wp2
              go_quiet (fail)
              go_wp2
              go_roundw
              case rel => exact ⟨k + 1, hlt, by go_num, HS'.out, hbel.drewN _⟩
              case measure => simp [intOf]; omega
            · have HN' := hid (HN.out (fun e => h2 e.2))
              have hne : (x2 == y2) = false := by simpa using h2
              have hne2 : (x2 != y2) = true := by simpa using h2
              clear h2
              go_wp2
              go_quiet (fail)
              go_wp2
              go_ret
              exact ⟨ret_bool (by simp [HN'.out]), hbel.drewN _⟩
          · have HN' := hid (HN.out (fun e => h1 e.1))
            have h1' : ¬ x1.data = y1.data := fun e => h1 (ByteArray.ext e)
            have hne : (x1.toList == y1.toList) = false := by simpa [ByteArray.toList_eq] using h1'
            have hne2 : (x1.toList != y1.toList) = true := by simpa [ByteArray.toList_eq] using h1'
            clear h1 h1'
            go_wp2
            go_quiet (fail)
            go_wp2
            go_ret
            exact ⟨ret_bool (by simp [HN'.out]), hbel.drewN _⟩
        · obtain rfl : k = xs.length := by omega
          go_wp2
          go_ret
          refine ⟨ret_bool ?_, hbel⟩
          have h1 := HT.out
          rw [List.take_length, hl'.out, List.take_length] at h1
          simp [h1]
    · have h1 : xs = [] := List.length_eq_zero_iff.1 (by omega)
      have h2 : ys = [] := List.length_eq_zero_iff.1 (by have := hl'.out; omega)
      subst h1; subst h2
      clear hA hB h0
      go_enter Tryd.func28, Tryd.ntmps28
      go_wp2
      refine wp_loop_rounds 1 ?_
      rw [rounds_succ]
      go_wp2
      go_ret
      exact ⟨rfl, Below.refl _ _⟩
  · have hne : ¬ xs = ys := fun h => hlen (by rw [h])
    have hlen' : ((xs.length : Int) != (ys.length : Int)) = true := by simpa using (fun h => hlen (by exact_mod_cast h))
    have hlen'' : ((xs.length : Int) == (ys.length : Int)) = false := by simpa using (fun h => hlen (by exact_mod_cast h))
    have HN := hid hne; clear hne hA hB
    go_enter Tryd.func28, Tryd.ntmps28
    go_wp2
    go_ret
    exact ⟨ret_bool (by simp [HN.out]), Below.refl _ _⟩
end Go.Proofs.YtdgeinipdphoeaaDoor
/- Rows: what the laws call, each function told in one row; the state in which the laws' own lines stand. -/
namespace Go.Proofs.YtdgeinipdphoeaaDoor
set_option linter.unusedVariables false
set_option linter.unusedSimpArgs false
set_option maxRecDepth 100000
open Go.ChangeShapes Go.WideShapes Go.ChangeAt Go.RowKit

theorem refDecode_is (vd vm : Value) (ds ms : List ByteArray) (g : Int) (s : ByteArray) (hs : s.size ≤ 9223372036854775807) (w : World) (hd : StrsSl w vd ds) (hm : StrsSl w vm ms) (td : Texts ds) (tm : Texts ms) :
    Calls Tryd.prog 11 #[.agg #[vd, vm, .int .i64 g], .string s] w (DecPost w (decF ds ms g s)) := by
  unfold decF
  by_cases hr : rightS ds ms g = true
  · rw [if_pos hr]
    obtain ⟨c, n, k, hx⟩ : ∃ c n k, nextV (bytesOf s) = (c, n, k) := ⟨_, _, _, rfl⟩
    by_cases hC : (numV 1000000000000 (bytesOf s)).1 = 0
    · rcases numV_cases (most := 1000000000000) hx with ⟨hc, hv⟩ | ⟨rfl, hn, hv⟩ | ⟨rfl, hn, hv⟩
      · rw [hv] at hC; exact absurd hC hc
      · rw [hv] at hC; exact absurd hC (by decide)
      · exact refDecode_main vd vm ds ms g s hs w hd hm td tm hr hv hx hn rfl
    · exact refDecode_time vd vm ds ms g s hs w hd hm td tm hr hC rfl
  · rw [if_neg hr]
    exact refDecode_wrong vd vm ds ms g s w hd hm td tm (by simpa using hr)

/-- A row's bytes, and what is wrong. -/
def encB (ds ms : List ByteArray) (g t : Int) (l : List ValD) (xs : List Int) : List UInt8 := if fitsS ds ms g t l xs.length = true then rowE t l xs else []
def encC (ds ms : List ByteArray) (g t : Int) (l : List ValD) (xs : List Int) : Nat := if fitsS ds ms g t l xs.length = true then 0 else if rightS ds ms g = true then 101 else 100
theorem encode_is (vd vm vr vn : Value) (ds ms : List ByteArray) (g t : Int) (l : List ValD) (xs : List Int) (w : World) (hd : StrsSl w vd ds) (hm : StrsSl w vm ms) (td : Texts ds) (tm : Texts ms) (hr : ValsSl w vr l) (tr : Vals l) (hn : IntsSl w vn xs) (tn : Nums64 xs) :
    Calls Tryd.prog 8 #[.agg #[vd, vm, .int .i64 g], .agg #[.int .i64 t, vr, vn]] w fun e w' => e = .returned (.tuple #[strV (encB ds ms g t l xs), .int .i64 (encC ds ms g t l xs : Int)]) ∧ Below w.heap.size w w' := by
  unfold encB encC
  by_cases h : fitsS ds ms g t l xs.length = true
  · rw [if_pos h, if_pos h]
    exact encode_ok vd vm vr vn ds ms g t l xs w hd hm td tm hr tr hn tn h
  · rw [if_neg h, if_neg h]
    refine (encode_bad vd vm vr vn ds ms g t l xs w hd hm td tm hr tr hn (by simpa using h)).mono ?_
    rintro e w' ⟨rfl, hb⟩
    exact ⟨by split <;> rfl, hb⟩
theorem refEncode_is (vd vm vr vn : Value) (ds ms : List ByteArray) (g t : Int) (l : List ValD) (xs : List Int) (w : World) (hd : StrsSl w vd ds) (hm : StrsSl w vm ms) (td : Texts ds) (tm : Texts ms) (hr : ValsSl w vr l) (tr : Vals l) (hn : IntsSl w vn xs) (tn : Nums64 xs) :
    Calls Tryd.prog 9 #[.agg #[vd, vm, .int .i64 g], .agg #[.int .i64 t, vr, vn]] w fun e w' => e = .returned (.tuple #[strV (encB ds ms g t l xs), .int .i64 (encC ds ms g t l xs : Int)]) ∧ Below w.heap.size w w' := by
  unfold encB encC
  by_cases h : fitsS ds ms g t l xs.length = true
  · rw [if_pos h, if_pos h]
    exact refEncode_ok vd vm vr vn ds ms g t l xs w hd hm td tm hr tr hn tn h
  · rw [if_neg h, if_neg h]
    refine (refEncode_bad vd vm vr vn ds ms g t l xs w hd hm td tm hr tr hn (by simpa using h)).mono ?_
    rintro e w' ⟨rfl, hb⟩
    exact ⟨by split <;> rfl, hb⟩

set_option maxHeartbeats 1000000 in
theorem refSame10_any (va vb vx vy : Value) (t u : Int) (l k : List ValD) (xs ys : List Int) (w : World) (ha : ValsSl w va l) (hb : ValsSl w vb k) (hx : IntsSl w vx xs) (hy : IntsSl w vy ys) (lx : xs.length ≤ 1000000000) (ly : ys.length ≤ 1000000000) :
    Calls Tryd.prog 12 #[.agg #[.int .i64 t, va, vx], .agg #[.int .i64 u, vb, vy]] w fun e w' => e = .returned (.bool ((t == u) && (decide (l = k) && decide (xs = ys)))) ∧ Below w.heap.size w w' := by
  have HV := hid (fun W (h : Below w.heap.size w W) => refVals_any va vb l k W (ha.below h) (hb.below h))
  have HN := hid (fun W (h : Below w.heap.size w W) => same_any vx vy xs ys W (IntsSl.ints (hx.below h)) (IntsSl.ints (hy.below h)) lx ly)
  obtain ⟨a1, c1, rfl, _, _, _⟩ := SlAt.shape ha
  obtain ⟨a2, c2, rfl, _, _, _⟩ := SlAt.shape hb
  obtain ⟨a3, c3, rfl, _, _, _⟩ := SlAt.shape hx
  obtain ⟨a4, c4, rfl, _, _, _⟩ := SlAt.shape hy
  clear ha hb hx hy
  generalize decide (l = k) = b1 at *
  generalize decide (xs = ys) = b2 at *
  generalize l.length = n1 at *
  generalize k.length = n2 at *
  generalize xs.length = n3 at *
  generalize ys.length = n4 at *
  cases q1 : t == u
  case' true => cases b1
  all_goals
    go_enter Tryd.func12, Tryd.ntmps12
    go_wp2_with (first
      | (go_at_call 28; ((with_reducible refine (HV.out _ (by (repeat' (first | (with_reducible exact Below.refl _ _) | (with_reducible assumption) | (with_reducible refine Below.new ?_ _) | (with_reducible refine Below.alloc ?_ ?_ _) | (with_reducible refine Below.drew ?_) | (with_reducible refine Below.drewN ?_ _) | (with_reducible refine Below.setCell ?_ ?_ _) | (refine Below.step ?_ (by assumption)) | go_size)))).mono ?_); rintro e w1 ⟨rfl, hb1⟩; obtain ⟨hc1, hf1, hk1, hz1⟩ := bcell3 hb1; (try simp only [World.size_alloc, World.size_drew] at hz1); have : w.heap.size < w1.heap.size := (by omega); have : w.heap.size + 1 < w1.heap.size := (by omega)))
      | (go_at_call 29; ((with_reducible refine (HN.out _ (by (repeat' (first | (with_reducible exact Below.refl _ _) | (with_reducible assumption) | (with_reducible refine Below.new ?_ _) | (with_reducible refine Below.alloc ?_ ?_ _) | (with_reducible refine Below.drew ?_) | (with_reducible refine Below.drewN ?_ _) | (with_reducible refine Below.setCell ?_ ?_ _) | (refine Below.step ?_ (by assumption)) | go_size)))).mono ?_); rintro e w2 ⟨rfl, hb2⟩)))
    go_ret
    exact ⟨rfl, by (repeat' (first | (with_reducible exact Below.refl _ _) | (with_reducible assumption) | (with_reducible refine Below.new ?_ _) | (with_reducible refine Below.alloc ?_ ?_ _) | (with_reducible refine Below.drew ?_) | (with_reducible refine Below.drewN ?_ _) | (with_reducible refine Below.setCell ?_ ?_ _) | (refine Below.step ?_ (by assumption)) | go_size))⟩

/-- Where a law of schemas stands: its two arguments' blocks, and what they hold. -/
structure SchSt (w : World) (D M : List ByteArray) (g t : Int) (V : List ValD) (X : List Int) (v1 v2 v3 v4 : Value) (W : World) : Prop where
  bel : Below w.heap.size w W
  sch : W.heap[w.heap.size]? = some (.cells #[v1, v2, .int .i64 g] 24 (0, 0))
  row : W.heap[w.heap.size + 1]? = some (.cells #[.int .i64 t, v3, v4] 28 (0, 0))
  r1 : StrsSl W v1 D
  r2 : StrsSl W v2 M
  r3 : ValsSl W v3 V
  r4 : IntsSl W v4 X
theorem SchSt.below {w W W' : World} {D M : List ByteArray} {g t : Int} {V : List ValD} {X : List Int} {v1 v2 v3 v4 : Value} (h : SchSt w D M g t V X v1 v2 v3 v4 W) (hb : Below W.heap.size W W') : SchSt w D M g t V X v1 v2 v3 v4 W' :=
  ⟨h.bel.trans (hb.mono h.bel.size), blk_below h.sch hb, blk_below h.row hb, h.r1.below hb, h.r2.below hb, h.r3.below hb, h.r4.below hb⟩
theorem SchSt.cut {w W W' : World} {D M D' M' : List ByteArray} {g t : Int} {V : List ValD} {X : List Int} {v1 v2 v3 v4 u1 u2 : Value} {b1 b2 n1 n2 : Nat} (h : SchSt w D M g t V X v1 v2 v3 v4 W) (hr : ValsSl w v3 V) (hn : IntsSl w v4 X) (hb : Below W.heap.size W W')
    (h1 : W'.ownsRow b1 9 1 u1 n1 (strsV D')) (h2 : W'.ownsRow b2 9 1 u2 n2 (strsV M')) (hb1 : w.heap.size < b1) (hb2 : w.heap.size < b2) :
    SchSt w D' M' g t V X u1 u2 v3 v4 (((W'.setCell ⟨w.heap.size, 0, none⟩ u1).setCell ⟨w.heap.size, 1, none⟩ u2).setCell ⟨w.heap.size, 2, none⟩ (.int .i64 g)) := by
  have hB : Below w.heap.size w (((W'.setCell ⟨w.heap.size, 0, none⟩ u1).setCell ⟨w.heap.size, 1, none⟩ u2).setCell ⟨w.heap.size, 2, none⟩ (.int .i64 g)) := below3 (h.bel.trans (hb.mono h.bel.size)) (Nat.le_refl _)
  exact ⟨hB, set3 (blk_below h.sch hb), set3_other (blk_below h.row hb) (by omega), StrsSl.own (row_far3 h1 hb1), StrsSl.own (row_far3 h2 hb2), hr.below hB, hn.below hB⟩
theorem SchSt.few {w W W' : World} {D M : List ByteArray} {g t : Int} {V V' : List ValD} {X X' : List Int} {v1 v2 v3 v4 u3 u4 : Value} {b1 b2 b3 n1 n2 n3 : Nat} (h : SchSt w D M g t V X v1 v2 v3 v4 W) (hn : IntsSl w u4 X') (hb : Below W.heap.size W W')
    (h1 : W.ownsRow b1 9 1 v1 n1 (strsV D)) (h2 : W.ownsRow b2 9 1 v2 n2 (strsV M)) (h3 : W'.ownsRow b3 41 2 u3 n3 (V'.flatMap ValD.cells)) (hb1 : w.heap.size + 1 < b1) (hb2 : w.heap.size + 1 < b2) (hb3 : w.heap.size + 1 < b3) :
    SchSt w D M g t V' X' v1 v2 u3 u4 (((W'.setCell ⟨w.heap.size + 1, 0, none⟩ (.int .i64 t)).setCell ⟨w.heap.size + 1, 1, none⟩ u3).setCell ⟨w.heap.size + 1, 2, none⟩ u4) := by
  have hB : Below w.heap.size w (((W'.setCell ⟨w.heap.size + 1, 0, none⟩ (.int .i64 t)).setCell ⟨w.heap.size + 1, 1, none⟩ u3).setCell ⟨w.heap.size + 1, 2, none⟩ u4) := below3 (h.bel.trans (hb.mono h.bel.size)) (by omega)
  exact ⟨hB, set3_other (blk_below h.sch hb) (by omega), set3 (blk_below h.row hb), StrsSl.own (row_far3 (row_below h1 hb) hb1), StrsSl.own (row_far3 (row_below h2 hb) hb2), ValsSl.own (row_far3 h3 hb3), hn.below hB⟩
end Go.Proofs.YtdgeinipdphoeaaDoor
