/- Schemas: the program's 'Encode' at a row that fits. -/
import Derived.Test.YtdgeinipdphoeaaSchO
import Derived.Lib.UnsafeStr
namespace Go.Proofs.Ytdgeinipdphoeaa
set_option linter.unusedVariables false
set_option linter.unusedSimpArgs false
set_option maxRecDepth 100000
open Go.ChangeShapes Go.WideShapes Go.ChangeAt Go.RowKit

theorem strV_cells (l : List UInt8) : Lib.strCells ⟨l.toArray⟩ = Lib.byteCells l := rfl
theorem okV_is {v : ValD} (h : okV v = true) : v.s.size ≤ 100 ∧ (v.nl = true → v.s.size = 0) := by
  unfold okV valB at h
  simp only [Bool.and_eq_true, Bool.or_eq_true, Bool.not_eq_true', decide_eq_true_eq] at h
  exact ⟨h.1, fun hn => by rcases h.2 with h2 | h2; · rw [hn] at h2; cases h2
                           · exact h2⟩
def Nums64 (xs : List Int) : Prop := ∀ n ∈ xs, -9223372036854775808 ≤ n ∧ n ≤ 9223372036854775807
set_option maxHeartbeats 4000000 in
theorem encode_ok (vd vm vr vn : Value) (ds ms : List ByteArray) (g t : Int) (l : List ValD) (xs : List Int) (w : World) (hd : StrsSl w vd ds) (hm : StrsSl w vm ms) (td : Texts ds) (tm : Texts ms) (hr : ValsSl w vr l) (tr : Vals l) (hn : IntsSl w vn xs) (tn : Nums64 xs) (hf : fitsS ds ms g t l xs.length = true) :
    Calls Try.prog 43 #[.agg #[vd, vm, .int .i64 g], .agg #[.int .i64 t, vr, vn]] w fun e w' => e = .returned (.tuple #[strV (rowE t l xs), .int .i64 0]) ∧ Below w.heap.size w w' := by
  have HR := hid (fun W (h : Below w.heap.size w W) => right_any vd vm ds ms g W (hd.below h) (hm.below h) td tm)
  have HF := hid (fun W (h : Below w.heap.size w W) => fits_any vd vm vr vn ds ms g t l xs.length _ W (hd.below h) (hm.below h) td tm (hr.below h) tr (hn.below h))
  rw [hf] at HF
  have hf2 := hf
  unfold fitsS at hf2
  simp only [Bool.and_eq_true, decide_eq_true_eq] at hf2
  obtain ⟨hrs, ⟨ht0, ht1⟩, hll, hxl, hall⟩ := hf2
  rw [hrs] at HR
  unfold rightS at hrs
  simp only [Bool.and_eq_true, decide_eq_true_eq] at hrs
  obtain ⟨⟨_, hd6⟩, hm4, _⟩ := hrs
  have HOK := hid (fun i (hi : i < l.length) => okV_is (List.all_eq_true.1 hall l[i] (List.getElem_mem hi)))
  have hl6 : l.length ≤ 6 := by omega
  have hx4 : xs.length ≤ 4 := by omega
  have HLB : Hid (∀ k, ((l.take k).flatMap valE).length ≤ 660) := fun k => by
    have := vals_le (l.take k) (fun v hv => (okV_is (List.all_eq_true.1 hall v (List.mem_of_mem_take hv))).1)
    rw [List.length_take] at this
    omega
  have HXB : Hid (∀ k, ((xs.take k).flatMap numE).length ≤ 40) := fun k => by
    have := nums_le (xs.take k) (fun v hv => tn v (List.mem_of_mem_take hv))
    rw [List.length_take] at this
    omega
  have HTN := hid (fun i (hi : i < xs.length) => tn xs[i] (List.getElem_mem hi))
  obtain ⟨T, hT⟩ : ∃ T : Nat, t = (T : Int) := ⟨t.toNat, by omega⟩
  subst hT
  obtain ⟨PT, hPT⟩ : ∃ PT, putB (T : Int).toNat = PT := ⟨_, rfl⟩
  have hPT2 : PT.length ≤ 10 := by rw [← hPT]; exact putB_ten (by omega)
  have HPT := hid hPT
  have HP := hid (fun (n : Nat) (hn : n ≤ 18446744073709551615) W => put1_any n hn W)
  have HPT3 := hid (fun W => put1_any T (by omega) W)
  rw [show putB T = PT by rw [← hPT]; simp] at HPT3
  have HRE : Hid (rowE (T : Int) l xs = PT ++ l.flatMap valE ++ xs.flatMap numE) := by unfold Hid rowE; rw [hPT]
  obtain ⟨R, hR⟩ : ∃ R, rowE (T : Int) l xs = R := ⟨_, rfl⟩
  rw [hR]
  have HRR := hid hR
  have HVR := hid (ValsSl.parts hr)
  have HVN := hid hn
  obtain ⟨ad, cd, rfl, _, _, _⟩ := SlAt.shape hd
  obtain ⟨am, cm, rfl, _, _, _⟩ := SlAt.shape hm
  obtain ⟨ar, cr, rfl, _, _, _⟩ := SlAt.shape hr
  obtain ⟨an, cn, rfl, _, _, _⟩ := SlAt.shape hn
  obtain ⟨L, hL⟩ : ∃ L, l.length = L := ⟨_, rfl⟩
  obtain ⟨X, hX⟩ : ∃ X, xs.length = X := ⟨_, rfl⟩
  have HL := hid hL; have HX := hid hX
  rw [hL] at hl6 HF
  rw [hX] at hx4 HF
  rw [hL, hX]
  clear hd hm hr hn hf hR hPT hall hll hxl hd6 hm4 td tm tr tn hL hX
  generalize ds.length = nd at *
  generalize ms.length = nm at *
  go_enter Try.func43, Try.ntmps43
  go_wp2_with (first
      | (go_at_call 21; ((with_reducible refine (HR.out _ (by (repeat' (first | (with_reducible exact Below.refl _ _) | (with_reducible assumption) | (with_reducible refine Below.new ?_ _) | (with_reducible refine Below.alloc ?_ ?_ _) | (with_reducible refine Below.drew ?_) | (with_reducible refine Below.drewN ?_ _) | (with_reducible refine Below.setCell ?_ ?_ _) | (refine Below.step ?_ (by assumption)) | go_size)))).mono ?_); rintro e w1 ⟨rfl, hb1⟩; obtain ⟨hc1, hf1, hk1, hz1⟩ := bcell3 hb1; (try simp only [World.size_alloc, World.size_drew] at hz1); have : w.heap.size < w1.heap.size := (by omega); have : w.heap.size + 1 < w1.heap.size := (by omega)))
      | (go_at_call 23; ((with_reducible refine (HF.out _ (by (repeat' (first | (with_reducible exact Below.refl _ _) | (with_reducible assumption) | (with_reducible refine Below.new ?_ _) | (with_reducible refine Below.alloc ?_ ?_ _) | (with_reducible refine Below.drew ?_) | (with_reducible refine Below.drewN ?_ _) | (with_reducible refine Below.setCell ?_ ?_ _) | (refine Below.step ?_ (by assumption)) | go_size)))).mono ?_); rintro e w2 ⟨rfl, hb2⟩; obtain ⟨hc2, hf2, hk2, hz2⟩ := bcell3 hb2; (try simp only [World.size_alloc, World.size_drew] at hz2); have : w.heap.size < w2.heap.size := (by omega); have : w.heap.size + 1 < w2.heap.size := (by omega))))
  have p0 : w2.cell? ⟨w.heap.size + 1, 1, none⟩ = some (.slice ar L cr) := by go_simp
  have p1 : w2.cell? ⟨w.heap.size + 1, 2, none⟩ = some (.slice an X cn) := by go_simp
  have p2 : w2.cell? ⟨w.heap.size + 1, 0, none⟩ = some (.int .i64 (T : Int)) := by go_simp
  have hBw : Below w.heap.size w w2 := by (repeat' (first | (with_reducible exact Below.refl _ _) | (with_reducible assumption) | (with_reducible refine Below.new ?_ _) | (with_reducible refine Below.alloc ?_ ?_ _) | (with_reducible refine Below.drew ?_) | (with_reducible refine Below.drewN ?_ _) | (with_reducible refine Below.setCell ?_ ?_ _) | (refine Below.step ?_ (by assumption)) | go_size))
  have hBz : w.heap.size + 1 < w2.heap.size := by omega
  clear hc1 hf1 hk1 hz1 hc2 hf2 hk2 hz2
  obtain ⟨B, hB⟩ : ∃ B, w2.heap.size = B := ⟨_, rfl⟩
  have hbl0 := Bld.new w2
  rw [hB] at hbl0 ⊢
  go_wp2_with (go_at_call 77; ((with_reducible refine (HPT3.out _).mono ?_); rintro e w3 ⟨rfl, hb3⟩; obtain ⟨hc3, hf3, hk3, hz3⟩ := bcell3 hb3; (try simp only [World.size_alloc, World.size_drew] at hz3); have hbl3 := Bld.below hbl0 hb3))
  refine (writeString_any B B [] ⟨PT.toArray⟩ _ hbl3 (by simp; show PT.length ≤ _; omega) (by omega)).mono ?_
  rintro e w4 ⟨rfl, hbl4, hb4, _⟩
  have hz3 := hb3.size
  have r0 := cell_low (cell_step (cell_new p0 _) hb3) hb4 (by omega)
  have r1 := cell_low (cell_step (cell_new p1 _) hb3) hb4 (by omega)
  have hB4 : Below B w2 w4 := (hB ▸ ((Below.refl w2.heap.size w2).alloc (Nat.le_refl _) _).trans (hb3.mono (by simp))).trans hb4
  have hbl5 : Bld B B (Lib.byteCells (PT ++ (l.take 0).flatMap valE)) w4 := by
    have := hbl4
    rw [strV_cells] at this
    simpa using (show Bld B B ([] ++ Lib.byteCells PT) w4 from .inr this)
  clear hbl4 hbl3 hbl0 hb3 hb4 hc3 hf3 hk3 hz3
  go_wp2
  go_loopw [29] (fun i wr => ∃ k : Nat, k ≤ L ∧ i = .int .i64 k ∧ Bld B B (Lib.byteCells (PT ++ (l.take k).flatMap valE)) wr ∧ Below B w2 wr) (fun i _ => L - (intOf i).toNat)
  case atStart => exact ⟨0, Nat.zero_le _, rfl, hbl5, hB4⟩
  case round =>
    obtain ⟨k, hk, rfl, hbl, hbel⟩ := hrel
    have hwz := hbel.size
    by_cases hkL : k < L
    · have hlen : k < l.length := by rw [HL.out]; exact hkL
      obtain ⟨ao, cap, e, _, _, _, hall⟩ := HVR.out
      simp only [Value.slice.injEq] at e
      obtain ⟨rfl, _, rfl⟩ := e
      obtain ⟨b, off, rfl, hc⟩ := hall (by omega)
      obtain ⟨c1, c2⟩ := hc k hlen
      have hblt : b < w.heap.size := World.block_lt_of_cell? _ _ c1
      have d1 := cell_low (cell_step c1 hBw) hbel (by omega)
      have d2 := cell_low (cell_step c2 hBw) hbel (by omega)
      obtain ⟨ok1, ok2⟩ := HOK.out k hlen
      have hs := flat_snoc valE hlen
      have hv : valE l[k] = putB (if l[k].nl then 0 else l[k].s.size + 1) ++ l[k].s.data.toList := rfl
      rw [hv] at hs
      have hlb := HLB.out k
      clear hall hc c1 c2 hv
      generalize l[k].s = s at *
      generalize l[k].nl = nl at *
      have g1 : (0 : Int) ≤ (k : Int) := Int.natCast_nonneg _
      have g2 : (k : Int) < (L : Int) := by omega
      obtain ⟨Y, hY⟩ : ∃ Y, PT ++ (l.take k).flatMap valE = Y := ⟨_, rfl⟩
      have hYl : Y.length ≤ 670 := by rw [← hY, List.length_append]; omega
      have hs2 : PT ++ (l.take (k + 1)).flatMap valE = Y ++ (putB (if nl then 0 else s.size + 1) ++ s.data.toList) := by rw [hs, ← hY, List.append_assoc]
      rw [hY] at hbl
      have HS := hid hs2; have HBL := hid hbl; have HB := hid hbel
      have hzB : B < wr.heap.size := by rcases hbl with h | h <;> exact h.lt
      clear hs hs2 hbl hbel hY hlb
      obtain ⟨W0, hW0⟩ : ∃ W0, wr = W0 := ⟨_, rfl⟩
      rw [hW0] at HBL HB d1 d2 hwz hzB ⊢
      clear hW0
      cases nl with
      | true =>
        have hs0 : s.size = 0 := ok2 rfl
        have HPK : Hid (∀ W, Calls Try.prog 77 #[.int .u64 0] W fun e w' => e = .returned (strV (putB 0)) ∧ Below W.heap.size W w') := fun W => HP.out 0 (by omega) W
        have hpl : (putB 0).length ≤ 10 := putB_ten (by omega)
        rw [show (if true = true then 0 else s.size + 1) = 0 from rfl] at HS
        generalize putB 0 = PB at *
        clear hs0
        go_wp2
        have hS0 : (fun w' : World => w'.cell? ⟨W0.heap.size, 0, none⟩ = some (.string s)) (W0.alloc (.cells #[.string s, .bool true] 54)).drew := by go_simp
        refine wp_region_some (fun w' : World => w'.cell? ⟨W0.heap.size, 0, none⟩ = some (.string s)) [5, 6] (by kernel_rfl) ?_
        (refine wpMix_take (i := 0) (v := ?_) rfl (by kernel_rfl) (fun _ _ _ h => h) (Or.inl ⟨by rfl, ?_⟩) hS0 ?_; rotate_left 1; (focus (intro w hSw; (try dsimp only at hSw); go_simp; try (with_reducible rfl))); (try simp only [Act.put, List.setIfInBounds_toArray, List.set_cons_zero, List.set_cons_succ]))
        (refine wpMix_take (i := 1) (v := ?_) rfl (by kernel_rfl) (fun _ _ _ h => h) (Or.inl ⟨by rfl, ?_⟩) hS0 ?_; rotate_left 1; (focus (intro w hSw; (try dsimp only at hSw); go_simp; try (with_reducible rfl))); (try simp only [Act.put, List.setIfInBounds_toArray, List.set_cons_zero, List.set_cons_succ]))
        (refine wpMix_take (i := 3) (v := ?_) rfl (by kernel_rfl) (fun _ _ _ h => h) (Or.inl ⟨by rfl, ?_⟩) hS0 ?_; rotate_left 1; (focus (intro w hSw; (try dsimp only at hSw); go_simp; try (with_reducible rfl))); (try simp only [Act.put, List.setIfInBounds_toArray, List.set_cons_zero, List.set_cons_succ]))
        (refine wpMix_take (i := 4) (v := ?_) rfl (by kernel_rfl) (fun _ _ _ h => h) (Or.inl ⟨by rfl, ?_⟩) hS0 ?_; rotate_left 1; (focus (intro w hSw; (try dsimp only at hSw); go_simp; try (with_reducible rfl))); (try simp only [Act.put, List.setIfInBounds_toArray, List.set_cons_zero, List.set_cons_succ]))
        refine wpMix_next (t := 2) (by kernel_rfl) ?_
        simp only [opsAt, List.flatMap_cons, List.flatMap_nil, List.take_succ_cons, List.take_zero, List.drop_succ_cons, List.drop_zero, List.append_nil, List.cons_append, List.nil_append]
        go_wp2_with (go_at_call 77; go_loud ((with_reducible refine (HPK.out _).mono ?_); rintro e w5 ⟨rfl, hb5⟩))
        refine ⟨cell_step hS0 hb5, ?_⟩
        refine wpMix_rest [5, 6] (by kernel_rfl) ?_
        simp only [opsAt, List.flatMap_cons, List.flatMap_nil, List.take_succ_cons, List.take_zero, List.drop_succ_cons, List.drop_zero, List.append_nil, List.cons_append, List.nil_append]
        go_wp2_with fail
        have hz5 := hb5.size
        simp only [World.size_alloc, World.size_drew] at hz5
        have hB5 : Below B w2 w5 := Below.trans ((HB.out.alloc (by omega) _).drew) (hb5.mono (by simp; omega))
        refine (writeString_any B B (Lib.byteCells Y) (({ data := PB.toArray } : ByteArray) ++ s) w5 (HBL.out.below (by (repeat' (first | (with_reducible exact Below.refl _ _) | (with_reducible assumption) | (with_reducible refine Below.new ?_ _) | (with_reducible refine Below.alloc ?_ ?_ _) | (with_reducible refine Below.drew ?_) | (with_reducible refine Below.drewN ?_ _) | (with_reducible refine Below.setCell ?_ ?_ _) | (refine Below.step ?_ (by assumption)) | go_size)))) (by rw [size_join, Lib.byteCells_length]; omega) (by omega)).mono ?_
        rintro e w6 ⟨rfl, hbl6, hb6, _⟩
        rw [str_join, ← Lib.byteCells_append, ← HS.out] at hbl6
        have HBL6 := hid hbl6; have HB6 := hid (hB5.trans hb6)
        clear hbl6 hb6 hB5 hb5 hz5
        go_wp2
        go_roundw
        case rel => exact ⟨k + 1, hkL, by go_num, .inr HBL6.out, HB6.out⟩
        case measure => simp [intOf]; omega
      | false =>
        have HPK : Hid (∀ W, Calls Try.prog 77 #[.int .u64 ((s.size : Int) + 1)] W fun e w' => e = .returned (strV (putB (s.size + 1))) ∧ Below W.heap.size W w') := fun W => HP.out (s.size + 1) (by omega) W
        have hpl : (putB (s.size + 1)).length ≤ 10 := putB_ten (by omega)
        rw [show (if false = true then 0 else s.size + 1) = s.size + 1 from rfl] at HS
        generalize putB (s.size + 1) = PB at *
        go_wp2
        have hS0 : (fun w' : World => w'.cell? ⟨W0.heap.size, 0, none⟩ = some (.string s)) (W0.alloc (.cells #[.string s, .bool false] 54)).drew := by go_simp
        refine wp_region_some (fun w' : World => w'.cell? ⟨W0.heap.size, 0, none⟩ = some (.string s)) [5, 6] (by kernel_rfl) ?_
        (refine wpMix_take (i := 0) (v := ?_) rfl (by kernel_rfl) (fun _ _ _ h => h) (Or.inl ⟨by rfl, ?_⟩) hS0 ?_; rotate_left 1; (focus (intro w hSw; (try dsimp only at hSw); go_simp; try (with_reducible rfl))); (try simp only [Act.put, List.setIfInBounds_toArray, List.set_cons_zero, List.set_cons_succ]))
        (refine wpMix_take (i := 1) (v := ?_) rfl (by kernel_rfl) (fun _ _ _ h => h) (Or.inl ⟨by rfl, ?_⟩) hS0 ?_; rotate_left 1; (focus (intro w hSw; (try dsimp only at hSw); go_simp; try (with_reducible rfl))); (try simp only [Act.put, List.setIfInBounds_toArray, List.set_cons_zero, List.set_cons_succ]))
        (refine wpMix_take (i := 3) (v := ?_) rfl (by kernel_rfl) (fun _ _ _ h => h) (Or.inl ⟨by rfl, ?_⟩) hS0 ?_; rotate_left 1; (focus (intro w hSw; (try dsimp only at hSw); go_simp; try (with_reducible rfl))); (try simp only [Act.put, List.setIfInBounds_toArray, List.set_cons_zero, List.set_cons_succ]))
        (refine wpMix_take (i := 4) (v := ?_) rfl (by kernel_rfl) (fun _ _ _ h => h) (Or.inl ⟨by rfl, ?_⟩) hS0 ?_; rotate_left 1; (focus (intro w hSw; (try dsimp only at hSw); go_simp; try (with_reducible rfl))); (try simp only [Act.put, List.setIfInBounds_toArray, List.set_cons_zero, List.set_cons_succ]))
        refine wpMix_next (t := 2) (by kernel_rfl) ?_
        simp only [opsAt, List.flatMap_cons, List.flatMap_nil, List.take_succ_cons, List.take_zero, List.drop_succ_cons, List.drop_zero, List.append_nil, List.cons_append, List.nil_append]
        go_wp2_with (go_at_call 77; go_loud ((with_reducible refine (HPK.out _).mono ?_); rintro e w5 ⟨rfl, hb5⟩))
        refine ⟨cell_step hS0 hb5, ?_⟩
        refine wpMix_rest [5, 6] (by kernel_rfl) ?_
        simp only [opsAt, List.flatMap_cons, List.flatMap_nil, List.take_succ_cons, List.take_zero, List.drop_succ_cons, List.drop_zero, List.append_nil, List.cons_append, List.nil_append]
        go_wp2_with fail
        have hz5 := hb5.size
        simp only [World.size_alloc, World.size_drew] at hz5
        have hB5 : Below B w2 w5 := Below.trans ((HB.out.alloc (by omega) _).drew) (hb5.mono (by simp; omega))
        refine (writeString_any B B (Lib.byteCells Y) (({ data := PB.toArray } : ByteArray) ++ s) w5 (HBL.out.below (by (repeat' (first | (with_reducible exact Below.refl _ _) | (with_reducible assumption) | (with_reducible refine Below.new ?_ _) | (with_reducible refine Below.alloc ?_ ?_ _) | (with_reducible refine Below.drew ?_) | (with_reducible refine Below.drewN ?_ _) | (with_reducible refine Below.setCell ?_ ?_ _) | (refine Below.step ?_ (by assumption)) | go_size)))) (by rw [size_join, Lib.byteCells_length]; omega) (by omega)).mono ?_
        rintro e w6 ⟨rfl, hbl6, hb6, _⟩
        rw [str_join, ← Lib.byteCells_append, ← HS.out] at hbl6
        have HBL6 := hid hbl6; have HB6 := hid (hB5.trans hb6)
        clear hbl6 hb6 hB5 hb5 hz5
        go_wp2
        go_roundw
        case rel => exact ⟨k + 1, hkL, by go_num, .inr HBL6.out, HB6.out⟩
        case measure => simp [intOf]; omega
    · obtain rfl : k = L := by omega
      have hlt : l.take k = l := by rw [← HL.out, List.take_length]
      rw [hlt] at hbl
      have hlb := HLB.out k
      rw [hlt] at hlb
      obtain ⟨Y, hY⟩ : ∃ Y, PT ++ l.flatMap valE = Y := ⟨_, rfl⟩
      have hYl : Y.length ≤ 670 := by rw [← hY, List.length_append]; omega
      have HRE2 : Hid (R = Y ++ xs.flatMap numE) := by unfold Hid; rw [← hY, ← HRE.out, HRR.out]
      rw [hY] at hbl
      have hbl0' : Bld B B (Lib.byteCells (Y ++ (xs.take 0).flatMap numE)) wr := by simpa using hbl
      have r1' := cell_low p1 hbel (by omega)
      have HB0 := hid hbel; have HBL0 := hid hbl0'
      clear hlt hlb hY hbl hbl0' hbel r0 r1 hB4 hbl5
      go_wp2
      go_loopw [51] (fun i wr => ∃ k : Nat, k ≤ X ∧ i = .int .i64 k ∧ Bld B B (Lib.byteCells (Y ++ (xs.take k).flatMap numE)) wr ∧ Below B w2 wr) (fun i _ => X - (intOf i).toNat)
      case atStart => exact ⟨0, Nat.zero_le _, rfl, HBL0.out, HB0.out⟩
      case round =>
        obtain ⟨j, hj, rfl, hbl, hbel⟩ := hrel
        have hwz2 := hbel.size
        by_cases hjX : j < X
        · have hlen : j < xs.length := by rw [HX.out]; exact hjX
          obtain ⟨b, off, rfl, hc⟩ := (SlAt.parts HVN.out).2.2.2.2 (by simp; omega)
          have c1 := hc j (.int .i64 xs[j]) (by rw [List.getElem?_map, List.getElem?_eq_getElem hlen]; rfl)
          have hblt : b < w.heap.size := World.block_lt_of_cell? _ _ c1
          have d1 := cell_low (cell_step c1 hBw) hbel (by omega)
          have htn := HTN.out j hlen
          have hs := flat_snoc numE hlen
          have hxb := HXB.out j
          have hv : numE xs[j] = putB (turnV xs[j]).toNat := rfl
          rw [hv] at hs
          clear hc c1 hv
          generalize xs[j] = n at *
          have htu := turnV_is htn
          have HTU := hid (fun W => turn_any n htn W)
          obtain ⟨M, hM⟩ : ∃ M : Nat, turnV n = (M : Int) := ⟨(turnV n).toNat, by omega⟩
          have hM2 : (turnV n).toNat = M := by omega
          rw [hM2] at hs
          rw [hM] at HTU htu
          have HPK := hid (fun W => HP.out M (by omega) W)
          have hpl : (putB M).length ≤ 10 := putB_ten (by omega)
          generalize putB M = PB at *
          obtain ⟨Z, hZ⟩ : ∃ Z, Y ++ (xs.take j).flatMap numE = Z := ⟨_, rfl⟩
          have hZl : Z.length ≤ 710 := by rw [← hZ, List.length_append]; omega
          have hs2 : Y ++ (xs.take (j + 1)).flatMap numE = Z ++ PB := by rw [hs, ← hZ, List.append_assoc]
          rw [hZ] at hbl
          have HS := hid hs2; have HBL := hid hbl; have HB := hid hbel
          have hzB : B < wr.heap.size := by rcases hbl with h | h <;> exact h.lt
          clear hs hs2 hbl hbel hZ hxb hM hM2
          have g1 : (0 : Int) ≤ (j : Int) := Int.natCast_nonneg _
          have g2 : (j : Int) < (X : Int) := by omega
          go_wp2_with (first
            | (go_at_call 78; ((with_reducible refine (HTU.out _).mono ?_); rintro e w5 ⟨rfl, hb5⟩; have hz5 := hb5.size))
            | (go_at_call 77; ((with_reducible refine (HPK.out _).mono ?_); rintro e w6 ⟨rfl, hb6⟩; have hz6 := hb6.size)))
          have hB6 : Below B w2 w6 := HB.out.trans ((hb5.mono (by omega)).trans (hb6.mono (by omega)))
          refine (writeString_any B B (Lib.byteCells Z) ⟨PB.toArray⟩ w6 ((HBL.out.below hb5).below hb6) (by rw [Lib.byteCells_length]; show _ + PB.length ≤ _; omega) (by omega)).mono ?_
          rintro e w7 ⟨rfl, hbl7, hb7, _⟩
          rw [strV_cells, ← Lib.byteCells_append, ← HS.out] at hbl7
          have HBL7 := hid hbl7; have HB7 := hid (hB6.trans hb7)
          clear hbl7 hb7 hB6 hb5 hb6 hz5 hz6
          go_wp2
          go_roundw
          case rel => exact ⟨j + 1, hjX, by go_num, .inr HBL7.out, HB7.out⟩
          case measure => simp [intOf]; omega
        · obtain rfl : j = X := by omega
          have hxt : xs.take j = xs := by rw [← HX.out, List.take_length]
          rw [hxt, ← HRE2.out] at hbl
          have HS := hid (fun W' (h : Bld B B (Lib.byteCells R) W') (hs : B ≤ W'.heap.size) => Try.Builder_String_any_k B B R W' (Lib.IsBuilderF.of h) hs)
          have HBL := hid hbl; have HB := hid hbel
          clear hxt hbl hbel
          go_wp2_with (go_at_call 79; ((with_reducible refine (HS.out _ HBL.out (by omega)).mono ?_); rintro e X3 ⟨rfl, _, f2, _⟩))
          go_ret2
          exact ⟨rfl, hBw.trans (Below.mono (HB.out.trans f2) (by omega))⟩
end Go.Proofs.Ytdgeinipdphoeaa
