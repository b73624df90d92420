/- Texts joined: RopE, RopF, RopG, RopH, RopI, RoqA, RoqB, RoqC, RoqD, RoqE. -/
import Derived.Test.YtdgeinipdphoeaaGe
import Derived.Test.YtdgeinipdphoeaaGi
import Derived.Test.YtdgeinipdphoeaaGb
import Derived.Test.YtdgeinipdphoeaaGa
import Derived.Test.YtdgeinipdphoeaaGg
import Derived.Deep.DeepCutAuto
import Derived.Deep.RegionWith
import Derived.Test.YtdgeinipdphoeaaGl
import Derived.Test.YtdgeinipdphoeaaGk
import Derived.Test.YtdgeinipdphoeaaGh
/- Rollup: the program's bounds of a sum (printed by genRopE.py). -/
namespace Go.Proofs.Ytdgeinipdphoeaa
set_option linter.unusedVariables false
set_option linter.unusedSimpArgs false
set_option maxRecDepth 100000
open Go.ChangeShapes Go.WideShapes Go.ChangeAt Go.RowKit

theorem below_two_sets {V W : World} {b c : Nat} {x0 x1 y0 y1 : Value} (h : Below V.heap.size V W) (hb : V.heap.size ≤ b) (hc : V.heap.size ≤ c) :
    Below V.heap.size V ((((W.setCell ⟨b, 0, none⟩ x0).setCell ⟨b, 1, none⟩ x1).setCell ⟨c, 0, none⟩ y0).setCell ⟨c, 1, none⟩ y1) :=
  Below.setCell (Below.setCell (Below.setCell (Below.setCell h hb _) hb _) hc _) hc _
theorem two_set_other {w : World} {b c : Nat} {x y : Value} {o : Obj} (h : w.heap[b]? = some o) (hne : c ≠ b) : ((w.setCell ⟨c, 0, none⟩ x).setCell ⟨c, 1, none⟩ y).heap[b]? = some o :=
  (heap_set_other (by omega)).trans ((heap_set_other (by omega)).trans h)
theorem two_set_far {w : World} {b c : Nat} {x y : Value} {o : Obj} (h : w.heap[c]? = some o) (hne : b ≠ c) : ((w.setCell ⟨b, 0, none⟩ x).setCell ⟨b, 1, none⟩ y).heap[c]? = some o :=
  (heap_set_other (by omega)).trans ((heap_set_other (by omega)).trans h)

theorem SlAt.two (w : World) (x y : Value) (T : TypeId) : SlAt (w.alloc (.cells #[x, y] T)) (.slice (some ⟨w.heap.size, 0, none⟩) 2 2) 2 1 [x, y] := by
  refine ⟨rfl, _, 2, rfl, Nat.le_refl _, by unfold maxLen; omega, (fun h => by cases h), fun _ => ⟨w.heap.size, 0, rfl, fun j u hj => ?_⟩⟩
  match j, hj with
  | 0, hj => simp at hj; subst hj; simp
  | 1, hj => simp at hj; subst hj; simp

set_option maxHeartbeats 8000000 in
theorem isSum_one (x a b : Int) (ha : I64 a) (w : World) :
    Calls Try.prog 100 #[(Value.agg #[.int .i64 (hiW (x)), .int .u64 (loW (x))]), .int .i64 1, .int .i64 a, .int .i64 b] w fun e w' => e = .returned (.bool ((a == b) && decide (hiW x = hiW a ∧ loW x = loW a))) ∧ Below w.heap.size w w' := by
  have HO := hid (fun W => of_any a ha W)
  by_cases hab : a = b
  · subst hab
    have q : (a == a && decide (hiW x = hiW a ∧ loW x = loW a)) = decide (hiW x = hiW a ∧ loW x = loW a) := by simp
    rw [q]
    clear q
    generalize hiW x = x1 at *
    generalize loW x = x2 at *
    generalize hiW a = y1 at *
    generalize loW a = y2 at *
    have hq : (a == a) = true := by simp
    have s0 : (w.alloc (.cells #[.int .i64 x1, .int .u64 x2] 58)).cell? ⟨w.heap.size, 0, none⟩ = some (.int .i64 x1) := by go_simp
    have s1 : (w.alloc (.cells #[.int .i64 x1, .int .u64 x2] 58)).cell? ⟨w.heap.size, 1, none⟩ = some (.int .u64 x2) := by go_simp
    have p0 := World.plus_cell s0; have p1 := World.plus_cell s1
    by_cases e1 : x1 = y1
    · subst e1
      by_cases e2 : x2 = y2
      · subst e2
        go_enter Try.func100, Try.ntmps100
        go_wp2
        refine wp_region_plus (by kernel_rfl) (by kernel_rfl) ?_
        repeat (first | go_big_quiet_skip | (go_big_quiet_want; go_big_quiet_op; first | go_big_quiet_on | go_big_quiet_call (((go_at_call 55; exact Calls.plus_of (HO.out _))))))
        refine wpQuiet_nil ?_
        rintro _ ⟨xq, rfl⟩
        have kB := World.plus_below (w.alloc (.cells #[.int .i64 x1, .int .u64 x2] 58)) xq
        go_wp2
        go_ret
        exact ⟨ret_bool (by simp), by (repeat' (first | (with_reducible exact Below.refl _ _) | (with_reducible assumption) | (with_reducible refine Below.new ?_ _) | (with_reducible refine Below.alloc ?_ ?_ _) | (with_reducible refine Below.drew ?_) | (with_reducible refine Below.drewN ?_ _) | (with_reducible refine Below.setCell ?_ ?_ _) | (refine Below.step ?_ (by assumption)) | go_size))⟩
      · have n2 : (x2 == y2) = false := by simpa using e2
        go_enter Try.func100, Try.ntmps100
        go_wp2
        refine wp_region_plus (by kernel_rfl) (by kernel_rfl) ?_
        repeat (first | go_big_quiet_skip | (go_big_quiet_want; go_big_quiet_op; first | go_big_quiet_on | go_big_quiet_call (((go_at_call 55; exact Calls.plus_of (HO.out _))))))
        refine wpQuiet_nil ?_
        rintro _ ⟨xq, rfl⟩
        have kB := World.plus_below (w.alloc (.cells #[.int .i64 x1, .int .u64 x2] 58)) xq
        go_wp2
        go_ret
        exact ⟨ret_bool (by simp [e2]), by (repeat' (first | (with_reducible exact Below.refl _ _) | (with_reducible assumption) | (with_reducible refine Below.new ?_ _) | (with_reducible refine Below.alloc ?_ ?_ _) | (with_reducible refine Below.drew ?_) | (with_reducible refine Below.drewN ?_ _) | (with_reducible refine Below.setCell ?_ ?_ _) | (refine Below.step ?_ (by assumption)) | go_size))⟩
    · have n1 : (x1 == y1) = false := by simpa using e1
      go_enter Try.func100, Try.ntmps100
      go_wp2
      refine wp_region_plus (by kernel_rfl) (by kernel_rfl) ?_
      repeat (first | go_big_quiet_skip | (go_big_quiet_want; go_big_quiet_op; first | go_big_quiet_on | go_big_quiet_call (((go_at_call 55; exact Calls.plus_of (HO.out _))))))
      refine wpQuiet_nil ?_
      rintro _ ⟨xq, rfl⟩
      have kB := World.plus_below (w.alloc (.cells #[.int .i64 x1, .int .u64 x2] 58)) xq
      go_wp2
      go_ret
      exact ⟨ret_bool (by simp [e1]), by (repeat' (first | (with_reducible exact Below.refl _ _) | (with_reducible assumption) | (with_reducible refine Below.new ?_ _) | (with_reducible refine Below.alloc ?_ ?_ _) | (with_reducible refine Below.drew ?_) | (with_reducible refine Below.drewN ?_ _) | (with_reducible refine Below.setCell ?_ ?_ _) | (refine Below.step ?_ (by assumption)) | go_size))⟩
  · have hq : (a == b) = false := by simpa using hab
    rw [hq, Bool.false_and]
    generalize hiW x = x1 at *
    generalize loW x = x2 at *
    go_enter Try.func100, Try.ntmps100
    go_wp2
    go_quiet (fail)
    go_wp2
    go_ret
    exact ⟨rfl, by (repeat' (first | (with_reducible exact Below.refl _ _) | (with_reducible assumption) | (with_reducible refine Below.new ?_ _) | (with_reducible refine Below.alloc ?_ ?_ _) | (with_reducible refine Below.drew ?_) | (with_reducible refine Below.drewN ?_ _) | (with_reducible refine Below.setCell ?_ ?_ _) | (refine Below.step ?_ (by assumption)) | go_size))⟩

set_option maxHeartbeats 16000000 in
theorem isSum_more (x n a b : Int) (hn : ¬ n = 1) (ha : I64 a) (hb : I64 b) (w : World) :
    Calls Try.prog 100 #[(Value.agg #[.int .i64 (hiW (x)), .int .u64 (loW (x))]), .int .i64 n, .int .i64 a, .int .i64 b] w fun e w' => e = .returned (.bool (decide (a ≤ b) && (decide (cmpI (a + b + a * wrap64 (n - 2)) x ≤ 0) && decide (cmpI x (a + b + b * wrap64 (n - 2)) ≤ 0)))) ∧ Below w.heap.size w w' := by
  have h2 : (n == 1) = false := by simpa using hn
  clear hn
  have hm : I64 (wrap64 (n - 2)) := by unfold I64 wrap64; omega
  have HS := hid (fun (W : World) (B : Nat) (hB : B = W.heap.size) => sum_any (.slice (some ⟨B, 0, none⟩) 2 2) [a, b] (W.alloc (.cells #[.int .i64 a, .int .i64 b] 2)) (IntsSl.ints (show SlAt _ _ 2 1 [.int .i64 a, .int .i64 b] from by subst hB; exact SlAt.two W (.int .i64 a) (.int .i64 b) 2)) (by simp) (fun j hj => by
    match j, hj with
    | 0, _ => exact ha
    | 1, _ => exact hb))
  have e0 : sumI [a, b] = a + b := by simp [sumI]
  rw [e0] at HS
  have HM := hid (fun W => mul_any a (wrap64 (n - 2)) ha hm W)
  have HN := hid (fun W => mul_any b (wrap64 (n - 2)) hb hm W)
  have HB := hid (fun W => add_any (a + b) (a * wrap64 (n - 2)) W)
  have HC := hid (fun W => add_any (a + b) (b * wrap64 (n - 2)) W)
  have HD := hid (fun W => cmp_words (hiW (a + b + a * wrap64 (n - 2))) (loW (a + b + a * wrap64 (n - 2))) (hiW x) (loW x) W)
  have HE := hid (fun W => cmp_words (hiW x) (loW x) (hiW (a + b + b * wrap64 (n - 2))) (loW (a + b + b * wrap64 (n - 2))) W)
  unfold cmpI
  generalize cmpW (hiW (a + b + a * wrap64 (n - 2))) (loW (a + b + a * wrap64 (n - 2))) (hiW x) (loW x) = c1 at *
  generalize cmpW (hiW x) (loW x) (hiW (a + b + b * wrap64 (n - 2))) (loW (a + b + b * wrap64 (n - 2))) = c2 at *
  generalize hiW (a + b + a * wrap64 (n - 2)) = p1 at *
  generalize loW (a + b + a * wrap64 (n - 2)) = p2 at *
  generalize hiW (a + b + b * wrap64 (n - 2)) = r1 at *
  generalize loW (a + b + b * wrap64 (n - 2)) = r2 at *
  generalize hiW (a * wrap64 (n - 2)) = s1 at *
  generalize loW (a * wrap64 (n - 2)) = s2 at *
  generalize hiW (b * wrap64 (n - 2)) = t1 at *
  generalize loW (b * wrap64 (n - 2)) = t2 at *
  generalize hiW (a + b) = u1 at *
  generalize loW (a + b) = u2 at *
  generalize hiW x = x1 at *
  generalize loW x = x2 at *
  clear hm ha hb e0
  go_enter Try.func100, Try.ntmps100
  go_upto_region 4 with ((go_at_call 35; go_loud ((with_reducible refine (HS.out _ _ (by simp)).mono ?_); rintro e w3 ⟨rfl, hb3⟩; obtain ⟨hc3, hf3, hk3, hz3⟩ := bcell3 hb3; (try simp only [World.size_alloc, World.size_drew] at hz3); have : w.heap.size < w3.heap.size := (by omega); have : w.heap.size + 1 < w3.heap.size := (by omega))))
  have hBV : Below w.heap.size w (w3.alloc (.cells #[.int .i64 u1, .int .u64 u2] 58)) := by (repeat' (first | (with_reducible exact Below.refl _ _) | (with_reducible assumption) | (with_reducible refine Below.new ?_ _) | (with_reducible refine Below.alloc ?_ ?_ _) | (with_reducible refine Below.drew ?_) | (with_reducible refine Below.drewN ?_ _) | (with_reducible refine Below.setCell ?_ ?_ _) | (refine Below.step ?_ (by assumption)) | go_size))
  have v0 : (w3.alloc (.cells #[.int .i64 u1, .int .u64 u2] 58)).cell? ⟨w.heap.size, 0, none⟩ = some (.int .i64 x1) := by go_simp
  have v1 : (w3.alloc (.cells #[.int .i64 u1, .int .u64 u2] 58)).cell? ⟨w.heap.size, 1, none⟩ = some (.int .u64 x2) := by go_simp
  have v2 : (w3.alloc (.cells #[.int .i64 u1, .int .u64 u2] 58)).cell? ⟨w3.heap.size, 0, none⟩ = some (.int .i64 u1) := by go_simp
  have v3 : (w3.alloc (.cells #[.int .i64 u1, .int .u64 u2] 58)).cell? ⟨w3.heap.size, 1, none⟩ = some (.int .u64 u2) := by go_simp
  clear hb3 hc3 hf3 hk3 hz3
  obtain ⟨V, hV⟩ : ∃ V, (w3.alloc (.cells #[.int .i64 u1, .int .u64 u2] 58)) = V := ⟨_, rfl⟩
  rw [hV] at hBV v0 v1 v2 v3 ⊢
  generalize w3.heap.size = B3 at *
  clear hV
  go_cut [10, 11] (fun s10 s11 wx => ∃ B C : Nat, s10 = .pointer (some ⟨B, 0, none⟩) ∧ s11 = .pointer (some ⟨C, 0, none⟩) ∧ wx.heap[B]? = some (.cells #[.int .i64 p1, .int .u64 p2] 58 (0, 0)) ∧ wx.heap[C]? = some (.cells #[.int .i64 r1, .int .u64 r2] 58 (0, 0)) ∧ Below V.heap.size V wx)
  case first =>
    have hS0 : (fun w' : World => w'.cell? ⟨B3, 0, none⟩ = some (.int .i64 u1) ∧ w'.cell? ⟨B3, 1, none⟩ = some (.int .u64 u2)) V.drew := ⟨v2, v3⟩
    refine wp_region_some (fun w' : World => w'.cell? ⟨B3, 0, none⟩ = some (.int .i64 u1) ∧ w'.cell? ⟨B3, 1, none⟩ = some (.int .u64 u2)) [14, 15] (by kernel_rfl) ?_
    (refine wpMix_take (i := 0) (v := ?_) rfl (by kernel_rfl) (fun _ _ _ h => h) (Or.inl ⟨by rfl, ?_⟩) hS0 ?_; rotate_left 1; (focus (intro w hSw; (try dsimp only at hSw); go_simp; try (with_reducible rfl))); (try simp only [Act.put, List.setIfInBounds_toArray, List.set_cons_zero, List.set_cons_succ]))
    (refine wpMix_take (i := 1) (v := ?_) rfl (by kernel_rfl) (fun _ _ _ h => h) (Or.inl ⟨by rfl, ?_⟩) hS0 ?_; rotate_left 1; (focus (intro w hSw; (try dsimp only at hSw); go_simp; try (with_reducible rfl))); (try simp only [Act.put, List.setIfInBounds_toArray, List.set_cons_zero, List.set_cons_succ]))
    (refine wpMix_take (i := 2) (v := ?_) rfl (by kernel_rfl) (fun _ _ _ h => h) (Or.inl ⟨by rfl, ?_⟩) hS0 ?_; rotate_left 1; (focus (intro w hSw; (try dsimp only at hSw); go_simp; try (with_reducible rfl))); (try simp only [Act.put, List.setIfInBounds_toArray, List.set_cons_zero, List.set_cons_succ]))
    (refine wpMix_take (i := 3) (v := ?_) rfl (by kernel_rfl) (fun _ _ _ h => h) (Or.inl ⟨by rfl, ?_⟩) hS0 ?_; rotate_left 1; (focus (intro w hSw; (try dsimp only at hSw); go_simp; try (with_reducible rfl))); (try simp only [Act.put, List.setIfInBounds_toArray, List.set_cons_zero, List.set_cons_succ]))
    (refine wpMix_take (i := 6) (v := ?_) rfl (by kernel_rfl) (fun _ _ _ h => h) (Or.inl ⟨by rfl, ?_⟩) hS0 ?_; rotate_left 1; (focus (intro w hSw; (try dsimp only at hSw); go_simp; try (with_reducible rfl))); (try simp only [Act.put, List.setIfInBounds_toArray, List.set_cons_zero, List.set_cons_succ]))
    (refine wpMix_take (i := 7) (v := ?_) rfl (by kernel_rfl) (fun _ _ _ h => h) (Or.inl ⟨by rfl, ?_⟩) hS0 ?_; rotate_left 1; (focus (intro w hSw; (try dsimp only at hSw); go_simp; try (with_reducible rfl))); (try simp only [Act.put, List.setIfInBounds_toArray, List.set_cons_zero, List.set_cons_succ]))
    (refine wpMix_take (i := 8) (v := ?_) rfl (by kernel_rfl) (fun _ _ _ h => h) (Or.inl ⟨by rfl, ?_⟩) hS0 ?_; rotate_left 1; (focus (intro w hSw; (try dsimp only at hSw); go_simp; try (with_reducible rfl))); (try simp only [Act.put, List.setIfInBounds_toArray, List.set_cons_zero, List.set_cons_succ]))
    (refine wpMix_take (i := 9) (v := ?_) rfl (by kernel_rfl) (fun _ _ _ h => h) (Or.inl ⟨by rfl, ?_⟩) hS0 ?_; rotate_left 1; (focus (intro w hSw; (try dsimp only at hSw); go_simp; try (with_reducible rfl))); (try simp only [Act.put, List.setIfInBounds_toArray, List.set_cons_zero, List.set_cons_succ]))
    have hb : Below V.heap.size V V.drew := Below.drew (Below.refl _ _)
    have v2' := hS0.1; have v3' := hS0.2
    obtain ⟨V1, hV1⟩ : ∃ W, V.drew = W := ⟨_, rfl⟩
    rw [hV1] at hb v2' v3' ⊢
    clear hV1 hS0
    refine wpMix_pick [4, 12, 13] (by kernel_rfl) (pick_three ?_ ?_ ?_) (by simp)
    all_goals simp only [opsAt, List.flatMap_cons, List.flatMap_nil, List.take_succ_cons, List.take_zero, List.drop_succ_cons, List.drop_zero, List.append_nil, List.cons_append, List.nil_append]
    · go_wp2_with (go_at_call 110; go_loud ((with_reducible refine (HM.out _).mono ?_); rintro e x1 ⟨rfl, hbk⟩))
      refine ⟨⟨cell_step v2' hbk, cell_step v3' hbk⟩, ?_⟩
      replace v2' := cell_step v2' hbk; replace v3' := cell_step v3' hbk; replace hb := hb.step hbk
      clear hbk
      refine wpMix_pick [5, 12, 13] (by kernel_rfl) (pick_three ?_ ?_ ?_) (by simp)
      all_goals simp only [opsAt, List.flatMap_cons, List.flatMap_nil, List.take_succ_cons, List.take_zero, List.drop_succ_cons, List.drop_zero, List.append_nil, List.cons_append, List.nil_append]
      · go_wp2_with (go_at_call 98; go_loud ((with_reducible refine (HB.out _).mono ?_); rintro e x2 ⟨rfl, hbk⟩))
        refine ⟨⟨cell_step v2' hbk, cell_step v3' hbk⟩, ?_⟩
        replace v2' := cell_step v2' hbk; replace v3' := cell_step v3' hbk; replace hb := hb.step hbk
        clear hbk
        refine wpMix_pick [10, 12, 13] (by kernel_rfl) (pick_three ?_ ?_ ?_) (by simp)
        all_goals simp only [opsAt, List.flatMap_cons, List.flatMap_nil, List.take_succ_cons, List.take_zero, List.drop_succ_cons, List.drop_zero, List.append_nil, List.cons_append, List.nil_append]
        · go_wp2_with (go_at_call 110; go_loud ((with_reducible refine (HN.out _).mono ?_); rintro e x3 ⟨rfl, hbk⟩))
          refine ⟨⟨cell_step v2' hbk, cell_step v3' hbk⟩, ?_⟩
          replace v2' := cell_step v2' hbk; replace v3' := cell_step v3' hbk; replace hb := hb.step hbk
          clear hbk
          refine wpMix_pick [11, 12, 13] (by kernel_rfl) (pick_three ?_ ?_ ?_) (by simp)
          all_goals simp only [opsAt, List.flatMap_cons, List.flatMap_nil, List.take_succ_cons, List.take_zero, List.drop_succ_cons, List.drop_zero, List.append_nil, List.cons_append, List.nil_append]
          · go_wp2_with (go_at_call 98; go_loud ((with_reducible refine (HC.out _).mono ?_); rintro e x4 ⟨rfl, hbk⟩))
            refine ⟨⟨cell_step v2' hbk, cell_step v3' hbk⟩, ?_⟩
            replace v2' := cell_step v2' hbk; replace v3' := cell_step v3' hbk; replace hb := hb.step hbk
            clear hbk
            refine wpMix_pick [12, 13] (by kernel_rfl) (pick_two ?_ ?_) (by simp)
            all_goals simp only [opsAt, List.flatMap_cons, List.flatMap_nil, List.take_succ_cons, List.take_zero, List.drop_succ_cons, List.drop_zero, List.append_nil, List.cons_append, List.nil_append]
            · go_wp2
              refine ⟨⟨cell_new v2' _, cell_new v3' _⟩, ?_⟩
              replace v2' := cell_new v2' (.cells #[.int .i64 0, .int .u64 0] 58); replace v3' := cell_new v3' (.cells #[.int .i64 0, .int .u64 0] 58)
              have z12 : (x4.alloc (.cells #[.int .i64 0, .int .u64 0] 58)).heap[x4.heap.size]? = some (.cells #[.int .i64 0, .int .u64 0] 58 (0, 0)) := heap_at rfl
              have l12 : V.heap.size ≤ x4.heap.size := hb.size
              replace hb := hb.new (.cells #[.int .i64 0, .int .u64 0] 58)
              obtain ⟨b12, hb12⟩ : ∃ b, x4.heap.size = b := ⟨_, rfl⟩
              obtain ⟨x5, hx5⟩ : ∃ W, x4.alloc (.cells #[.int .i64 0, .int .u64 0] 58) = W := ⟨_, rfl⟩
              have h12lt := blk_lt z12
              rw [hx5] at z12 hb v2' v3' h12lt ⊢
              rw [hb12] at z12 l12 h12lt  ⊢
              clear hx5 hb12
              refine wpMix_next (t := 13) (by kernel_rfl) ?_
              simp only [opsAt, List.flatMap_cons, List.flatMap_nil, List.take_succ_cons, List.take_zero, List.drop_succ_cons, List.drop_zero, List.append_nil, List.cons_append, List.nil_append]
              go_wp2
              refine ⟨⟨cell_new v2' _, cell_new v3' _⟩, ?_⟩
              replace v2' := cell_new v2' (.cells #[.int .i64 0, .int .u64 0] 58); replace v3' := cell_new v3' (.cells #[.int .i64 0, .int .u64 0] 58)
              have z13 : (x5.alloc (.cells #[.int .i64 0, .int .u64 0] 58)).heap[x5.heap.size]? = some (.cells #[.int .i64 0, .int .u64 0] 58 (0, 0)) := heap_at rfl
              have l13 : V.heap.size ≤ x5.heap.size := hb.size
              replace z12 := blk_below z12 ((Below.refl _ _).new (.cells #[.int .i64 0, .int .u64 0] 58))
              have hlt13 : b12 < x5.heap.size := h12lt
              replace hb := hb.new (.cells #[.int .i64 0, .int .u64 0] 58)
              obtain ⟨b13, hb13⟩ : ∃ b, x5.heap.size = b := ⟨_, rfl⟩
              obtain ⟨x6, hx6⟩ : ∃ W, x5.alloc (.cells #[.int .i64 0, .int .u64 0] 58) = W := ⟨_, rfl⟩
              have h13lt := blk_lt z13
              have h12lt' := blk_lt z12
              clear h12lt
              have h12lt := h12lt'
              clear h12lt'
              rw [hx6] at z13 hb v2' v3' h13lt z12 h12lt ⊢
              rw [hb13] at z13 l13 h13lt hlt13 ⊢
              have hne : b12 ≠ b13 := by omega
              clear hx6 hb13
              refine wpMix_rest [14, 15] (by kernel_rfl) ?_
              simp only [opsAt, List.flatMap_cons, List.flatMap_nil, List.take_succ_cons, List.take_zero, List.drop_succ_cons, List.drop_zero, List.append_nil, List.cons_append, List.nil_append]
              obtain ⟨y0, y1, g0, g1, _⟩ := two_is z12
              obtain ⟨y2, y3, g2, g3, _⟩ := two_is z13
              go_wp2
              go_meet
              exact ⟨b12, b13, rfl, rfl, two_set_other (two_set z12) hne.symm, two_set (two_set_far z13 hne), below_two_sets hb l12 l13⟩
            · go_wp2
              refine ⟨⟨cell_new v2' _, cell_new v3' _⟩, ?_⟩
              replace v2' := cell_new v2' (.cells #[.int .i64 0, .int .u64 0] 58); replace v3' := cell_new v3' (.cells #[.int .i64 0, .int .u64 0] 58)
              have z13 : (x4.alloc (.cells #[.int .i64 0, .int .u64 0] 58)).heap[x4.heap.size]? = some (.cells #[.int .i64 0, .int .u64 0] 58 (0, 0)) := heap_at rfl
              have l13 : V.heap.size ≤ x4.heap.size := hb.size
              replace hb := hb.new (.cells #[.int .i64 0, .int .u64 0] 58)
              obtain ⟨b13, hb13⟩ : ∃ b, x4.heap.size = b := ⟨_, rfl⟩
              obtain ⟨x7, hx7⟩ : ∃ W, x4.alloc (.cells #[.int .i64 0, .int .u64 0] 58) = W := ⟨_, rfl⟩
              have h13lt := blk_lt z13
              rw [hx7] at z13 hb v2' v3' h13lt ⊢
              rw [hb13] at z13 l13 h13lt  ⊢
              clear hx7 hb13
              refine wpMix_next (t := 12) (by kernel_rfl) ?_
              simp only [opsAt, List.flatMap_cons, List.flatMap_nil, List.take_succ_cons, List.take_zero, List.drop_succ_cons, List.drop_zero, List.append_nil, List.cons_append, List.nil_append]
              go_wp2
              refine ⟨⟨cell_new v2' _, cell_new v3' _⟩, ?_⟩
              replace v2' := cell_new v2' (.cells #[.int .i64 0, .int .u64 0] 58); replace v3' := cell_new v3' (.cells #[.int .i64 0, .int .u64 0] 58)
              have z12 : (x7.alloc (.cells #[.int .i64 0, .int .u64 0] 58)).heap[x7.heap.size]? = some (.cells #[.int .i64 0, .int .u64 0] 58 (0, 0)) := heap_at rfl
              have l12 : V.heap.size ≤ x7.heap.size := hb.size
              replace z13 := blk_below z13 ((Below.refl _ _).new (.cells #[.int .i64 0, .int .u64 0] 58))
              have hlt12 : b13 < x7.heap.size := h13lt
              replace hb := hb.new (.cells #[.int .i64 0, .int .u64 0] 58)
              obtain ⟨b12, hb12⟩ : ∃ b, x7.heap.size = b := ⟨_, rfl⟩
              obtain ⟨x8, hx8⟩ : ∃ W, x7.alloc (.cells #[.int .i64 0, .int .u64 0] 58) = W := ⟨_, rfl⟩
              have h12lt := blk_lt z12
              have h13lt' := blk_lt z13
              clear h13lt
              have h13lt := h13lt'
              clear h13lt'
              rw [hx8] at z12 hb v2' v3' h12lt z13 h13lt ⊢
              rw [hb12] at z12 l12 h12lt hlt12 ⊢
              have hne : b12 ≠ b13 := by omega
              clear hx8 hb12
              refine wpMix_rest [14, 15] (by kernel_rfl) ?_
              simp only [opsAt, List.flatMap_cons, List.flatMap_nil, List.take_succ_cons, List.take_zero, List.drop_succ_cons, List.drop_zero, List.append_nil, List.cons_append, List.nil_append]
              obtain ⟨y0, y1, g0, g1, _⟩ := two_is z12
              obtain ⟨y2, y3, g2, g3, _⟩ := two_is z13
              go_wp2
              go_meet
              exact ⟨b12, b13, rfl, rfl, two_set_other (two_set z12) hne.symm, two_set (two_set_far z13 hne), below_two_sets hb l12 l13⟩
          · go_wp2
            refine ⟨⟨cell_new v2' _, cell_new v3' _⟩, ?_⟩
            replace v2' := cell_new v2' (.cells #[.int .i64 0, .int .u64 0] 58); replace v3' := cell_new v3' (.cells #[.int .i64 0, .int .u64 0] 58)
            have z12 : (x3.alloc (.cells #[.int .i64 0, .int .u64 0] 58)).heap[x3.heap.size]? = some (.cells #[.int .i64 0, .int .u64 0] 58 (0, 0)) := heap_at rfl
            have l12 : V.heap.size ≤ x3.heap.size := hb.size
            replace hb := hb.new (.cells #[.int .i64 0, .int .u64 0] 58)
            obtain ⟨b12, hb12⟩ : ∃ b, x3.heap.size = b := ⟨_, rfl⟩
            obtain ⟨x9, hx9⟩ : ∃ W, x3.alloc (.cells #[.int .i64 0, .int .u64 0] 58) = W := ⟨_, rfl⟩
            have h12lt := blk_lt z12
            rw [hx9] at z12 hb v2' v3' h12lt ⊢
            rw [hb12] at z12 l12 h12lt  ⊢
            clear hx9 hb12
            refine wpMix_pick [11, 13] (by kernel_rfl) (pick_two ?_ ?_) (by simp)
            all_goals simp only [opsAt, List.flatMap_cons, List.flatMap_nil, List.take_succ_cons, List.take_zero, List.drop_succ_cons, List.drop_zero, List.append_nil, List.cons_append, List.nil_append]
            · go_wp2_with (go_at_call 98; go_loud ((with_reducible refine (HC.out _).mono ?_); rintro e x10 ⟨rfl, hbk⟩))
              refine ⟨⟨cell_step v2' hbk, cell_step v3' hbk⟩, ?_⟩
              replace v2' := cell_step v2' hbk; replace v3' := cell_step v3' hbk; replace hb := hb.step hbk
              replace z12 := blk_below z12 hbk; replace h12lt := blk_lt z12
              clear hbk
              refine wpMix_next (t := 13) (by kernel_rfl) ?_
              simp only [opsAt, List.flatMap_cons, List.flatMap_nil, List.take_succ_cons, List.take_zero, List.drop_succ_cons, List.drop_zero, List.append_nil, List.cons_append, List.nil_append]
              go_wp2
              refine ⟨⟨cell_new v2' _, cell_new v3' _⟩, ?_⟩
              replace v2' := cell_new v2' (.cells #[.int .i64 0, .int .u64 0] 58); replace v3' := cell_new v3' (.cells #[.int .i64 0, .int .u64 0] 58)
              have z13 : (x10.alloc (.cells #[.int .i64 0, .int .u64 0] 58)).heap[x10.heap.size]? = some (.cells #[.int .i64 0, .int .u64 0] 58 (0, 0)) := heap_at rfl
              have l13 : V.heap.size ≤ x10.heap.size := hb.size
              replace z12 := blk_below z12 ((Below.refl _ _).new (.cells #[.int .i64 0, .int .u64 0] 58))
              have hlt13 : b12 < x10.heap.size := h12lt
              replace hb := hb.new (.cells #[.int .i64 0, .int .u64 0] 58)
              obtain ⟨b13, hb13⟩ : ∃ b, x10.heap.size = b := ⟨_, rfl⟩
              obtain ⟨x11, hx11⟩ : ∃ W, x10.alloc (.cells #[.int .i64 0, .int .u64 0] 58) = W := ⟨_, rfl⟩
              have h13lt := blk_lt z13
              have h12lt' := blk_lt z12
              clear h12lt
              have h12lt := h12lt'
              clear h12lt'
              rw [hx11] at z13 hb v2' v3' h13lt z12 h12lt ⊢
              rw [hb13] at z13 l13 h13lt hlt13 ⊢
              have hne : b12 ≠ b13 := by omega
              clear hx11 hb13
              refine wpMix_rest [14, 15] (by kernel_rfl) ?_
              simp only [opsAt, List.flatMap_cons, List.flatMap_nil, List.take_succ_cons, List.take_zero, List.drop_succ_cons, List.drop_zero, List.append_nil, List.cons_append, List.nil_append]
              obtain ⟨y0, y1, g0, g1, _⟩ := two_is z12
              obtain ⟨y2, y3, g2, g3, _⟩ := two_is z13
              go_wp2
              go_meet
              exact ⟨b12, b13, rfl, rfl, two_set_other (two_set z12) hne.symm, two_set (two_set_far z13 hne), below_two_sets hb l12 l13⟩
            · go_wp2
              refine ⟨⟨cell_new v2' _, cell_new v3' _⟩, ?_⟩
              replace v2' := cell_new v2' (.cells #[.int .i64 0, .int .u64 0] 58); replace v3' := cell_new v3' (.cells #[.int .i64 0, .int .u64 0] 58)
              have z13 : (x9.alloc (.cells #[.int .i64 0, .int .u64 0] 58)).heap[x9.heap.size]? = some (.cells #[.int .i64 0, .int .u64 0] 58 (0, 0)) := heap_at rfl
              have l13 : V.heap.size ≤ x9.heap.size := hb.size
              replace z12 := blk_below z12 ((Below.refl _ _).new (.cells #[.int .i64 0, .int .u64 0] 58))
              have hlt13 : b12 < x9.heap.size := h12lt
              replace hb := hb.new (.cells #[.int .i64 0, .int .u64 0] 58)
              obtain ⟨b13, hb13⟩ : ∃ b, x9.heap.size = b := ⟨_, rfl⟩
              obtain ⟨x12, hx12⟩ : ∃ W, x9.alloc (.cells #[.int .i64 0, .int .u64 0] 58) = W := ⟨_, rfl⟩
              have h13lt := blk_lt z13
              have h12lt' := blk_lt z12
              clear h12lt
              have h12lt := h12lt'
              clear h12lt'
              rw [hx12] at z13 hb v2' v3' h13lt z12 h12lt ⊢
              rw [hb13] at z13 l13 h13lt hlt13 ⊢
              have hne : b12 ≠ b13 := by omega
              clear hx12 hb13
              refine wpMix_next (t := 11) (by kernel_rfl) ?_
              simp only [opsAt, List.flatMap_cons, List.flatMap_nil, List.take_succ_cons, List.take_zero, List.drop_succ_cons, List.drop_zero, List.append_nil, List.cons_append, List.nil_append]
              go_wp2_with (go_at_call 98; go_loud ((with_reducible refine (HC.out _).mono ?_); rintro e x13 ⟨rfl, hbk⟩))
              refine ⟨⟨cell_step v2' hbk, cell_step v3' hbk⟩, ?_⟩
              replace v2' := cell_step v2' hbk; replace v3' := cell_step v3' hbk; replace hb := hb.step hbk
              replace z12 := blk_below z12 hbk; replace h12lt := blk_lt z12
              replace z13 := blk_below z13 hbk; replace h13lt := blk_lt z13
              clear hbk
              refine wpMix_rest [14, 15] (by kernel_rfl) ?_
              simp only [opsAt, List.flatMap_cons, List.flatMap_nil, List.take_succ_cons, List.take_zero, List.drop_succ_cons, List.drop_zero, List.append_nil, List.cons_append, List.nil_append]
              obtain ⟨y0, y1, g0, g1, _⟩ := two_is z12
              obtain ⟨y2, y3, g2, g3, _⟩ := two_is z13
              go_wp2
              go_meet
              exact ⟨b12, b13, rfl, rfl, two_set_other (two_set z12) hne.symm, two_set (two_set_far z13 hne), below_two_sets hb l12 l13⟩
          · go_wp2
            refine ⟨⟨cell_new v2' _, cell_new v3' _⟩, ?_⟩
            replace v2' := cell_new v2' (.cells #[.int .i64 0, .int .u64 0] 58); replace v3' := cell_new v3' (.cells #[.int .i64 0, .int .u64 0] 58)
            have z13 : (x3.alloc (.cells #[.int .i64 0, .int .u64 0] 58)).heap[x3.heap.size]? = some (.cells #[.int .i64 0, .int .u64 0] 58 (0, 0)) := heap_at rfl
            have l13 : V.heap.size ≤ x3.heap.size := hb.size
            replace hb := hb.new (.cells #[.int .i64 0, .int .u64 0] 58)
            obtain ⟨b13, hb13⟩ : ∃ b, x3.heap.size = b := ⟨_, rfl⟩
            obtain ⟨x14, hx14⟩ : ∃ W, x3.alloc (.cells #[.int .i64 0, .int .u64 0] 58) = W := ⟨_, rfl⟩
            have h13lt := blk_lt z13
            rw [hx14] at z13 hb v2' v3' h13lt ⊢
            rw [hb13] at z13 l13 h13lt  ⊢
            clear hx14 hb13
            refine wpMix_pick [11, 12] (by kernel_rfl) (pick_two ?_ ?_) (by simp)
            all_goals simp only [opsAt, List.flatMap_cons, List.flatMap_nil, List.take_succ_cons, List.take_zero, List.drop_succ_cons, List.drop_zero, List.append_nil, List.cons_append, List.nil_append]
            · go_wp2_with (go_at_call 98; go_loud ((with_reducible refine (HC.out _).mono ?_); rintro e x15 ⟨rfl, hbk⟩))
              refine ⟨⟨cell_step v2' hbk, cell_step v3' hbk⟩, ?_⟩
              replace v2' := cell_step v2' hbk; replace v3' := cell_step v3' hbk; replace hb := hb.step hbk
              replace z13 := blk_below z13 hbk; replace h13lt := blk_lt z13
              clear hbk
              refine wpMix_next (t := 12) (by kernel_rfl) ?_
              simp only [opsAt, List.flatMap_cons, List.flatMap_nil, List.take_succ_cons, List.take_zero, List.drop_succ_cons, List.drop_zero, List.append_nil, List.cons_append, List.nil_append]
              go_wp2
              refine ⟨⟨cell_new v2' _, cell_new v3' _⟩, ?_⟩
              replace v2' := cell_new v2' (.cells #[.int .i64 0, .int .u64 0] 58); replace v3' := cell_new v3' (.cells #[.int .i64 0, .int .u64 0] 58)
              have z12 : (x15.alloc (.cells #[.int .i64 0, .int .u64 0] 58)).heap[x15.heap.size]? = some (.cells #[.int .i64 0, .int .u64 0] 58 (0, 0)) := heap_at rfl
              have l12 : V.heap.size ≤ x15.heap.size := hb.size
              replace z13 := blk_below z13 ((Below.refl _ _).new (.cells #[.int .i64 0, .int .u64 0] 58))
              have hlt12 : b13 < x15.heap.size := h13lt
              replace hb := hb.new (.cells #[.int .i64 0, .int .u64 0] 58)
              obtain ⟨b12, hb12⟩ : ∃ b, x15.heap.size = b := ⟨_, rfl⟩
              obtain ⟨x16, hx16⟩ : ∃ W, x15.alloc (.cells #[.int .i64 0, .int .u64 0] 58) = W := ⟨_, rfl⟩
              have h12lt := blk_lt z12
              have h13lt' := blk_lt z13
              clear h13lt
              have h13lt := h13lt'
              clear h13lt'
              rw [hx16] at z12 hb v2' v3' h12lt z13 h13lt ⊢
              rw [hb12] at z12 l12 h12lt hlt12 ⊢
              have hne : b12 ≠ b13 := by omega
              clear hx16 hb12
              refine wpMix_rest [14, 15] (by kernel_rfl) ?_
              simp only [opsAt, List.flatMap_cons, List.flatMap_nil, List.take_succ_cons, List.take_zero, List.drop_succ_cons, List.drop_zero, List.append_nil, List.cons_append, List.nil_append]
              obtain ⟨y0, y1, g0, g1, _⟩ := two_is z12
              obtain ⟨y2, y3, g2, g3, _⟩ := two_is z13
              go_wp2
              go_meet
              exact ⟨b12, b13, rfl, rfl, two_set_other (two_set z12) hne.symm, two_set (two_set_far z13 hne), below_two_sets hb l12 l13⟩
            · go_wp2
              refine ⟨⟨cell_new v2' _, cell_new v3' _⟩, ?_⟩
              replace v2' := cell_new v2' (.cells #[.int .i64 0, .int .u64 0] 58); replace v3' := cell_new v3' (.cells #[.int .i64 0, .int .u64 0] 58)
              have z12 : (x14.alloc (.cells #[.int .i64 0, .int .u64 0] 58)).heap[x14.heap.size]? = some (.cells #[.int .i64 0, .int .u64 0] 58 (0, 0)) := heap_at rfl
              have l12 : V.heap.size ≤ x14.heap.size := hb.size
              replace z13 := blk_below z13 ((Below.refl _ _).new (.cells #[.int .i64 0, .int .u64 0] 58))
              have hlt12 : b13 < x14.heap.size := h13lt
              replace hb := hb.new (.cells #[.int .i64 0, .int .u64 0] 58)
              obtain ⟨b12, hb12⟩ : ∃ b, x14.heap.size = b := ⟨_, rfl⟩
              obtain ⟨x17, hx17⟩ : ∃ W, x14.alloc (.cells #[.int .i64 0, .int .u64 0] 58) = W := ⟨_, rfl⟩
              have h12lt := blk_lt z12
              have h13lt' := blk_lt z13
              clear h13lt
              have h13lt := h13lt'
              clear h13lt'
              rw [hx17] at z12 hb v2' v3' h12lt z13 h13lt ⊢
              rw [hb12] at z12 l12 h12lt hlt12 ⊢
              have hne : b12 ≠ b13 := by omega
              clear hx17 hb12
              refine wpMix_next (t := 11) (by kernel_rfl) ?_
              simp only [opsAt, List.flatMap_cons, List.flatMap_nil, List.take_succ_cons, List.take_zero, List.drop_succ_cons, List.drop_zero, List.append_nil, List.cons_append, List.nil_append]
              go_wp2_with (go_at_call 98; go_loud ((with_reducible refine (HC.out _).mono ?_); rintro e x18 ⟨rfl, hbk⟩))
              refine ⟨⟨cell_step v2' hbk, cell_step v3' hbk⟩, ?_⟩
              replace v2' := cell_step v2' hbk; replace v3' := cell_step v3' hbk; replace hb := hb.step hbk
              replace z12 := blk_below z12 hbk; replace h12lt := blk_lt z12
              replace z13 := blk_below z13 hbk; replace h13lt := blk_lt z13
              clear hbk
              refine wpMix_rest [14, 15] (by kernel_rfl) ?_
              simp only [opsAt, List.flatMap_cons, List.flatMap_nil, List.take_succ_cons, List.take_zero, List.drop_succ_cons, List.drop_zero, List.append_nil, List.cons_append, List.nil_append]
              obtain ⟨y0, y1, g0, g1, _⟩ := two_is z12
              obtain ⟨y2, y3, g2, g3, _⟩ := two_is z13
              go_wp2
              go_meet
              exact ⟨b12, b13, rfl, rfl, two_set_other (two_set z12) hne.symm, two_set (two_set_far z13 hne), below_two_sets hb l12 l13⟩
        · go_wp2
          refine ⟨⟨cell_new v2' _, cell_new v3' _⟩, ?_⟩
          replace v2' := cell_new v2' (.cells #[.int .i64 0, .int .u64 0] 58); replace v3' := cell_new v3' (.cells #[.int .i64 0, .int .u64 0] 58)
          have z12 : (x2.alloc (.cells #[.int .i64 0, .int .u64 0] 58)).heap[x2.heap.size]? = some (.cells #[.int .i64 0, .int .u64 0] 58 (0, 0)) := heap_at rfl
          have l12 : V.heap.size ≤ x2.heap.size := hb.size
          replace hb := hb.new (.cells #[.int .i64 0, .int .u64 0] 58)
          obtain ⟨b12, hb12⟩ : ∃ b, x2.heap.size = b := ⟨_, rfl⟩
          obtain ⟨x19, hx19⟩ : ∃ W, x2.alloc (.cells #[.int .i64 0, .int .u64 0] 58) = W := ⟨_, rfl⟩
          have h12lt := blk_lt z12
          rw [hx19] at z12 hb v2' v3' h12lt ⊢
          rw [hb12] at z12 l12 h12lt  ⊢
          clear hx19 hb12
          refine wpMix_pick [10, 13] (by kernel_rfl) (pick_two ?_ ?_) (by simp)
          all_goals simp only [opsAt, List.flatMap_cons, List.flatMap_nil, List.take_succ_cons, List.take_zero, List.drop_succ_cons, List.drop_zero, List.append_nil, List.cons_append, List.nil_append]
          · go_wp2_with (go_at_call 110; go_loud ((with_reducible refine (HN.out _).mono ?_); rintro e x20 ⟨rfl, hbk⟩))
            refine ⟨⟨cell_step v2' hbk, cell_step v3' hbk⟩, ?_⟩
            replace v2' := cell_step v2' hbk; replace v3' := cell_step v3' hbk; replace hb := hb.step hbk
            replace z12 := blk_below z12 hbk; replace h12lt := blk_lt z12
            clear hbk
            refine wpMix_pick [11, 13] (by kernel_rfl) (pick_two ?_ ?_) (by simp)
            all_goals simp only [opsAt, List.flatMap_cons, List.flatMap_nil, List.take_succ_cons, List.take_zero, List.drop_succ_cons, List.drop_zero, List.append_nil, List.cons_append, List.nil_append]
            · go_wp2_with (go_at_call 98; go_loud ((with_reducible refine (HC.out _).mono ?_); rintro e x21 ⟨rfl, hbk⟩))
              refine ⟨⟨cell_step v2' hbk, cell_step v3' hbk⟩, ?_⟩
              replace v2' := cell_step v2' hbk; replace v3' := cell_step v3' hbk; replace hb := hb.step hbk
              replace z12 := blk_below z12 hbk; replace h12lt := blk_lt z12
              clear hbk
              refine wpMix_next (t := 13) (by kernel_rfl) ?_
              simp only [opsAt, List.flatMap_cons, List.flatMap_nil, List.take_succ_cons, List.take_zero, List.drop_succ_cons, List.drop_zero, List.append_nil, List.cons_append, List.nil_append]
              go_wp2
              refine ⟨⟨cell_new v2' _, cell_new v3' _⟩, ?_⟩
              replace v2' := cell_new v2' (.cells #[.int .i64 0, .int .u64 0] 58); replace v3' := cell_new v3' (.cells #[.int .i64 0, .int .u64 0] 58)
              have z13 : (x21.alloc (.cells #[.int .i64 0, .int .u64 0] 58)).heap[x21.heap.size]? = some (.cells #[.int .i64 0, .int .u64 0] 58 (0, 0)) := heap_at rfl
              have l13 : V.heap.size ≤ x21.heap.size := hb.size
              replace z12 := blk_below z12 ((Below.refl _ _).new (.cells #[.int .i64 0, .int .u64 0] 58))
              have hlt13 : b12 < x21.heap.size := h12lt
              replace hb := hb.new (.cells #[.int .i64 0, .int .u64 0] 58)
              obtain ⟨b13, hb13⟩ : ∃ b, x21.heap.size = b := ⟨_, rfl⟩
              obtain ⟨x22, hx22⟩ : ∃ W, x21.alloc (.cells #[.int .i64 0, .int .u64 0] 58) = W := ⟨_, rfl⟩
              have h13lt := blk_lt z13
              have h12lt' := blk_lt z12
              clear h12lt
              have h12lt := h12lt'
              clear h12lt'
              rw [hx22] at z13 hb v2' v3' h13lt z12 h12lt ⊢
              rw [hb13] at z13 l13 h13lt hlt13 ⊢
              have hne : b12 ≠ b13 := by omega
              clear hx22 hb13
              refine wpMix_rest [14, 15] (by kernel_rfl) ?_
              simp only [opsAt, List.flatMap_cons, List.flatMap_nil, List.take_succ_cons, List.take_zero, List.drop_succ_cons, List.drop_zero, List.append_nil, List.cons_append, List.nil_append]
              obtain ⟨y0, y1, g0, g1, _⟩ := two_is z12
              obtain ⟨y2, y3, g2, g3, _⟩ := two_is z13
              go_wp2
              go_meet
              exact ⟨b12, b13, rfl, rfl, two_set_other (two_set z12) hne.symm, two_set (two_set_far z13 hne), below_two_sets hb l12 l13⟩
            · go_wp2
              refine ⟨⟨cell_new v2' _, cell_new v3' _⟩, ?_⟩
              replace v2' := cell_new v2' (.cells #[.int .i64 0, .int .u64 0] 58); replace v3' := cell_new v3' (.cells #[.int .i64 0, .int .u64 0] 58)
              have z13 : (x20.alloc (.cells #[.int .i64 0, .int .u64 0] 58)).heap[x20.heap.size]? = some (.cells #[.int .i64 0, .int .u64 0] 58 (0, 0)) := heap_at rfl
              have l13 : V.heap.size ≤ x20.heap.size := hb.size
              replace z12 := blk_below z12 ((Below.refl _ _).new (.cells #[.int .i64 0, .int .u64 0] 58))
              have hlt13 : b12 < x20.heap.size := h12lt
              replace hb := hb.new (.cells #[.int .i64 0, .int .u64 0] 58)
              obtain ⟨b13, hb13⟩ : ∃ b, x20.heap.size = b := ⟨_, rfl⟩
              obtain ⟨x23, hx23⟩ : ∃ W, x20.alloc (.cells #[.int .i64 0, .int .u64 0] 58) = W := ⟨_, rfl⟩
              have h13lt := blk_lt z13
              have h12lt' := blk_lt z12
              clear h12lt
              have h12lt := h12lt'
              clear h12lt'
              rw [hx23] at z13 hb v2' v3' h13lt z12 h12lt ⊢
              rw [hb13] at z13 l13 h13lt hlt13 ⊢
              have hne : b12 ≠ b13 := by omega
              clear hx23 hb13
              refine wpMix_next (t := 11) (by kernel_rfl) ?_
              simp only [opsAt, List.flatMap_cons, List.flatMap_nil, List.take_succ_cons, List.take_zero, List.drop_succ_cons, List.drop_zero, List.append_nil, List.cons_append, List.nil_append]
              go_wp2_with (go_at_call 98; go_loud ((with_reducible refine (HC.out _).mono ?_); rintro e x24 ⟨rfl, hbk⟩))
              refine ⟨⟨cell_step v2' hbk, cell_step v3' hbk⟩, ?_⟩
              replace v2' := cell_step v2' hbk; replace v3' := cell_step v3' hbk; replace hb := hb.step hbk
              replace z12 := blk_below z12 hbk; replace h12lt := blk_lt z12
              replace z13 := blk_below z13 hbk; replace h13lt := blk_lt z13
              clear hbk
              refine wpMix_rest [14, 15] (by kernel_rfl) ?_
              simp only [opsAt, List.flatMap_cons, List.flatMap_nil, List.take_succ_cons, List.take_zero, List.drop_succ_cons, List.drop_zero, List.append_nil, List.cons_append, List.nil_append]
              obtain ⟨y0, y1, g0, g1, _⟩ := two_is z12
              obtain ⟨y2, y3, g2, g3, _⟩ := two_is z13
              go_wp2
              go_meet
              exact ⟨b12, b13, rfl, rfl, two_set_other (two_set z12) hne.symm, two_set (two_set_far z13 hne), below_two_sets hb l12 l13⟩
          · go_wp2
            refine ⟨⟨cell_new v2' _, cell_new v3' _⟩, ?_⟩
            replace v2' := cell_new v2' (.cells #[.int .i64 0, .int .u64 0] 58); replace v3' := cell_new v3' (.cells #[.int .i64 0, .int .u64 0] 58)
            have z13 : (x19.alloc (.cells #[.int .i64 0, .int .u64 0] 58)).heap[x19.heap.size]? = some (.cells #[.int .i64 0, .int .u64 0] 58 (0, 0)) := heap_at rfl
            have l13 : V.heap.size ≤ x19.heap.size := hb.size
            replace z12 := blk_below z12 ((Below.refl _ _).new (.cells #[.int .i64 0, .int .u64 0] 58))
            have hlt13 : b12 < x19.heap.size := h12lt
            replace hb := hb.new (.cells #[.int .i64 0, .int .u64 0] 58)
            obtain ⟨b13, hb13⟩ : ∃ b, x19.heap.size = b := ⟨_, rfl⟩
            obtain ⟨x25, hx25⟩ : ∃ W, x19.alloc (.cells #[.int .i64 0, .int .u64 0] 58) = W := ⟨_, rfl⟩
            have h13lt := blk_lt z13
            have h12lt' := blk_lt z12
            clear h12lt
            have h12lt := h12lt'
            clear h12lt'
            rw [hx25] at z13 hb v2' v3' h13lt z12 h12lt ⊢
            rw [hb13] at z13 l13 h13lt hlt13 ⊢
            have hne : b12 ≠ b13 := by omega
            clear hx25 hb13
            refine wpMix_next (t := 10) (by kernel_rfl) ?_
            simp only [opsAt, List.flatMap_cons, List.flatMap_nil, List.take_succ_cons, List.take_zero, List.drop_succ_cons, List.drop_zero, List.append_nil, List.cons_append, List.nil_append]
            go_wp2_with (go_at_call 110; go_loud ((with_reducible refine (HN.out _).mono ?_); rintro e x26 ⟨rfl, hbk⟩))
            refine ⟨⟨cell_step v2' hbk, cell_step v3' hbk⟩, ?_⟩
            replace v2' := cell_step v2' hbk; replace v3' := cell_step v3' hbk; replace hb := hb.step hbk
            replace z12 := blk_below z12 hbk; replace h12lt := blk_lt z12
            replace z13 := blk_below z13 hbk; replace h13lt := blk_lt z13
            clear hbk
            refine wpMix_next (t := 11) (by kernel_rfl) ?_
            simp only [opsAt, List.flatMap_cons, List.flatMap_nil, List.take_succ_cons, List.take_zero, List.drop_succ_cons, List.drop_zero, List.append_nil, List.cons_append, List.nil_append]
            go_wp2_with (go_at_call 98; go_loud ((with_reducible refine (HC.out _).mono ?_); rintro e x27 ⟨rfl, hbk⟩))
            refine ⟨⟨cell_step v2' hbk, cell_step v3' hbk⟩, ?_⟩
            replace v2' := cell_step v2' hbk; replace v3' := cell_step v3' hbk; replace hb := hb.step hbk
            replace z12 := blk_below z12 hbk; replace h12lt := blk_lt z12
            replace z13 := blk_below z13 hbk; replace h13lt := blk_lt z13
            clear hbk
            refine wpMix_rest [14, 15] (by kernel_rfl) ?_
            simp only [opsAt, List.flatMap_cons, List.flatMap_nil, List.take_succ_cons, List.take_zero, List.drop_succ_cons, List.drop_zero, List.append_nil, List.cons_append, List.nil_append]
            obtain ⟨y0, y1, g0, g1, _⟩ := two_is z12
            obtain ⟨y2, y3, g2, g3, _⟩ := two_is z13
            go_wp2
            go_meet
            exact ⟨b12, b13, rfl, rfl, two_set_other (two_set z12) hne.symm, two_set (two_set_far z13 hne), below_two_sets hb l12 l13⟩
        · go_wp2
          refine ⟨⟨cell_new v2' _, cell_new v3' _⟩, ?_⟩
          replace v2' := cell_new v2' (.cells #[.int .i64 0, .int .u64 0] 58); replace v3' := cell_new v3' (.cells #[.int .i64 0, .int .u64 0] 58)
          have z13 : (x2.alloc (.cells #[.int .i64 0, .int .u64 0] 58)).heap[x2.heap.size]? = some (.cells #[.int .i64 0, .int .u64 0] 58 (0, 0)) := heap_at rfl
          have l13 : V.heap.size ≤ x2.heap.size := hb.size
          replace hb := hb.new (.cells #[.int .i64 0, .int .u64 0] 58)
          obtain ⟨b13, hb13⟩ : ∃ b, x2.heap.size = b := ⟨_, rfl⟩
          obtain ⟨x28, hx28⟩ : ∃ W, x2.alloc (.cells #[.int .i64 0, .int .u64 0] 58) = W := ⟨_, rfl⟩
          have h13lt := blk_lt z13
          rw [hx28] at z13 hb v2' v3' h13lt ⊢
          rw [hb13] at z13 l13 h13lt  ⊢
          clear hx28 hb13
          refine wpMix_pick [10, 12] (by kernel_rfl) (pick_two ?_ ?_) (by simp)
          all_goals simp only [opsAt, List.flatMap_cons, List.flatMap_nil, List.take_succ_cons, List.take_zero, List.drop_succ_cons, List.drop_zero, List.append_nil, List.cons_append, List.nil_append]
          · go_wp2_with (go_at_call 110; go_loud ((with_reducible refine (HN.out _).mono ?_); rintro e x29 ⟨rfl, hbk⟩))
            refine ⟨⟨cell_step v2' hbk, cell_step v3' hbk⟩, ?_⟩
            replace v2' := cell_step v2' hbk; replace v3' := cell_step v3' hbk; replace hb := hb.step hbk
            replace z13 := blk_below z13 hbk; replace h13lt := blk_lt z13
            clear hbk
            refine wpMix_pick [11, 12] (by kernel_rfl) (pick_two ?_ ?_) (by simp)
            all_goals simp only [opsAt, List.flatMap_cons, List.flatMap_nil, List.take_succ_cons, List.take_zero, List.drop_succ_cons, List.drop_zero, List.append_nil, List.cons_append, List.nil_append]
            · go_wp2_with (go_at_call 98; go_loud ((with_reducible refine (HC.out _).mono ?_); rintro e x30 ⟨rfl, hbk⟩))
              refine ⟨⟨cell_step v2' hbk, cell_step v3' hbk⟩, ?_⟩
              replace v2' := cell_step v2' hbk; replace v3' := cell_step v3' hbk; replace hb := hb.step hbk
              replace z13 := blk_below z13 hbk; replace h13lt := blk_lt z13
              clear hbk
              refine wpMix_next (t := 12) (by kernel_rfl) ?_
              simp only [opsAt, List.flatMap_cons, List.flatMap_nil, List.take_succ_cons, List.take_zero, List.drop_succ_cons, List.drop_zero, List.append_nil, List.cons_append, List.nil_append]
              go_wp2
              refine ⟨⟨cell_new v2' _, cell_new v3' _⟩, ?_⟩
              replace v2' := cell_new v2' (.cells #[.int .i64 0, .int .u64 0] 58); replace v3' := cell_new v3' (.cells #[.int .i64 0, .int .u64 0] 58)
              have z12 : (x30.alloc (.cells #[.int .i64 0, .int .u64 0] 58)).heap[x30.heap.size]? = some (.cells #[.int .i64 0, .int .u64 0] 58 (0, 0)) := heap_at rfl
              have l12 : V.heap.size ≤ x30.heap.size := hb.size
              replace z13 := blk_below z13 ((Below.refl _ _).new (.cells #[.int .i64 0, .int .u64 0] 58))
              have hlt12 : b13 < x30.heap.size := h13lt
              replace hb := hb.new (.cells #[.int .i64 0, .int .u64 0] 58)
              obtain ⟨b12, hb12⟩ : ∃ b, x30.heap.size = b := ⟨_, rfl⟩
              obtain ⟨x31, hx31⟩ : ∃ W, x30.alloc (.cells #[.int .i64 0, .int .u64 0] 58) = W := ⟨_, rfl⟩
              have h12lt := blk_lt z12
              have h13lt' := blk_lt z13
              clear h13lt
              have h13lt := h13lt'
              clear h13lt'
              rw [hx31] at z12 hb v2' v3' h12lt z13 h13lt ⊢
              rw [hb12] at z12 l12 h12lt hlt12 ⊢
              have hne : b12 ≠ b13 := by omega
              clear hx31 hb12
              refine wpMix_rest [14, 15] (by kernel_rfl) ?_
              simp only [opsAt, List.flatMap_cons, List.flatMap_nil, List.take_succ_cons, List.take_zero, List.drop_succ_cons, List.drop_zero, List.append_nil, List.cons_append, List.nil_append]
              obtain ⟨y0, y1, g0, g1, _⟩ := two_is z12
              obtain ⟨y2, y3, g2, g3, _⟩ := two_is z13
              go_wp2
              go_meet
              exact ⟨b12, b13, rfl, rfl, two_set_other (two_set z12) hne.symm, two_set (two_set_far z13 hne), below_two_sets hb l12 l13⟩
            · go_wp2
              refine ⟨⟨cell_new v2' _, cell_new v3' _⟩, ?_⟩
              replace v2' := cell_new v2' (.cells #[.int .i64 0, .int .u64 0] 58); replace v3' := cell_new v3' (.cells #[.int .i64 0, .int .u64 0] 58)
              have z12 : (x29.alloc (.cells #[.int .i64 0, .int .u64 0] 58)).heap[x29.heap.size]? = some (.cells #[.int .i64 0, .int .u64 0] 58 (0, 0)) := heap_at rfl
              have l12 : V.heap.size ≤ x29.heap.size := hb.size
              replace z13 := blk_below z13 ((Below.refl _ _).new (.cells #[.int .i64 0, .int .u64 0] 58))
              have hlt12 : b13 < x29.heap.size := h13lt
              replace hb := hb.new (.cells #[.int .i64 0, .int .u64 0] 58)
              obtain ⟨b12, hb12⟩ : ∃ b, x29.heap.size = b := ⟨_, rfl⟩
              obtain ⟨x32, hx32⟩ : ∃ W, x29.alloc (.cells #[.int .i64 0, .int .u64 0] 58) = W := ⟨_, rfl⟩
              have h12lt := blk_lt z12
              have h13lt' := blk_lt z13
              clear h13lt
              have h13lt := h13lt'
              clear h13lt'
              rw [hx32] at z12 hb v2' v3' h12lt z13 h13lt ⊢
              rw [hb12] at z12 l12 h12lt hlt12 ⊢
              have hne : b12 ≠ b13 := by omega
              clear hx32 hb12
              refine wpMix_next (t := 11) (by kernel_rfl) ?_
              simp only [opsAt, List.flatMap_cons, List.flatMap_nil, List.take_succ_cons, List.take_zero, List.drop_succ_cons, List.drop_zero, List.append_nil, List.cons_append, List.nil_append]
              go_wp2_with (go_at_call 98; go_loud ((with_reducible refine (HC.out _).mono ?_); rintro e x33 ⟨rfl, hbk⟩))
              refine ⟨⟨cell_step v2' hbk, cell_step v3' hbk⟩, ?_⟩
              replace v2' := cell_step v2' hbk; replace v3' := cell_step v3' hbk; replace hb := hb.step hbk
              replace z12 := blk_below z12 hbk; replace h12lt := blk_lt z12
              replace z13 := blk_below z13 hbk; replace h13lt := blk_lt z13
              clear hbk
              refine wpMix_rest [14, 15] (by kernel_rfl) ?_
              simp only [opsAt, List.flatMap_cons, List.flatMap_nil, List.take_succ_cons, List.take_zero, List.drop_succ_cons, List.drop_zero, List.append_nil, List.cons_append, List.nil_append]
              obtain ⟨y0, y1, g0, g1, _⟩ := two_is z12
              obtain ⟨y2, y3, g2, g3, _⟩ := two_is z13
              go_wp2
              go_meet
              exact ⟨b12, b13, rfl, rfl, two_set_other (two_set z12) hne.symm, two_set (two_set_far z13 hne), below_two_sets hb l12 l13⟩
          · go_wp2
            refine ⟨⟨cell_new v2' _, cell_new v3' _⟩, ?_⟩
            replace v2' := cell_new v2' (.cells #[.int .i64 0, .int .u64 0] 58); replace v3' := cell_new v3' (.cells #[.int .i64 0, .int .u64 0] 58)
            have z12 : (x28.alloc (.cells #[.int .i64 0, .int .u64 0] 58)).heap[x28.heap.size]? = some (.cells #[.int .i64 0, .int .u64 0] 58 (0, 0)) := heap_at rfl
            have l12 : V.heap.size ≤ x28.heap.size := hb.size
            replace z13 := blk_below z13 ((Below.refl _ _).new (.cells #[.int .i64 0, .int .u64 0] 58))
            have hlt12 : b13 < x28.heap.size := h13lt
            replace hb := hb.new (.cells #[.int .i64 0, .int .u64 0] 58)
            obtain ⟨b12, hb12⟩ : ∃ b, x28.heap.size = b := ⟨_, rfl⟩
            obtain ⟨x34, hx34⟩ : ∃ W, x28.alloc (.cells #[.int .i64 0, .int .u64 0] 58) = W := ⟨_, rfl⟩
            have h12lt := blk_lt z12
            have h13lt' := blk_lt z13
            clear h13lt
            have h13lt := h13lt'
            clear h13lt'
            rw [hx34] at z12 hb v2' v3' h12lt z13 h13lt ⊢
            rw [hb12] at z12 l12 h12lt hlt12 ⊢
            have hne : b12 ≠ b13 := by omega
            clear hx34 hb12
            refine wpMix_next (t := 10) (by kernel_rfl) ?_
            simp only [opsAt, List.flatMap_cons, List.flatMap_nil, List.take_succ_cons, List.take_zero, List.drop_succ_cons, List.drop_zero, List.append_nil, List.cons_append, List.nil_append]
            go_wp2_with (go_at_call 110; go_loud ((with_reducible refine (HN.out _).mono ?_); rintro e x35 ⟨rfl, hbk⟩))
            refine ⟨⟨cell_step v2' hbk, cell_step v3' hbk⟩, ?_⟩
            replace v2' := cell_step v2' hbk; replace v3' := cell_step v3' hbk; replace hb := hb.step hbk
            replace z12 := blk_below z12 hbk; replace h12lt := blk_lt z12
            replace z13 := blk_below z13 hbk; replace h13lt := blk_lt z13
            clear hbk
            refine wpMix_next (t := 11) (by kernel_rfl) ?_
            simp only [opsAt, List.flatMap_cons, List.flatMap_nil, List.take_succ_cons, List.take_zero, List.drop_succ_cons, List.drop_zero, List.append_nil, List.cons_append, List.nil_append]
            go_wp2_with (go_at_call 98; go_loud ((with_reducible refine (HC.out _).mono ?_); rintro e x36 ⟨rfl, hbk⟩))
            refine ⟨⟨cell_step v2' hbk, cell_step v3' hbk⟩, ?_⟩
            replace v2' := cell_step v2' hbk; replace v3' := cell_step v3' hbk; replace hb := hb.step hbk
            replace z12 := blk_below z12 hbk; replace h12lt := blk_lt z12
            replace z13 := blk_below z13 hbk; replace h13lt := blk_lt z13
            clear hbk
            refine wpMix_rest [14, 15] (by kernel_rfl) ?_
            simp only [opsAt, List.flatMap_cons, List.flatMap_nil, List.take_succ_cons, List.take_zero, List.drop_succ_cons, List.drop_zero, List.append_nil, List.cons_append, List.nil_append]
            obtain ⟨y0, y1, g0, g1, _⟩ := two_is z12
            obtain ⟨y2, y3, g2, g3, _⟩ := two_is z13
            go_wp2
            go_meet
            exact ⟨b12, b13, rfl, rfl, two_set_other (two_set z12) hne.symm, two_set (two_set_far z13 hne), below_two_sets hb l12 l13⟩
      · go_wp2
        refine ⟨⟨cell_new v2' _, cell_new v3' _⟩, ?_⟩
        replace v2' := cell_new v2' (.cells #[.int .i64 0, .int .u64 0] 58); replace v3' := cell_new v3' (.cells #[.int .i64 0, .int .u64 0] 58)
        have z12 : (x1.alloc (.cells #[.int .i64 0, .int .u64 0] 58)).heap[x1.heap.size]? = some (.cells #[.int .i64 0, .int .u64 0] 58 (0, 0)) := heap_at rfl
        have l12 : V.heap.size ≤ x1.heap.size := hb.size
        replace hb := hb.new (.cells #[.int .i64 0, .int .u64 0] 58)
        obtain ⟨b12, hb12⟩ : ∃ b, x1.heap.size = b := ⟨_, rfl⟩
        obtain ⟨x37, hx37⟩ : ∃ W, x1.alloc (.cells #[.int .i64 0, .int .u64 0] 58) = W := ⟨_, rfl⟩
        have h12lt := blk_lt z12
        rw [hx37] at z12 hb v2' v3' h12lt ⊢
        rw [hb12] at z12 l12 h12lt  ⊢
        clear hx37 hb12
        refine wpMix_pick [5, 13] (by kernel_rfl) (pick_two ?_ ?_) (by simp)
        all_goals simp only [opsAt, List.flatMap_cons, List.flatMap_nil, List.take_succ_cons, List.take_zero, List.drop_succ_cons, List.drop_zero, List.append_nil, List.cons_append, List.nil_append]
        · go_wp2_with (go_at_call 98; go_loud ((with_reducible refine (HB.out _).mono ?_); rintro e x38 ⟨rfl, hbk⟩))
          refine ⟨⟨cell_step v2' hbk, cell_step v3' hbk⟩, ?_⟩
          replace v2' := cell_step v2' hbk; replace v3' := cell_step v3' hbk; replace hb := hb.step hbk
          replace z12 := blk_below z12 hbk; replace h12lt := blk_lt z12
          clear hbk
          refine wpMix_pick [10, 13] (by kernel_rfl) (pick_two ?_ ?_) (by simp)
          all_goals simp only [opsAt, List.flatMap_cons, List.flatMap_nil, List.take_succ_cons, List.take_zero, List.drop_succ_cons, List.drop_zero, List.append_nil, List.cons_append, List.nil_append]
          · go_wp2_with (go_at_call 110; go_loud ((with_reducible refine (HN.out _).mono ?_); rintro e x39 ⟨rfl, hbk⟩))
            refine ⟨⟨cell_step v2' hbk, cell_step v3' hbk⟩, ?_⟩
            replace v2' := cell_step v2' hbk; replace v3' := cell_step v3' hbk; replace hb := hb.step hbk
            replace z12 := blk_below z12 hbk; replace h12lt := blk_lt z12
            clear hbk
            refine wpMix_pick [11, 13] (by kernel_rfl) (pick_two ?_ ?_) (by simp)
            all_goals simp only [opsAt, List.flatMap_cons, List.flatMap_nil, List.take_succ_cons, List.take_zero, List.drop_succ_cons, List.drop_zero, List.append_nil, List.cons_append, List.nil_append]
            · go_wp2_with (go_at_call 98; go_loud ((with_reducible refine (HC.out _).mono ?_); rintro e x40 ⟨rfl, hbk⟩))
              refine ⟨⟨cell_step v2' hbk, cell_step v3' hbk⟩, ?_⟩
              replace v2' := cell_step v2' hbk; replace v3' := cell_step v3' hbk; replace hb := hb.step hbk
              replace z12 := blk_below z12 hbk; replace h12lt := blk_lt z12
              clear hbk
              refine wpMix_next (t := 13) (by kernel_rfl) ?_
              simp only [opsAt, List.flatMap_cons, List.flatMap_nil, List.take_succ_cons, List.take_zero, List.drop_succ_cons, List.drop_zero, List.append_nil, List.cons_append, List.nil_append]
              go_wp2
              refine ⟨⟨cell_new v2' _, cell_new v3' _⟩, ?_⟩
              replace v2' := cell_new v2' (.cells #[.int .i64 0, .int .u64 0] 58); replace v3' := cell_new v3' (.cells #[.int .i64 0, .int .u64 0] 58)
              have z13 : (x40.alloc (.cells #[.int .i64 0, .int .u64 0] 58)).heap[x40.heap.size]? = some (.cells #[.int .i64 0, .int .u64 0] 58 (0, 0)) := heap_at rfl
              have l13 : V.heap.size ≤ x40.heap.size := hb.size
              replace z12 := blk_below z12 ((Below.refl _ _).new (.cells #[.int .i64 0, .int .u64 0] 58))
              have hlt13 : b12 < x40.heap.size := h12lt
              replace hb := hb.new (.cells #[.int .i64 0, .int .u64 0] 58)
              obtain ⟨b13, hb13⟩ : ∃ b, x40.heap.size = b := ⟨_, rfl⟩
              obtain ⟨x41, hx41⟩ : ∃ W, x40.alloc (.cells #[.int .i64 0, .int .u64 0] 58) = W := ⟨_, rfl⟩
              have h13lt := blk_lt z13
              have h12lt' := blk_lt z12
              clear h12lt
              have h12lt := h12lt'
              clear h12lt'
              rw [hx41] at z13 hb v2' v3' h13lt z12 h12lt ⊢
              rw [hb13] at z13 l13 h13lt hlt13 ⊢
              have hne : b12 ≠ b13 := by omega
              clear hx41 hb13
              refine wpMix_rest [14, 15] (by kernel_rfl) ?_
              simp only [opsAt, List.flatMap_cons, List.flatMap_nil, List.take_succ_cons, List.take_zero, List.drop_succ_cons, List.drop_zero, List.append_nil, List.cons_append, List.nil_append]
              obtain ⟨y0, y1, g0, g1, _⟩ := two_is z12
              obtain ⟨y2, y3, g2, g3, _⟩ := two_is z13
              go_wp2
              go_meet
              exact ⟨b12, b13, rfl, rfl, two_set_other (two_set z12) hne.symm, two_set (two_set_far z13 hne), below_two_sets hb l12 l13⟩
            · go_wp2
              refine ⟨⟨cell_new v2' _, cell_new v3' _⟩, ?_⟩
              replace v2' := cell_new v2' (.cells #[.int .i64 0, .int .u64 0] 58); replace v3' := cell_new v3' (.cells #[.int .i64 0, .int .u64 0] 58)
              have z13 : (x39.alloc (.cells #[.int .i64 0, .int .u64 0] 58)).heap[x39.heap.size]? = some (.cells #[.int .i64 0, .int .u64 0] 58 (0, 0)) := heap_at rfl
              have l13 : V.heap.size ≤ x39.heap.size := hb.size
              replace z12 := blk_below z12 ((Below.refl _ _).new (.cells #[.int .i64 0, .int .u64 0] 58))
              have hlt13 : b12 < x39.heap.size := h12lt
              replace hb := hb.new (.cells #[.int .i64 0, .int .u64 0] 58)
              obtain ⟨b13, hb13⟩ : ∃ b, x39.heap.size = b := ⟨_, rfl⟩
              obtain ⟨x42, hx42⟩ : ∃ W, x39.alloc (.cells #[.int .i64 0, .int .u64 0] 58) = W := ⟨_, rfl⟩
              have h13lt := blk_lt z13
              have h12lt' := blk_lt z12
              clear h12lt
              have h12lt := h12lt'
              clear h12lt'
              rw [hx42] at z13 hb v2' v3' h13lt z12 h12lt ⊢
              rw [hb13] at z13 l13 h13lt hlt13 ⊢
              have hne : b12 ≠ b13 := by omega
              clear hx42 hb13
              refine wpMix_next (t := 11) (by kernel_rfl) ?_
              simp only [opsAt, List.flatMap_cons, List.flatMap_nil, List.take_succ_cons, List.take_zero, List.drop_succ_cons, List.drop_zero, List.append_nil, List.cons_append, List.nil_append]
              go_wp2_with (go_at_call 98; go_loud ((with_reducible refine (HC.out _).mono ?_); rintro e x43 ⟨rfl, hbk⟩))
              refine ⟨⟨cell_step v2' hbk, cell_step v3' hbk⟩, ?_⟩
              replace v2' := cell_step v2' hbk; replace v3' := cell_step v3' hbk; replace hb := hb.step hbk
              replace z12 := blk_below z12 hbk; replace h12lt := blk_lt z12
              replace z13 := blk_below z13 hbk; replace h13lt := blk_lt z13
              clear hbk
              refine wpMix_rest [14, 15] (by kernel_rfl) ?_
              simp only [opsAt, List.flatMap_cons, List.flatMap_nil, List.take_succ_cons, List.take_zero, List.drop_succ_cons, List.drop_zero, List.append_nil, List.cons_append, List.nil_append]
              obtain ⟨y0, y1, g0, g1, _⟩ := two_is z12
              obtain ⟨y2, y3, g2, g3, _⟩ := two_is z13
              go_wp2
              go_meet
              exact ⟨b12, b13, rfl, rfl, two_set_other (two_set z12) hne.symm, two_set (two_set_far z13 hne), below_two_sets hb l12 l13⟩
          · go_wp2
            refine ⟨⟨cell_new v2' _, cell_new v3' _⟩, ?_⟩
            replace v2' := cell_new v2' (.cells #[.int .i64 0, .int .u64 0] 58); replace v3' := cell_new v3' (.cells #[.int .i64 0, .int .u64 0] 58)
            have z13 : (x38.alloc (.cells #[.int .i64 0, .int .u64 0] 58)).heap[x38.heap.size]? = some (.cells #[.int .i64 0, .int .u64 0] 58 (0, 0)) := heap_at rfl
            have l13 : V.heap.size ≤ x38.heap.size := hb.size
            replace z12 := blk_below z12 ((Below.refl _ _).new (.cells #[.int .i64 0, .int .u64 0] 58))
            have hlt13 : b12 < x38.heap.size := h12lt
            replace hb := hb.new (.cells #[.int .i64 0, .int .u64 0] 58)
            obtain ⟨b13, hb13⟩ : ∃ b, x38.heap.size = b := ⟨_, rfl⟩
            obtain ⟨x44, hx44⟩ : ∃ W, x38.alloc (.cells #[.int .i64 0, .int .u64 0] 58) = W := ⟨_, rfl⟩
            have h13lt := blk_lt z13
            have h12lt' := blk_lt z12
            clear h12lt
            have h12lt := h12lt'
            clear h12lt'
            rw [hx44] at z13 hb v2' v3' h13lt z12 h12lt ⊢
            rw [hb13] at z13 l13 h13lt hlt13 ⊢
            have hne : b12 ≠ b13 := by omega
            clear hx44 hb13
            refine wpMix_next (t := 10) (by kernel_rfl) ?_
            simp only [opsAt, List.flatMap_cons, List.flatMap_nil, List.take_succ_cons, List.take_zero, List.drop_succ_cons, List.drop_zero, List.append_nil, List.cons_append, List.nil_append]
            go_wp2_with (go_at_call 110; go_loud ((with_reducible refine (HN.out _).mono ?_); rintro e x45 ⟨rfl, hbk⟩))
            refine ⟨⟨cell_step v2' hbk, cell_step v3' hbk⟩, ?_⟩
            replace v2' := cell_step v2' hbk; replace v3' := cell_step v3' hbk; replace hb := hb.step hbk
            replace z12 := blk_below z12 hbk; replace h12lt := blk_lt z12
            replace z13 := blk_below z13 hbk; replace h13lt := blk_lt z13
            clear hbk
            refine wpMix_next (t := 11) (by kernel_rfl) ?_
            simp only [opsAt, List.flatMap_cons, List.flatMap_nil, List.take_succ_cons, List.take_zero, List.drop_succ_cons, List.drop_zero, List.append_nil, List.cons_append, List.nil_append]
            go_wp2_with (go_at_call 98; go_loud ((with_reducible refine (HC.out _).mono ?_); rintro e x46 ⟨rfl, hbk⟩))
            refine ⟨⟨cell_step v2' hbk, cell_step v3' hbk⟩, ?_⟩
            replace v2' := cell_step v2' hbk; replace v3' := cell_step v3' hbk; replace hb := hb.step hbk
            replace z12 := blk_below z12 hbk; replace h12lt := blk_lt z12
            replace z13 := blk_below z13 hbk; replace h13lt := blk_lt z13
            clear hbk
            refine wpMix_rest [14, 15] (by kernel_rfl) ?_
            simp only [opsAt, List.flatMap_cons, List.flatMap_nil, List.take_succ_cons, List.take_zero, List.drop_succ_cons, List.drop_zero, List.append_nil, List.cons_append, List.nil_append]
            obtain ⟨y0, y1, g0, g1, _⟩ := two_is z12
            obtain ⟨y2, y3, g2, g3, _⟩ := two_is z13
            go_wp2
            go_meet
            exact ⟨b12, b13, rfl, rfl, two_set_other (two_set z12) hne.symm, two_set (two_set_far z13 hne), below_two_sets hb l12 l13⟩
        · go_wp2
          refine ⟨⟨cell_new v2' _, cell_new v3' _⟩, ?_⟩
          replace v2' := cell_new v2' (.cells #[.int .i64 0, .int .u64 0] 58); replace v3' := cell_new v3' (.cells #[.int .i64 0, .int .u64 0] 58)
          have z13 : (x37.alloc (.cells #[.int .i64 0, .int .u64 0] 58)).heap[x37.heap.size]? = some (.cells #[.int .i64 0, .int .u64 0] 58 (0, 0)) := heap_at rfl
          have l13 : V.heap.size ≤ x37.heap.size := hb.size
          replace z12 := blk_below z12 ((Below.refl _ _).new (.cells #[.int .i64 0, .int .u64 0] 58))
          have hlt13 : b12 < x37.heap.size := h12lt
          replace hb := hb.new (.cells #[.int .i64 0, .int .u64 0] 58)
          obtain ⟨b13, hb13⟩ : ∃ b, x37.heap.size = b := ⟨_, rfl⟩
          obtain ⟨x47, hx47⟩ : ∃ W, x37.alloc (.cells #[.int .i64 0, .int .u64 0] 58) = W := ⟨_, rfl⟩
          have h13lt := blk_lt z13
          have h12lt' := blk_lt z12
          clear h12lt
          have h12lt := h12lt'
          clear h12lt'
          rw [hx47] at z13 hb v2' v3' h13lt z12 h12lt ⊢
          rw [hb13] at z13 l13 h13lt hlt13 ⊢
          have hne : b12 ≠ b13 := by omega
          clear hx47 hb13
          refine wpMix_next (t := 5) (by kernel_rfl) ?_
          simp only [opsAt, List.flatMap_cons, List.flatMap_nil, List.take_succ_cons, List.take_zero, List.drop_succ_cons, List.drop_zero, List.append_nil, List.cons_append, List.nil_append]
          go_wp2_with (go_at_call 98; go_loud ((with_reducible refine (HB.out _).mono ?_); rintro e x48 ⟨rfl, hbk⟩))
          refine ⟨⟨cell_step v2' hbk, cell_step v3' hbk⟩, ?_⟩
          replace v2' := cell_step v2' hbk; replace v3' := cell_step v3' hbk; replace hb := hb.step hbk
          replace z12 := blk_below z12 hbk; replace h12lt := blk_lt z12
          replace z13 := blk_below z13 hbk; replace h13lt := blk_lt z13
          clear hbk
          refine wpMix_next (t := 10) (by kernel_rfl) ?_
          simp only [opsAt, List.flatMap_cons, List.flatMap_nil, List.take_succ_cons, List.take_zero, List.drop_succ_cons, List.drop_zero, List.append_nil, List.cons_append, List.nil_append]
          go_wp2_with (go_at_call 110; go_loud ((with_reducible refine (HN.out _).mono ?_); rintro e x49 ⟨rfl, hbk⟩))
          refine ⟨⟨cell_step v2' hbk, cell_step v3' hbk⟩, ?_⟩
          replace v2' := cell_step v2' hbk; replace v3' := cell_step v3' hbk; replace hb := hb.step hbk
          replace z12 := blk_below z12 hbk; replace h12lt := blk_lt z12
          replace z13 := blk_below z13 hbk; replace h13lt := blk_lt z13
          clear hbk
          refine wpMix_next (t := 11) (by kernel_rfl) ?_
          simp only [opsAt, List.flatMap_cons, List.flatMap_nil, List.take_succ_cons, List.take_zero, List.drop_succ_cons, List.drop_zero, List.append_nil, List.cons_append, List.nil_append]
          go_wp2_with (go_at_call 98; go_loud ((with_reducible refine (HC.out _).mono ?_); rintro e x50 ⟨rfl, hbk⟩))
          refine ⟨⟨cell_step v2' hbk, cell_step v3' hbk⟩, ?_⟩
          replace v2' := cell_step v2' hbk; replace v3' := cell_step v3' hbk; replace hb := hb.step hbk
          replace z12 := blk_below z12 hbk; replace h12lt := blk_lt z12
          replace z13 := blk_below z13 hbk; replace h13lt := blk_lt z13
          clear hbk
          refine wpMix_rest [14, 15] (by kernel_rfl) ?_
          simp only [opsAt, List.flatMap_cons, List.flatMap_nil, List.take_succ_cons, List.take_zero, List.drop_succ_cons, List.drop_zero, List.append_nil, List.cons_append, List.nil_append]
          obtain ⟨y0, y1, g0, g1, _⟩ := two_is z12
          obtain ⟨y2, y3, g2, g3, _⟩ := two_is z13
          go_wp2
          go_meet
          exact ⟨b12, b13, rfl, rfl, two_set_other (two_set z12) hne.symm, two_set (two_set_far z13 hne), below_two_sets hb l12 l13⟩
      · go_wp2
        refine ⟨⟨cell_new v2' _, cell_new v3' _⟩, ?_⟩
        replace v2' := cell_new v2' (.cells #[.int .i64 0, .int .u64 0] 58); replace v3' := cell_new v3' (.cells #[.int .i64 0, .int .u64 0] 58)
        have z13 : (x1.alloc (.cells #[.int .i64 0, .int .u64 0] 58)).heap[x1.heap.size]? = some (.cells #[.int .i64 0, .int .u64 0] 58 (0, 0)) := heap_at rfl
        have l13 : V.heap.size ≤ x1.heap.size := hb.size
        replace hb := hb.new (.cells #[.int .i64 0, .int .u64 0] 58)
        obtain ⟨b13, hb13⟩ : ∃ b, x1.heap.size = b := ⟨_, rfl⟩
        obtain ⟨x51, hx51⟩ : ∃ W, x1.alloc (.cells #[.int .i64 0, .int .u64 0] 58) = W := ⟨_, rfl⟩
        have h13lt := blk_lt z13
        rw [hx51] at z13 hb v2' v3' h13lt ⊢
        rw [hb13] at z13 l13 h13lt  ⊢
        clear hx51 hb13
        refine wpMix_pick [5, 12] (by kernel_rfl) (pick_two ?_ ?_) (by simp)
        all_goals simp only [opsAt, List.flatMap_cons, List.flatMap_nil, List.take_succ_cons, List.take_zero, List.drop_succ_cons, List.drop_zero, List.append_nil, List.cons_append, List.nil_append]
        · go_wp2_with (go_at_call 98; go_loud ((with_reducible refine (HB.out _).mono ?_); rintro e x52 ⟨rfl, hbk⟩))
          refine ⟨⟨cell_step v2' hbk, cell_step v3' hbk⟩, ?_⟩
          replace v2' := cell_step v2' hbk; replace v3' := cell_step v3' hbk; replace hb := hb.step hbk
          replace z13 := blk_below z13 hbk; replace h13lt := blk_lt z13
          clear hbk
          refine wpMix_pick [10, 12] (by kernel_rfl) (pick_two ?_ ?_) (by simp)
          all_goals simp only [opsAt, List.flatMap_cons, List.flatMap_nil, List.take_succ_cons, List.take_zero, List.drop_succ_cons, List.drop_zero, List.append_nil, List.cons_append, List.nil_append]
          · go_wp2_with (go_at_call 110; go_loud ((with_reducible refine (HN.out _).mono ?_); rintro e x53 ⟨rfl, hbk⟩))
            refine ⟨⟨cell_step v2' hbk, cell_step v3' hbk⟩, ?_⟩
            replace v2' := cell_step v2' hbk; replace v3' := cell_step v3' hbk; replace hb := hb.step hbk
            replace z13 := blk_below z13 hbk; replace h13lt := blk_lt z13
            clear hbk
            refine wpMix_pick [11, 12] (by kernel_rfl) (pick_two ?_ ?_) (by simp)
            all_goals simp only [opsAt, List.flatMap_cons, List.flatMap_nil, List.take_succ_cons, List.take_zero, List.drop_succ_cons, List.drop_zero, List.append_nil, List.cons_append, List.nil_append]
            · go_wp2_with (go_at_call 98; go_loud ((with_reducible refine (HC.out _).mono ?_); rintro e x54 ⟨rfl, hbk⟩))
              refine ⟨⟨cell_step v2' hbk, cell_step v3' hbk⟩, ?_⟩
              replace v2' := cell_step v2' hbk; replace v3' := cell_step v3' hbk; replace hb := hb.step hbk
              replace z13 := blk_below z13 hbk; replace h13lt := blk_lt z13
              clear hbk
              refine wpMix_next (t := 12) (by kernel_rfl) ?_
              simp only [opsAt, List.flatMap_cons, List.flatMap_nil, List.take_succ_cons, List.take_zero, List.drop_succ_cons, List.drop_zero, List.append_nil, List.cons_append, List.nil_append]
              go_wp2
              refine ⟨⟨cell_new v2' _, cell_new v3' _⟩, ?_⟩
              replace v2' := cell_new v2' (.cells #[.int .i64 0, .int .u64 0] 58); replace v3' := cell_new v3' (.cells #[.int .i64 0, .int .u64 0] 58)
              have z12 : (x54.alloc (.cells #[.int .i64 0, .int .u64 0] 58)).heap[x54.heap.size]? = some (.cells #[.int .i64 0, .int .u64 0] 58 (0, 0)) := heap_at rfl
              have l12 : V.heap.size ≤ x54.heap.size := hb.size
              replace z13 := blk_below z13 ((Below.refl _ _).new (.cells #[.int .i64 0, .int .u64 0] 58))
              have hlt12 : b13 < x54.heap.size := h13lt
              replace hb := hb.new (.cells #[.int .i64 0, .int .u64 0] 58)
              obtain ⟨b12, hb12⟩ : ∃ b, x54.heap.size = b := ⟨_, rfl⟩
              obtain ⟨x55, hx55⟩ : ∃ W, x54.alloc (.cells #[.int .i64 0, .int .u64 0] 58) = W := ⟨_, rfl⟩
              have h12lt := blk_lt z12
              have h13lt' := blk_lt z13
              clear h13lt
              have h13lt := h13lt'
              clear h13lt'
              rw [hx55] at z12 hb v2' v3' h12lt z13 h13lt ⊢
              rw [hb12] at z12 l12 h12lt hlt12 ⊢
              have hne : b12 ≠ b13 := by omega
              clear hx55 hb12
              refine wpMix_rest [14, 15] (by kernel_rfl) ?_
              simp only [opsAt, List.flatMap_cons, List.flatMap_nil, List.take_succ_cons, List.take_zero, List.drop_succ_cons, List.drop_zero, List.append_nil, List.cons_append, List.nil_append]
              obtain ⟨y0, y1, g0, g1, _⟩ := two_is z12
              obtain ⟨y2, y3, g2, g3, _⟩ := two_is z13
              go_wp2
              go_meet
              exact ⟨b12, b13, rfl, rfl, two_set_other (two_set z12) hne.symm, two_set (two_set_far z13 hne), below_two_sets hb l12 l13⟩
            · go_wp2
              refine ⟨⟨cell_new v2' _, cell_new v3' _⟩, ?_⟩
              replace v2' := cell_new v2' (.cells #[.int .i64 0, .int .u64 0] 58); replace v3' := cell_new v3' (.cells #[.int .i64 0, .int .u64 0] 58)
              have z12 : (x53.alloc (.cells #[.int .i64 0, .int .u64 0] 58)).heap[x53.heap.size]? = some (.cells #[.int .i64 0, .int .u64 0] 58 (0, 0)) := heap_at rfl
              have l12 : V.heap.size ≤ x53.heap.size := hb.size
              replace z13 := blk_below z13 ((Below.refl _ _).new (.cells #[.int .i64 0, .int .u64 0] 58))
              have hlt12 : b13 < x53.heap.size := h13lt
              replace hb := hb.new (.cells #[.int .i64 0, .int .u64 0] 58)
              obtain ⟨b12, hb12⟩ : ∃ b, x53.heap.size = b := ⟨_, rfl⟩
              obtain ⟨x56, hx56⟩ : ∃ W, x53.alloc (.cells #[.int .i64 0, .int .u64 0] 58) = W := ⟨_, rfl⟩
              have h12lt := blk_lt z12
              have h13lt' := blk_lt z13
              clear h13lt
              have h13lt := h13lt'
              clear h13lt'
              rw [hx56] at z12 hb v2' v3' h12lt z13 h13lt ⊢
              rw [hb12] at z12 l12 h12lt hlt12 ⊢
              have hne : b12 ≠ b13 := by omega
              clear hx56 hb12
              refine wpMix_next (t := 11) (by kernel_rfl) ?_
              simp only [opsAt, List.flatMap_cons, List.flatMap_nil, List.take_succ_cons, List.take_zero, List.drop_succ_cons, List.drop_zero, List.append_nil, List.cons_append, List.nil_append]
              go_wp2_with (go_at_call 98; go_loud ((with_reducible refine (HC.out _).mono ?_); rintro e x57 ⟨rfl, hbk⟩))
              refine ⟨⟨cell_step v2' hbk, cell_step v3' hbk⟩, ?_⟩
              replace v2' := cell_step v2' hbk; replace v3' := cell_step v3' hbk; replace hb := hb.step hbk
              replace z12 := blk_below z12 hbk; replace h12lt := blk_lt z12
              replace z13 := blk_below z13 hbk; replace h13lt := blk_lt z13
              clear hbk
              refine wpMix_rest [14, 15] (by kernel_rfl) ?_
              simp only [opsAt, List.flatMap_cons, List.flatMap_nil, List.take_succ_cons, List.take_zero, List.drop_succ_cons, List.drop_zero, List.append_nil, List.cons_append, List.nil_append]
              obtain ⟨y0, y1, g0, g1, _⟩ := two_is z12
              obtain ⟨y2, y3, g2, g3, _⟩ := two_is z13
              go_wp2
              go_meet
              exact ⟨b12, b13, rfl, rfl, two_set_other (two_set z12) hne.symm, two_set (two_set_far z13 hne), below_two_sets hb l12 l13⟩
          · go_wp2
            refine ⟨⟨cell_new v2' _, cell_new v3' _⟩, ?_⟩
            replace v2' := cell_new v2' (.cells #[.int .i64 0, .int .u64 0] 58); replace v3' := cell_new v3' (.cells #[.int .i64 0, .int .u64 0] 58)
            have z12 : (x52.alloc (.cells #[.int .i64 0, .int .u64 0] 58)).heap[x52.heap.size]? = some (.cells #[.int .i64 0, .int .u64 0] 58 (0, 0)) := heap_at rfl
            have l12 : V.heap.size ≤ x52.heap.size := hb.size
            replace z13 := blk_below z13 ((Below.refl _ _).new (.cells #[.int .i64 0, .int .u64 0] 58))
            have hlt12 : b13 < x52.heap.size := h13lt
            replace hb := hb.new (.cells #[.int .i64 0, .int .u64 0] 58)
            obtain ⟨b12, hb12⟩ : ∃ b, x52.heap.size = b := ⟨_, rfl⟩
            obtain ⟨x58, hx58⟩ : ∃ W, x52.alloc (.cells #[.int .i64 0, .int .u64 0] 58) = W := ⟨_, rfl⟩
            have h12lt := blk_lt z12
            have h13lt' := blk_lt z13
            clear h13lt
            have h13lt := h13lt'
            clear h13lt'
            rw [hx58] at z12 hb v2' v3' h12lt z13 h13lt ⊢
            rw [hb12] at z12 l12 h12lt hlt12 ⊢
            have hne : b12 ≠ b13 := by omega
            clear hx58 hb12
            refine wpMix_next (t := 10) (by kernel_rfl) ?_
            simp only [opsAt, List.flatMap_cons, List.flatMap_nil, List.take_succ_cons, List.take_zero, List.drop_succ_cons, List.drop_zero, List.append_nil, List.cons_append, List.nil_append]
            go_wp2_with (go_at_call 110; go_loud ((with_reducible refine (HN.out _).mono ?_); rintro e x59 ⟨rfl, hbk⟩))
            refine ⟨⟨cell_step v2' hbk, cell_step v3' hbk⟩, ?_⟩
            replace v2' := cell_step v2' hbk; replace v3' := cell_step v3' hbk; replace hb := hb.step hbk
            replace z12 := blk_below z12 hbk; replace h12lt := blk_lt z12
            replace z13 := blk_below z13 hbk; replace h13lt := blk_lt z13
            clear hbk
            refine wpMix_next (t := 11) (by kernel_rfl) ?_
            simp only [opsAt, List.flatMap_cons, List.flatMap_nil, List.take_succ_cons, List.take_zero, List.drop_succ_cons, List.drop_zero, List.append_nil, List.cons_append, List.nil_append]
            go_wp2_with (go_at_call 98; go_loud ((with_reducible refine (HC.out _).mono ?_); rintro e x60 ⟨rfl, hbk⟩))
            refine ⟨⟨cell_step v2' hbk, cell_step v3' hbk⟩, ?_⟩
            replace v2' := cell_step v2' hbk; replace v3' := cell_step v3' hbk; replace hb := hb.step hbk
            replace z12 := blk_below z12 hbk; replace h12lt := blk_lt z12
            replace z13 := blk_below z13 hbk; replace h13lt := blk_lt z13
            clear hbk
            refine wpMix_rest [14, 15] (by kernel_rfl) ?_
            simp only [opsAt, List.flatMap_cons, List.flatMap_nil, List.take_succ_cons, List.take_zero, List.drop_succ_cons, List.drop_zero, List.append_nil, List.cons_append, List.nil_append]
            obtain ⟨y0, y1, g0, g1, _⟩ := two_is z12
            obtain ⟨y2, y3, g2, g3, _⟩ := two_is z13
            go_wp2
            go_meet
            exact ⟨b12, b13, rfl, rfl, two_set_other (two_set z12) hne.symm, two_set (two_set_far z13 hne), below_two_sets hb l12 l13⟩
        · go_wp2
          refine ⟨⟨cell_new v2' _, cell_new v3' _⟩, ?_⟩
          replace v2' := cell_new v2' (.cells #[.int .i64 0, .int .u64 0] 58); replace v3' := cell_new v3' (.cells #[.int .i64 0, .int .u64 0] 58)
          have z12 : (x51.alloc (.cells #[.int .i64 0, .int .u64 0] 58)).heap[x51.heap.size]? = some (.cells #[.int .i64 0, .int .u64 0] 58 (0, 0)) := heap_at rfl
          have l12 : V.heap.size ≤ x51.heap.size := hb.size
          replace z13 := blk_below z13 ((Below.refl _ _).new (.cells #[.int .i64 0, .int .u64 0] 58))
          have hlt12 : b13 < x51.heap.size := h13lt
          replace hb := hb.new (.cells #[.int .i64 0, .int .u64 0] 58)
          obtain ⟨b12, hb12⟩ : ∃ b, x51.heap.size = b := ⟨_, rfl⟩
          obtain ⟨x61, hx61⟩ : ∃ W, x51.alloc (.cells #[.int .i64 0, .int .u64 0] 58) = W := ⟨_, rfl⟩
          have h12lt := blk_lt z12
          have h13lt' := blk_lt z13
          clear h13lt
          have h13lt := h13lt'
          clear h13lt'
          rw [hx61] at z12 hb v2' v3' h12lt z13 h13lt ⊢
          rw [hb12] at z12 l12 h12lt hlt12 ⊢
          have hne : b12 ≠ b13 := by omega
          clear hx61 hb12
          refine wpMix_next (t := 5) (by kernel_rfl) ?_
          simp only [opsAt, List.flatMap_cons, List.flatMap_nil, List.take_succ_cons, List.take_zero, List.drop_succ_cons, List.drop_zero, List.append_nil, List.cons_append, List.nil_append]
          go_wp2_with (go_at_call 98; go_loud ((with_reducible refine (HB.out _).mono ?_); rintro e x62 ⟨rfl, hbk⟩))
          refine ⟨⟨cell_step v2' hbk, cell_step v3' hbk⟩, ?_⟩
          replace v2' := cell_step v2' hbk; replace v3' := cell_step v3' hbk; replace hb := hb.step hbk
          replace z12 := blk_below z12 hbk; replace h12lt := blk_lt z12
          replace z13 := blk_below z13 hbk; replace h13lt := blk_lt z13
          clear hbk
          refine wpMix_next (t := 10) (by kernel_rfl) ?_
          simp only [opsAt, List.flatMap_cons, List.flatMap_nil, List.take_succ_cons, List.take_zero, List.drop_succ_cons, List.drop_zero, List.append_nil, List.cons_append, List.nil_append]
          go_wp2_with (go_at_call 110; go_loud ((with_reducible refine (HN.out _).mono ?_); rintro e x63 ⟨rfl, hbk⟩))
          refine ⟨⟨cell_step v2' hbk, cell_step v3' hbk⟩, ?_⟩
          replace v2' := cell_step v2' hbk; replace v3' := cell_step v3' hbk; replace hb := hb.step hbk
          replace z12 := blk_below z12 hbk; replace h12lt := blk_lt z12
          replace z13 := blk_below z13 hbk; replace h13lt := blk_lt z13
          clear hbk
          refine wpMix_next (t := 11) (by kernel_rfl) ?_
          simp only [opsAt, List.flatMap_cons, List.flatMap_nil, List.take_succ_cons, List.take_zero, List.drop_succ_cons, List.drop_zero, List.append_nil, List.cons_append, List.nil_append]
          go_wp2_with (go_at_call 98; go_loud ((with_reducible refine (HC.out _).mono ?_); rintro e x64 ⟨rfl, hbk⟩))
          refine ⟨⟨cell_step v2' hbk, cell_step v3' hbk⟩, ?_⟩
          replace v2' := cell_step v2' hbk; replace v3' := cell_step v3' hbk; replace hb := hb.step hbk
          replace z12 := blk_below z12 hbk; replace h12lt := blk_lt z12
          replace z13 := blk_below z13 hbk; replace h13lt := blk_lt z13
          clear hbk
          refine wpMix_rest [14, 15] (by kernel_rfl) ?_
          simp only [opsAt, List.flatMap_cons, List.flatMap_nil, List.take_succ_cons, List.take_zero, List.drop_succ_cons, List.drop_zero, List.append_nil, List.cons_append, List.nil_append]
          obtain ⟨y0, y1, g0, g1, _⟩ := two_is z12
          obtain ⟨y2, y3, g2, g3, _⟩ := two_is z13
          go_wp2
          go_meet
          exact ⟨b12, b13, rfl, rfl, two_set_other (two_set z12) hne.symm, two_set (two_set_far z13 hne), below_two_sets hb l12 l13⟩
    · go_wp2
      refine ⟨⟨cell_new v2' _, cell_new v3' _⟩, ?_⟩
      replace v2' := cell_new v2' (.cells #[.int .i64 0, .int .u64 0] 58); replace v3' := cell_new v3' (.cells #[.int .i64 0, .int .u64 0] 58)
      have z12 : (V1.alloc (.cells #[.int .i64 0, .int .u64 0] 58)).heap[V1.heap.size]? = some (.cells #[.int .i64 0, .int .u64 0] 58 (0, 0)) := heap_at rfl
      have l12 : V.heap.size ≤ V1.heap.size := hb.size
      replace hb := hb.new (.cells #[.int .i64 0, .int .u64 0] 58)
      obtain ⟨b12, hb12⟩ : ∃ b, V1.heap.size = b := ⟨_, rfl⟩
      obtain ⟨x65, hx65⟩ : ∃ W, V1.alloc (.cells #[.int .i64 0, .int .u64 0] 58) = W := ⟨_, rfl⟩
      have h12lt := blk_lt z12
      rw [hx65] at z12 hb v2' v3' h12lt ⊢
      rw [hb12] at z12 l12 h12lt  ⊢
      clear hx65 hb12
      refine wpMix_pick [4, 13] (by kernel_rfl) (pick_two ?_ ?_) (by simp)
      all_goals simp only [opsAt, List.flatMap_cons, List.flatMap_nil, List.take_succ_cons, List.take_zero, List.drop_succ_cons, List.drop_zero, List.append_nil, List.cons_append, List.nil_append]
      · go_wp2_with (go_at_call 110; go_loud ((with_reducible refine (HM.out _).mono ?_); rintro e x66 ⟨rfl, hbk⟩))
        refine ⟨⟨cell_step v2' hbk, cell_step v3' hbk⟩, ?_⟩
        replace v2' := cell_step v2' hbk; replace v3' := cell_step v3' hbk; replace hb := hb.step hbk
        replace z12 := blk_below z12 hbk; replace h12lt := blk_lt z12
        clear hbk
        refine wpMix_pick [5, 13] (by kernel_rfl) (pick_two ?_ ?_) (by simp)
        all_goals simp only [opsAt, List.flatMap_cons, List.flatMap_nil, List.take_succ_cons, List.take_zero, List.drop_succ_cons, List.drop_zero, List.append_nil, List.cons_append, List.nil_append]
        · go_wp2_with (go_at_call 98; go_loud ((with_reducible refine (HB.out _).mono ?_); rintro e x67 ⟨rfl, hbk⟩))
          refine ⟨⟨cell_step v2' hbk, cell_step v3' hbk⟩, ?_⟩
          replace v2' := cell_step v2' hbk; replace v3' := cell_step v3' hbk; replace hb := hb.step hbk
          replace z12 := blk_below z12 hbk; replace h12lt := blk_lt z12
          clear hbk
          refine wpMix_pick [10, 13] (by kernel_rfl) (pick_two ?_ ?_) (by simp)
          all_goals simp only [opsAt, List.flatMap_cons, List.flatMap_nil, List.take_succ_cons, List.take_zero, List.drop_succ_cons, List.drop_zero, List.append_nil, List.cons_append, List.nil_append]
          · go_wp2_with (go_at_call 110; go_loud ((with_reducible refine (HN.out _).mono ?_); rintro e x68 ⟨rfl, hbk⟩))
            refine ⟨⟨cell_step v2' hbk, cell_step v3' hbk⟩, ?_⟩
            replace v2' := cell_step v2' hbk; replace v3' := cell_step v3' hbk; replace hb := hb.step hbk
            replace z12 := blk_below z12 hbk; replace h12lt := blk_lt z12
            clear hbk
            refine wpMix_pick [11, 13] (by kernel_rfl) (pick_two ?_ ?_) (by simp)
            all_goals simp only [opsAt, List.flatMap_cons, List.flatMap_nil, List.take_succ_cons, List.take_zero, List.drop_succ_cons, List.drop_zero, List.append_nil, List.cons_append, List.nil_append]
            · go_wp2_with (go_at_call 98; go_loud ((with_reducible refine (HC.out _).mono ?_); rintro e x69 ⟨rfl, hbk⟩))
              refine ⟨⟨cell_step v2' hbk, cell_step v3' hbk⟩, ?_⟩
              replace v2' := cell_step v2' hbk; replace v3' := cell_step v3' hbk; replace hb := hb.step hbk
              replace z12 := blk_below z12 hbk; replace h12lt := blk_lt z12
              clear hbk
              refine wpMix_next (t := 13) (by kernel_rfl) ?_
              simp only [opsAt, List.flatMap_cons, List.flatMap_nil, List.take_succ_cons, List.take_zero, List.drop_succ_cons, List.drop_zero, List.append_nil, List.cons_append, List.nil_append]
              go_wp2
              refine ⟨⟨cell_new v2' _, cell_new v3' _⟩, ?_⟩
              replace v2' := cell_new v2' (.cells #[.int .i64 0, .int .u64 0] 58); replace v3' := cell_new v3' (.cells #[.int .i64 0, .int .u64 0] 58)
              have z13 : (x69.alloc (.cells #[.int .i64 0, .int .u64 0] 58)).heap[x69.heap.size]? = some (.cells #[.int .i64 0, .int .u64 0] 58 (0, 0)) := heap_at rfl
              have l13 : V.heap.size ≤ x69.heap.size := hb.size
              replace z12 := blk_below z12 ((Below.refl _ _).new (.cells #[.int .i64 0, .int .u64 0] 58))
              have hlt13 : b12 < x69.heap.size := h12lt
              replace hb := hb.new (.cells #[.int .i64 0, .int .u64 0] 58)
              obtain ⟨b13, hb13⟩ : ∃ b, x69.heap.size = b := ⟨_, rfl⟩
              obtain ⟨x70, hx70⟩ : ∃ W, x69.alloc (.cells #[.int .i64 0, .int .u64 0] 58) = W := ⟨_, rfl⟩
              have h13lt := blk_lt z13
              have h12lt' := blk_lt z12
              clear h12lt
              have h12lt := h12lt'
              clear h12lt'
              rw [hx70] at z13 hb v2' v3' h13lt z12 h12lt ⊢
              rw [hb13] at z13 l13 h13lt hlt13 ⊢
              have hne : b12 ≠ b13 := by omega
              clear hx70 hb13
              refine wpMix_rest [14, 15] (by kernel_rfl) ?_
              simp only [opsAt, List.flatMap_cons, List.flatMap_nil, List.take_succ_cons, List.take_zero, List.drop_succ_cons, List.drop_zero, List.append_nil, List.cons_append, List.nil_append]
              obtain ⟨y0, y1, g0, g1, _⟩ := two_is z12
              obtain ⟨y2, y3, g2, g3, _⟩ := two_is z13
              go_wp2
              go_meet
              exact ⟨b12, b13, rfl, rfl, two_set_other (two_set z12) hne.symm, two_set (two_set_far z13 hne), below_two_sets hb l12 l13⟩
            · go_wp2
              refine ⟨⟨cell_new v2' _, cell_new v3' _⟩, ?_⟩
              replace v2' := cell_new v2' (.cells #[.int .i64 0, .int .u64 0] 58); replace v3' := cell_new v3' (.cells #[.int .i64 0, .int .u64 0] 58)
              have z13 : (x68.alloc (.cells #[.int .i64 0, .int .u64 0] 58)).heap[x68.heap.size]? = some (.cells #[.int .i64 0, .int .u64 0] 58 (0, 0)) := heap_at rfl
              have l13 : V.heap.size ≤ x68.heap.size := hb.size
              replace z12 := blk_below z12 ((Below.refl _ _).new (.cells #[.int .i64 0, .int .u64 0] 58))
              have hlt13 : b12 < x68.heap.size := h12lt
              replace hb := hb.new (.cells #[.int .i64 0, .int .u64 0] 58)
              obtain ⟨b13, hb13⟩ : ∃ b, x68.heap.size = b := ⟨_, rfl⟩
              obtain ⟨x71, hx71⟩ : ∃ W, x68.alloc (.cells #[.int .i64 0, .int .u64 0] 58) = W := ⟨_, rfl⟩
              have h13lt := blk_lt z13
              have h12lt' := blk_lt z12
              clear h12lt
              have h12lt := h12lt'
              clear h12lt'
              rw [hx71] at z13 hb v2' v3' h13lt z12 h12lt ⊢
              rw [hb13] at z13 l13 h13lt hlt13 ⊢
              have hne : b12 ≠ b13 := by omega
              clear hx71 hb13
              refine wpMix_next (t := 11) (by kernel_rfl) ?_
              simp only [opsAt, List.flatMap_cons, List.flatMap_nil, List.take_succ_cons, List.take_zero, List.drop_succ_cons, List.drop_zero, List.append_nil, List.cons_append, List.nil_append]
              go_wp2_with (go_at_call 98; go_loud ((with_reducible refine (HC.out _).mono ?_); rintro e x72 ⟨rfl, hbk⟩))
              refine ⟨⟨cell_step v2' hbk, cell_step v3' hbk⟩, ?_⟩
              replace v2' := cell_step v2' hbk; replace v3' := cell_step v3' hbk; replace hb := hb.step hbk
              replace z12 := blk_below z12 hbk; replace h12lt := blk_lt z12
              replace z13 := blk_below z13 hbk; replace h13lt := blk_lt z13
              clear hbk
              refine wpMix_rest [14, 15] (by kernel_rfl) ?_
              simp only [opsAt, List.flatMap_cons, List.flatMap_nil, List.take_succ_cons, List.take_zero, List.drop_succ_cons, List.drop_zero, List.append_nil, List.cons_append, List.nil_append]
              obtain ⟨y0, y1, g0, g1, _⟩ := two_is z12
              obtain ⟨y2, y3, g2, g3, _⟩ := two_is z13
              go_wp2
              go_meet
              exact ⟨b12, b13, rfl, rfl, two_set_other (two_set z12) hne.symm, two_set (two_set_far z13 hne), below_two_sets hb l12 l13⟩
          · go_wp2
            refine ⟨⟨cell_new v2' _, cell_new v3' _⟩, ?_⟩
            replace v2' := cell_new v2' (.cells #[.int .i64 0, .int .u64 0] 58); replace v3' := cell_new v3' (.cells #[.int .i64 0, .int .u64 0] 58)
            have z13 : (x67.alloc (.cells #[.int .i64 0, .int .u64 0] 58)).heap[x67.heap.size]? = some (.cells #[.int .i64 0, .int .u64 0] 58 (0, 0)) := heap_at rfl
            have l13 : V.heap.size ≤ x67.heap.size := hb.size
            replace z12 := blk_below z12 ((Below.refl _ _).new (.cells #[.int .i64 0, .int .u64 0] 58))
            have hlt13 : b12 < x67.heap.size := h12lt
            replace hb := hb.new (.cells #[.int .i64 0, .int .u64 0] 58)
            obtain ⟨b13, hb13⟩ : ∃ b, x67.heap.size = b := ⟨_, rfl⟩
            obtain ⟨x73, hx73⟩ : ∃ W, x67.alloc (.cells #[.int .i64 0, .int .u64 0] 58) = W := ⟨_, rfl⟩
            have h13lt := blk_lt z13
            have h12lt' := blk_lt z12
            clear h12lt
            have h12lt := h12lt'
            clear h12lt'
            rw [hx73] at z13 hb v2' v3' h13lt z12 h12lt ⊢
            rw [hb13] at z13 l13 h13lt hlt13 ⊢
            have hne : b12 ≠ b13 := by omega
            clear hx73 hb13
            refine wpMix_next (t := 10) (by kernel_rfl) ?_
            simp only [opsAt, List.flatMap_cons, List.flatMap_nil, List.take_succ_cons, List.take_zero, List.drop_succ_cons, List.drop_zero, List.append_nil, List.cons_append, List.nil_append]
            go_wp2_with (go_at_call 110; go_loud ((with_reducible refine (HN.out _).mono ?_); rintro e x74 ⟨rfl, hbk⟩))
            refine ⟨⟨cell_step v2' hbk, cell_step v3' hbk⟩, ?_⟩
            replace v2' := cell_step v2' hbk; replace v3' := cell_step v3' hbk; replace hb := hb.step hbk
            replace z12 := blk_below z12 hbk; replace h12lt := blk_lt z12
            replace z13 := blk_below z13 hbk; replace h13lt := blk_lt z13
            clear hbk
            refine wpMix_next (t := 11) (by kernel_rfl) ?_
            simp only [opsAt, List.flatMap_cons, List.flatMap_nil, List.take_succ_cons, List.take_zero, List.drop_succ_cons, List.drop_zero, List.append_nil, List.cons_append, List.nil_append]
            go_wp2_with (go_at_call 98; go_loud ((with_reducible refine (HC.out _).mono ?_); rintro e x75 ⟨rfl, hbk⟩))
            refine ⟨⟨cell_step v2' hbk, cell_step v3' hbk⟩, ?_⟩
            replace v2' := cell_step v2' hbk; replace v3' := cell_step v3' hbk; replace hb := hb.step hbk
            replace z12 := blk_below z12 hbk; replace h12lt := blk_lt z12
            replace z13 := blk_below z13 hbk; replace h13lt := blk_lt z13
            clear hbk
            refine wpMix_rest [14, 15] (by kernel_rfl) ?_
            simp only [opsAt, List.flatMap_cons, List.flatMap_nil, List.take_succ_cons, List.take_zero, List.drop_succ_cons, List.drop_zero, List.append_nil, List.cons_append, List.nil_append]
            obtain ⟨y0, y1, g0, g1, _⟩ := two_is z12
            obtain ⟨y2, y3, g2, g3, _⟩ := two_is z13
            go_wp2
            go_meet
            exact ⟨b12, b13, rfl, rfl, two_set_other (two_set z12) hne.symm, two_set (two_set_far z13 hne), below_two_sets hb l12 l13⟩
        · go_wp2
          refine ⟨⟨cell_new v2' _, cell_new v3' _⟩, ?_⟩
          replace v2' := cell_new v2' (.cells #[.int .i64 0, .int .u64 0] 58); replace v3' := cell_new v3' (.cells #[.int .i64 0, .int .u64 0] 58)
          have z13 : (x66.alloc (.cells #[.int .i64 0, .int .u64 0] 58)).heap[x66.heap.size]? = some (.cells #[.int .i64 0, .int .u64 0] 58 (0, 0)) := heap_at rfl
          have l13 : V.heap.size ≤ x66.heap.size := hb.size
          replace z12 := blk_below z12 ((Below.refl _ _).new (.cells #[.int .i64 0, .int .u64 0] 58))
          have hlt13 : b12 < x66.heap.size := h12lt
          replace hb := hb.new (.cells #[.int .i64 0, .int .u64 0] 58)
          obtain ⟨b13, hb13⟩ : ∃ b, x66.heap.size = b := ⟨_, rfl⟩
          obtain ⟨x76, hx76⟩ : ∃ W, x66.alloc (.cells #[.int .i64 0, .int .u64 0] 58) = W := ⟨_, rfl⟩
          have h13lt := blk_lt z13
          have h12lt' := blk_lt z12
          clear h12lt
          have h12lt := h12lt'
          clear h12lt'
          rw [hx76] at z13 hb v2' v3' h13lt z12 h12lt ⊢
          rw [hb13] at z13 l13 h13lt hlt13 ⊢
          have hne : b12 ≠ b13 := by omega
          clear hx76 hb13
          refine wpMix_next (t := 5) (by kernel_rfl) ?_
          simp only [opsAt, List.flatMap_cons, List.flatMap_nil, List.take_succ_cons, List.take_zero, List.drop_succ_cons, List.drop_zero, List.append_nil, List.cons_append, List.nil_append]
          go_wp2_with (go_at_call 98; go_loud ((with_reducible refine (HB.out _).mono ?_); rintro e x77 ⟨rfl, hbk⟩))
          refine ⟨⟨cell_step v2' hbk, cell_step v3' hbk⟩, ?_⟩
          replace v2' := cell_step v2' hbk; replace v3' := cell_step v3' hbk; replace hb := hb.step hbk
          replace z12 := blk_below z12 hbk; replace h12lt := blk_lt z12
          replace z13 := blk_below z13 hbk; replace h13lt := blk_lt z13
          clear hbk
          refine wpMix_next (t := 10) (by kernel_rfl) ?_
          simp only [opsAt, List.flatMap_cons, List.flatMap_nil, List.take_succ_cons, List.take_zero, List.drop_succ_cons, List.drop_zero, List.append_nil, List.cons_append, List.nil_append]
          go_wp2_with (go_at_call 110; go_loud ((with_reducible refine (HN.out _).mono ?_); rintro e x78 ⟨rfl, hbk⟩))
          refine ⟨⟨cell_step v2' hbk, cell_step v3' hbk⟩, ?_⟩
          replace v2' := cell_step v2' hbk; replace v3' := cell_step v3' hbk; replace hb := hb.step hbk
          replace z12 := blk_below z12 hbk; replace h12lt := blk_lt z12
          replace z13 := blk_below z13 hbk; replace h13lt := blk_lt z13
          clear hbk
          refine wpMix_next (t := 11) (by kernel_rfl) ?_
          simp only [opsAt, List.flatMap_cons, List.flatMap_nil, List.take_succ_cons, List.take_zero, List.drop_succ_cons, List.drop_zero, List.append_nil, List.cons_append, List.nil_append]
          go_wp2_with (go_at_call 98; go_loud ((with_reducible refine (HC.out _).mono ?_); rintro e x79 ⟨rfl, hbk⟩))
          refine ⟨⟨cell_step v2' hbk, cell_step v3' hbk⟩, ?_⟩
          replace v2' := cell_step v2' hbk; replace v3' := cell_step v3' hbk; replace hb := hb.step hbk
          replace z12 := blk_below z12 hbk; replace h12lt := blk_lt z12
          replace z13 := blk_below z13 hbk; replace h13lt := blk_lt z13
          clear hbk
          refine wpMix_rest [14, 15] (by kernel_rfl) ?_
          simp only [opsAt, List.flatMap_cons, List.flatMap_nil, List.take_succ_cons, List.take_zero, List.drop_succ_cons, List.drop_zero, List.append_nil, List.cons_append, List.nil_append]
          obtain ⟨y0, y1, g0, g1, _⟩ := two_is z12
          obtain ⟨y2, y3, g2, g3, _⟩ := two_is z13
          go_wp2
          go_meet
          exact ⟨b12, b13, rfl, rfl, two_set_other (two_set z12) hne.symm, two_set (two_set_far z13 hne), below_two_sets hb l12 l13⟩
      · go_wp2
        refine ⟨⟨cell_new v2' _, cell_new v3' _⟩, ?_⟩
        replace v2' := cell_new v2' (.cells #[.int .i64 0, .int .u64 0] 58); replace v3' := cell_new v3' (.cells #[.int .i64 0, .int .u64 0] 58)
        have z13 : (x65.alloc (.cells #[.int .i64 0, .int .u64 0] 58)).heap[x65.heap.size]? = some (.cells #[.int .i64 0, .int .u64 0] 58 (0, 0)) := heap_at rfl
        have l13 : V.heap.size ≤ x65.heap.size := hb.size
        replace z12 := blk_below z12 ((Below.refl _ _).new (.cells #[.int .i64 0, .int .u64 0] 58))
        have hlt13 : b12 < x65.heap.size := h12lt
        replace hb := hb.new (.cells #[.int .i64 0, .int .u64 0] 58)
        obtain ⟨b13, hb13⟩ : ∃ b, x65.heap.size = b := ⟨_, rfl⟩
        obtain ⟨x80, hx80⟩ : ∃ W, x65.alloc (.cells #[.int .i64 0, .int .u64 0] 58) = W := ⟨_, rfl⟩
        have h13lt := blk_lt z13
        have h12lt' := blk_lt z12
        clear h12lt
        have h12lt := h12lt'
        clear h12lt'
        rw [hx80] at z13 hb v2' v3' h13lt z12 h12lt ⊢
        rw [hb13] at z13 l13 h13lt hlt13 ⊢
        have hne : b12 ≠ b13 := by omega
        clear hx80 hb13
        refine wpMix_next (t := 4) (by kernel_rfl) ?_
        simp only [opsAt, List.flatMap_cons, List.flatMap_nil, List.take_succ_cons, List.take_zero, List.drop_succ_cons, List.drop_zero, List.append_nil, List.cons_append, List.nil_append]
        go_wp2_with (go_at_call 110; go_loud ((with_reducible refine (HM.out _).mono ?_); rintro e x81 ⟨rfl, hbk⟩))
        refine ⟨⟨cell_step v2' hbk, cell_step v3' hbk⟩, ?_⟩
        replace v2' := cell_step v2' hbk; replace v3' := cell_step v3' hbk; replace hb := hb.step hbk
        replace z12 := blk_below z12 hbk; replace h12lt := blk_lt z12
        replace z13 := blk_below z13 hbk; replace h13lt := blk_lt z13
        clear hbk
        refine wpMix_next (t := 5) (by kernel_rfl) ?_
        simp only [opsAt, List.flatMap_cons, List.flatMap_nil, List.take_succ_cons, List.take_zero, List.drop_succ_cons, List.drop_zero, List.append_nil, List.cons_append, List.nil_append]
        go_wp2_with (go_at_call 98; go_loud ((with_reducible refine (HB.out _).mono ?_); rintro e x82 ⟨rfl, hbk⟩))
        refine ⟨⟨cell_step v2' hbk, cell_step v3' hbk⟩, ?_⟩
        replace v2' := cell_step v2' hbk; replace v3' := cell_step v3' hbk; replace hb := hb.step hbk
        replace z12 := blk_below z12 hbk; replace h12lt := blk_lt z12
        replace z13 := blk_below z13 hbk; replace h13lt := blk_lt z13
        clear hbk
        refine wpMix_next (t := 10) (by kernel_rfl) ?_
        simp only [opsAt, List.flatMap_cons, List.flatMap_nil, List.take_succ_cons, List.take_zero, List.drop_succ_cons, List.drop_zero, List.append_nil, List.cons_append, List.nil_append]
        go_wp2_with (go_at_call 110; go_loud ((with_reducible refine (HN.out _).mono ?_); rintro e x83 ⟨rfl, hbk⟩))
        refine ⟨⟨cell_step v2' hbk, cell_step v3' hbk⟩, ?_⟩
        replace v2' := cell_step v2' hbk; replace v3' := cell_step v3' hbk; replace hb := hb.step hbk
        replace z12 := blk_below z12 hbk; replace h12lt := blk_lt z12
        replace z13 := blk_below z13 hbk; replace h13lt := blk_lt z13
        clear hbk
        refine wpMix_next (t := 11) (by kernel_rfl) ?_
        simp only [opsAt, List.flatMap_cons, List.flatMap_nil, List.take_succ_cons, List.take_zero, List.drop_succ_cons, List.drop_zero, List.append_nil, List.cons_append, List.nil_append]
        go_wp2_with (go_at_call 98; go_loud ((with_reducible refine (HC.out _).mono ?_); rintro e x84 ⟨rfl, hbk⟩))
        refine ⟨⟨cell_step v2' hbk, cell_step v3' hbk⟩, ?_⟩
        replace v2' := cell_step v2' hbk; replace v3' := cell_step v3' hbk; replace hb := hb.step hbk
        replace z12 := blk_below z12 hbk; replace h12lt := blk_lt z12
        replace z13 := blk_below z13 hbk; replace h13lt := blk_lt z13
        clear hbk
        refine wpMix_rest [14, 15] (by kernel_rfl) ?_
        simp only [opsAt, List.flatMap_cons, List.flatMap_nil, List.take_succ_cons, List.take_zero, List.drop_succ_cons, List.drop_zero, List.append_nil, List.cons_append, List.nil_append]
        obtain ⟨y0, y1, g0, g1, _⟩ := two_is z12
        obtain ⟨y2, y3, g2, g3, _⟩ := two_is z13
        go_wp2
        go_meet
        exact ⟨b12, b13, rfl, rfl, two_set_other (two_set z12) hne.symm, two_set (two_set_far z13 hne), below_two_sets hb l12 l13⟩
    · go_wp2
      refine ⟨⟨cell_new v2' _, cell_new v3' _⟩, ?_⟩
      replace v2' := cell_new v2' (.cells #[.int .i64 0, .int .u64 0] 58); replace v3' := cell_new v3' (.cells #[.int .i64 0, .int .u64 0] 58)
      have z13 : (V1.alloc (.cells #[.int .i64 0, .int .u64 0] 58)).heap[V1.heap.size]? = some (.cells #[.int .i64 0, .int .u64 0] 58 (0, 0)) := heap_at rfl
      have l13 : V.heap.size ≤ V1.heap.size := hb.size
      replace hb := hb.new (.cells #[.int .i64 0, .int .u64 0] 58)
      obtain ⟨b13, hb13⟩ : ∃ b, V1.heap.size = b := ⟨_, rfl⟩
      obtain ⟨x85, hx85⟩ : ∃ W, V1.alloc (.cells #[.int .i64 0, .int .u64 0] 58) = W := ⟨_, rfl⟩
      have h13lt := blk_lt z13
      rw [hx85] at z13 hb v2' v3' h13lt ⊢
      rw [hb13] at z13 l13 h13lt  ⊢
      clear hx85 hb13
      refine wpMix_pick [4, 12] (by kernel_rfl) (pick_two ?_ ?_) (by simp)
      all_goals simp only [opsAt, List.flatMap_cons, List.flatMap_nil, List.take_succ_cons, List.take_zero, List.drop_succ_cons, List.drop_zero, List.append_nil, List.cons_append, List.nil_append]
      · go_wp2_with (go_at_call 110; go_loud ((with_reducible refine (HM.out _).mono ?_); rintro e x86 ⟨rfl, hbk⟩))
        refine ⟨⟨cell_step v2' hbk, cell_step v3' hbk⟩, ?_⟩
        replace v2' := cell_step v2' hbk; replace v3' := cell_step v3' hbk; replace hb := hb.step hbk
        replace z13 := blk_below z13 hbk; replace h13lt := blk_lt z13
        clear hbk
        refine wpMix_pick [5, 12] (by kernel_rfl) (pick_two ?_ ?_) (by simp)
        all_goals simp only [opsAt, List.flatMap_cons, List.flatMap_nil, List.take_succ_cons, List.take_zero, List.drop_succ_cons, List.drop_zero, List.append_nil, List.cons_append, List.nil_append]
        · go_wp2_with (go_at_call 98; go_loud ((with_reducible refine (HB.out _).mono ?_); rintro e x87 ⟨rfl, hbk⟩))
          refine ⟨⟨cell_step v2' hbk, cell_step v3' hbk⟩, ?_⟩
          replace v2' := cell_step v2' hbk; replace v3' := cell_step v3' hbk; replace hb := hb.step hbk
          replace z13 := blk_below z13 hbk; replace h13lt := blk_lt z13
          clear hbk
          refine wpMix_pick [10, 12] (by kernel_rfl) (pick_two ?_ ?_) (by simp)
          all_goals simp only [opsAt, List.flatMap_cons, List.flatMap_nil, List.take_succ_cons, List.take_zero, List.drop_succ_cons, List.drop_zero, List.append_nil, List.cons_append, List.nil_append]
          · go_wp2_with (go_at_call 110; go_loud ((with_reducible refine (HN.out _).mono ?_); rintro e x88 ⟨rfl, hbk⟩))
            refine ⟨⟨cell_step v2' hbk, cell_step v3' hbk⟩, ?_⟩
            replace v2' := cell_step v2' hbk; replace v3' := cell_step v3' hbk; replace hb := hb.step hbk
            replace z13 := blk_below z13 hbk; replace h13lt := blk_lt z13
            clear hbk
            refine wpMix_pick [11, 12] (by kernel_rfl) (pick_two ?_ ?_) (by simp)
            all_goals simp only [opsAt, List.flatMap_cons, List.flatMap_nil, List.take_succ_cons, List.take_zero, List.drop_succ_cons, List.drop_zero, List.append_nil, List.cons_append, List.nil_append]
            · go_wp2_with (go_at_call 98; go_loud ((with_reducible refine (HC.out _).mono ?_); rintro e x89 ⟨rfl, hbk⟩))
              refine ⟨⟨cell_step v2' hbk, cell_step v3' hbk⟩, ?_⟩
              replace v2' := cell_step v2' hbk; replace v3' := cell_step v3' hbk; replace hb := hb.step hbk
              replace z13 := blk_below z13 hbk; replace h13lt := blk_lt z13
              clear hbk
              refine wpMix_next (t := 12) (by kernel_rfl) ?_
              simp only [opsAt, List.flatMap_cons, List.flatMap_nil, List.take_succ_cons, List.take_zero, List.drop_succ_cons, List.drop_zero, List.append_nil, List.cons_append, List.nil_append]
              go_wp2
              refine ⟨⟨cell_new v2' _, cell_new v3' _⟩, ?_⟩
              replace v2' := cell_new v2' (.cells #[.int .i64 0, .int .u64 0] 58); replace v3' := cell_new v3' (.cells #[.int .i64 0, .int .u64 0] 58)
              have z12 : (x89.alloc (.cells #[.int .i64 0, .int .u64 0] 58)).heap[x89.heap.size]? = some (.cells #[.int .i64 0, .int .u64 0] 58 (0, 0)) := heap_at rfl
              have l12 : V.heap.size ≤ x89.heap.size := hb.size
              replace z13 := blk_below z13 ((Below.refl _ _).new (.cells #[.int .i64 0, .int .u64 0] 58))
              have hlt12 : b13 < x89.heap.size := h13lt
              replace hb := hb.new (.cells #[.int .i64 0, .int .u64 0] 58)
              obtain ⟨b12, hb12⟩ : ∃ b, x89.heap.size = b := ⟨_, rfl⟩
              obtain ⟨x90, hx90⟩ : ∃ W, x89.alloc (.cells #[.int .i64 0, .int .u64 0] 58) = W := ⟨_, rfl⟩
              have h12lt := blk_lt z12
              have h13lt' := blk_lt z13
              clear h13lt
              have h13lt := h13lt'
              clear h13lt'
              rw [hx90] at z12 hb v2' v3' h12lt z13 h13lt ⊢
              rw [hb12] at z12 l12 h12lt hlt12 ⊢
              have hne : b12 ≠ b13 := by omega
              clear hx90 hb12
              refine wpMix_rest [14, 15] (by kernel_rfl) ?_
              simp only [opsAt, List.flatMap_cons, List.flatMap_nil, List.take_succ_cons, List.take_zero, List.drop_succ_cons, List.drop_zero, List.append_nil, List.cons_append, List.nil_append]
              obtain ⟨y0, y1, g0, g1, _⟩ := two_is z12
              obtain ⟨y2, y3, g2, g3, _⟩ := two_is z13
              go_wp2
              go_meet
              exact ⟨b12, b13, rfl, rfl, two_set_other (two_set z12) hne.symm, two_set (two_set_far z13 hne), below_two_sets hb l12 l13⟩
            · go_wp2
              refine ⟨⟨cell_new v2' _, cell_new v3' _⟩, ?_⟩
              replace v2' := cell_new v2' (.cells #[.int .i64 0, .int .u64 0] 58); replace v3' := cell_new v3' (.cells #[.int .i64 0, .int .u64 0] 58)
              have z12 : (x88.alloc (.cells #[.int .i64 0, .int .u64 0] 58)).heap[x88.heap.size]? = some (.cells #[.int .i64 0, .int .u64 0] 58 (0, 0)) := heap_at rfl
              have l12 : V.heap.size ≤ x88.heap.size := hb.size
              replace z13 := blk_below z13 ((Below.refl _ _).new (.cells #[.int .i64 0, .int .u64 0] 58))
              have hlt12 : b13 < x88.heap.size := h13lt
              replace hb := hb.new (.cells #[.int .i64 0, .int .u64 0] 58)
              obtain ⟨b12, hb12⟩ : ∃ b, x88.heap.size = b := ⟨_, rfl⟩
              obtain ⟨x91, hx91⟩ : ∃ W, x88.alloc (.cells #[.int .i64 0, .int .u64 0] 58) = W := ⟨_, rfl⟩
              have h12lt := blk_lt z12
              have h13lt' := blk_lt z13
              clear h13lt
              have h13lt := h13lt'
              clear h13lt'
              rw [hx91] at z12 hb v2' v3' h12lt z13 h13lt ⊢
              rw [hb12] at z12 l12 h12lt hlt12 ⊢
              have hne : b12 ≠ b13 := by omega
              clear hx91 hb12
              refine wpMix_next (t := 11) (by kernel_rfl) ?_
              simp only [opsAt, List.flatMap_cons, List.flatMap_nil, List.take_succ_cons, List.take_zero, List.drop_succ_cons, List.drop_zero, List.append_nil, List.cons_append, List.nil_append]
              go_wp2_with (go_at_call 98; go_loud ((with_reducible refine (HC.out _).mono ?_); rintro e x92 ⟨rfl, hbk⟩))
              refine ⟨⟨cell_step v2' hbk, cell_step v3' hbk⟩, ?_⟩
              replace v2' := cell_step v2' hbk; replace v3' := cell_step v3' hbk; replace hb := hb.step hbk
              replace z12 := blk_below z12 hbk; replace h12lt := blk_lt z12
              replace z13 := blk_below z13 hbk; replace h13lt := blk_lt z13
              clear hbk
              refine wpMix_rest [14, 15] (by kernel_rfl) ?_
              simp only [opsAt, List.flatMap_cons, List.flatMap_nil, List.take_succ_cons, List.take_zero, List.drop_succ_cons, List.drop_zero, List.append_nil, List.cons_append, List.nil_append]
              obtain ⟨y0, y1, g0, g1, _⟩ := two_is z12
              obtain ⟨y2, y3, g2, g3, _⟩ := two_is z13
              go_wp2
              go_meet
              exact ⟨b12, b13, rfl, rfl, two_set_other (two_set z12) hne.symm, two_set (two_set_far z13 hne), below_two_sets hb l12 l13⟩
          · go_wp2
            refine ⟨⟨cell_new v2' _, cell_new v3' _⟩, ?_⟩
            replace v2' := cell_new v2' (.cells #[.int .i64 0, .int .u64 0] 58); replace v3' := cell_new v3' (.cells #[.int .i64 0, .int .u64 0] 58)
            have z12 : (x87.alloc (.cells #[.int .i64 0, .int .u64 0] 58)).heap[x87.heap.size]? = some (.cells #[.int .i64 0, .int .u64 0] 58 (0, 0)) := heap_at rfl
            have l12 : V.heap.size ≤ x87.heap.size := hb.size
            replace z13 := blk_below z13 ((Below.refl _ _).new (.cells #[.int .i64 0, .int .u64 0] 58))
            have hlt12 : b13 < x87.heap.size := h13lt
            replace hb := hb.new (.cells #[.int .i64 0, .int .u64 0] 58)
            obtain ⟨b12, hb12⟩ : ∃ b, x87.heap.size = b := ⟨_, rfl⟩
            obtain ⟨x93, hx93⟩ : ∃ W, x87.alloc (.cells #[.int .i64 0, .int .u64 0] 58) = W := ⟨_, rfl⟩
            have h12lt := blk_lt z12
            have h13lt' := blk_lt z13
            clear h13lt
            have h13lt := h13lt'
            clear h13lt'
            rw [hx93] at z12 hb v2' v3' h12lt z13 h13lt ⊢
            rw [hb12] at z12 l12 h12lt hlt12 ⊢
            have hne : b12 ≠ b13 := by omega
            clear hx93 hb12
            refine wpMix_next (t := 10) (by kernel_rfl) ?_
            simp only [opsAt, List.flatMap_cons, List.flatMap_nil, List.take_succ_cons, List.take_zero, List.drop_succ_cons, List.drop_zero, List.append_nil, List.cons_append, List.nil_append]
            go_wp2_with (go_at_call 110; go_loud ((with_reducible refine (HN.out _).mono ?_); rintro e x94 ⟨rfl, hbk⟩))
            refine ⟨⟨cell_step v2' hbk, cell_step v3' hbk⟩, ?_⟩
            replace v2' := cell_step v2' hbk; replace v3' := cell_step v3' hbk; replace hb := hb.step hbk
            replace z12 := blk_below z12 hbk; replace h12lt := blk_lt z12
            replace z13 := blk_below z13 hbk; replace h13lt := blk_lt z13
            clear hbk
            refine wpMix_next (t := 11) (by kernel_rfl) ?_
            simp only [opsAt, List.flatMap_cons, List.flatMap_nil, List.take_succ_cons, List.take_zero, List.drop_succ_cons, List.drop_zero, List.append_nil, List.cons_append, List.nil_append]
            go_wp2_with (go_at_call 98; go_loud ((with_reducible refine (HC.out _).mono ?_); rintro e x95 ⟨rfl, hbk⟩))
            refine ⟨⟨cell_step v2' hbk, cell_step v3' hbk⟩, ?_⟩
            replace v2' := cell_step v2' hbk; replace v3' := cell_step v3' hbk; replace hb := hb.step hbk
            replace z12 := blk_below z12 hbk; replace h12lt := blk_lt z12
            replace z13 := blk_below z13 hbk; replace h13lt := blk_lt z13
            clear hbk
            refine wpMix_rest [14, 15] (by kernel_rfl) ?_
            simp only [opsAt, List.flatMap_cons, List.flatMap_nil, List.take_succ_cons, List.take_zero, List.drop_succ_cons, List.drop_zero, List.append_nil, List.cons_append, List.nil_append]
            obtain ⟨y0, y1, g0, g1, _⟩ := two_is z12
            obtain ⟨y2, y3, g2, g3, _⟩ := two_is z13
            go_wp2
            go_meet
            exact ⟨b12, b13, rfl, rfl, two_set_other (two_set z12) hne.symm, two_set (two_set_far z13 hne), below_two_sets hb l12 l13⟩
        · go_wp2
          refine ⟨⟨cell_new v2' _, cell_new v3' _⟩, ?_⟩
          replace v2' := cell_new v2' (.cells #[.int .i64 0, .int .u64 0] 58); replace v3' := cell_new v3' (.cells #[.int .i64 0, .int .u64 0] 58)
          have z12 : (x86.alloc (.cells #[.int .i64 0, .int .u64 0] 58)).heap[x86.heap.size]? = some (.cells #[.int .i64 0, .int .u64 0] 58 (0, 0)) := heap_at rfl
          have l12 : V.heap.size ≤ x86.heap.size := hb.size
          replace z13 := blk_below z13 ((Below.refl _ _).new (.cells #[.int .i64 0, .int .u64 0] 58))
          have hlt12 : b13 < x86.heap.size := h13lt
          replace hb := hb.new (.cells #[.int .i64 0, .int .u64 0] 58)
          obtain ⟨b12, hb12⟩ : ∃ b, x86.heap.size = b := ⟨_, rfl⟩
          obtain ⟨x96, hx96⟩ : ∃ W, x86.alloc (.cells #[.int .i64 0, .int .u64 0] 58) = W := ⟨_, rfl⟩
          have h12lt := blk_lt z12
          have h13lt' := blk_lt z13
          clear h13lt
          have h13lt := h13lt'
          clear h13lt'
          rw [hx96] at z12 hb v2' v3' h12lt z13 h13lt ⊢
          rw [hb12] at z12 l12 h12lt hlt12 ⊢
          have hne : b12 ≠ b13 := by omega
          clear hx96 hb12
          refine wpMix_next (t := 5) (by kernel_rfl) ?_
          simp only [opsAt, List.flatMap_cons, List.flatMap_nil, List.take_succ_cons, List.take_zero, List.drop_succ_cons, List.drop_zero, List.append_nil, List.cons_append, List.nil_append]
          go_wp2_with (go_at_call 98; go_loud ((with_reducible refine (HB.out _).mono ?_); rintro e x97 ⟨rfl, hbk⟩))
          refine ⟨⟨cell_step v2' hbk, cell_step v3' hbk⟩, ?_⟩
          replace v2' := cell_step v2' hbk; replace v3' := cell_step v3' hbk; replace hb := hb.step hbk
          replace z12 := blk_below z12 hbk; replace h12lt := blk_lt z12
          replace z13 := blk_below z13 hbk; replace h13lt := blk_lt z13
          clear hbk
          refine wpMix_next (t := 10) (by kernel_rfl) ?_
          simp only [opsAt, List.flatMap_cons, List.flatMap_nil, List.take_succ_cons, List.take_zero, List.drop_succ_cons, List.drop_zero, List.append_nil, List.cons_append, List.nil_append]
          go_wp2_with (go_at_call 110; go_loud ((with_reducible refine (HN.out _).mono ?_); rintro e x98 ⟨rfl, hbk⟩))
          refine ⟨⟨cell_step v2' hbk, cell_step v3' hbk⟩, ?_⟩
          replace v2' := cell_step v2' hbk; replace v3' := cell_step v3' hbk; replace hb := hb.step hbk
          replace z12 := blk_below z12 hbk; replace h12lt := blk_lt z12
          replace z13 := blk_below z13 hbk; replace h13lt := blk_lt z13
          clear hbk
          refine wpMix_next (t := 11) (by kernel_rfl) ?_
          simp only [opsAt, List.flatMap_cons, List.flatMap_nil, List.take_succ_cons, List.take_zero, List.drop_succ_cons, List.drop_zero, List.append_nil, List.cons_append, List.nil_append]
          go_wp2_with (go_at_call 98; go_loud ((with_reducible refine (HC.out _).mono ?_); rintro e x99 ⟨rfl, hbk⟩))
          refine ⟨⟨cell_step v2' hbk, cell_step v3' hbk⟩, ?_⟩
          replace v2' := cell_step v2' hbk; replace v3' := cell_step v3' hbk; replace hb := hb.step hbk
          replace z12 := blk_below z12 hbk; replace h12lt := blk_lt z12
          replace z13 := blk_below z13 hbk; replace h13lt := blk_lt z13
          clear hbk
          refine wpMix_rest [14, 15] (by kernel_rfl) ?_
          simp only [opsAt, List.flatMap_cons, List.flatMap_nil, List.take_succ_cons, List.take_zero, List.drop_succ_cons, List.drop_zero, List.append_nil, List.cons_append, List.nil_append]
          obtain ⟨y0, y1, g0, g1, _⟩ := two_is z12
          obtain ⟨y2, y3, g2, g3, _⟩ := two_is z13
          go_wp2
          go_meet
          exact ⟨b12, b13, rfl, rfl, two_set_other (two_set z12) hne.symm, two_set (two_set_far z13 hne), below_two_sets hb l12 l13⟩
      · go_wp2
        refine ⟨⟨cell_new v2' _, cell_new v3' _⟩, ?_⟩
        replace v2' := cell_new v2' (.cells #[.int .i64 0, .int .u64 0] 58); replace v3' := cell_new v3' (.cells #[.int .i64 0, .int .u64 0] 58)
        have z12 : (x85.alloc (.cells #[.int .i64 0, .int .u64 0] 58)).heap[x85.heap.size]? = some (.cells #[.int .i64 0, .int .u64 0] 58 (0, 0)) := heap_at rfl
        have l12 : V.heap.size ≤ x85.heap.size := hb.size
        replace z13 := blk_below z13 ((Below.refl _ _).new (.cells #[.int .i64 0, .int .u64 0] 58))
        have hlt12 : b13 < x85.heap.size := h13lt
        replace hb := hb.new (.cells #[.int .i64 0, .int .u64 0] 58)
        obtain ⟨b12, hb12⟩ : ∃ b, x85.heap.size = b := ⟨_, rfl⟩
        obtain ⟨x100, hx100⟩ : ∃ W, x85.alloc (.cells #[.int .i64 0, .int .u64 0] 58) = W := ⟨_, rfl⟩
        have h12lt := blk_lt z12
        have h13lt' := blk_lt z13
        clear h13lt
        have h13lt := h13lt'
        clear h13lt'
        rw [hx100] at z12 hb v2' v3' h12lt z13 h13lt ⊢
        rw [hb12] at z12 l12 h12lt hlt12 ⊢
        have hne : b12 ≠ b13 := by omega
        clear hx100 hb12
        refine wpMix_next (t := 4) (by kernel_rfl) ?_
        simp only [opsAt, List.flatMap_cons, List.flatMap_nil, List.take_succ_cons, List.take_zero, List.drop_succ_cons, List.drop_zero, List.append_nil, List.cons_append, List.nil_append]
        go_wp2_with (go_at_call 110; go_loud ((with_reducible refine (HM.out _).mono ?_); rintro e x101 ⟨rfl, hbk⟩))
        refine ⟨⟨cell_step v2' hbk, cell_step v3' hbk⟩, ?_⟩
        replace v2' := cell_step v2' hbk; replace v3' := cell_step v3' hbk; replace hb := hb.step hbk
        replace z12 := blk_below z12 hbk; replace h12lt := blk_lt z12
        replace z13 := blk_below z13 hbk; replace h13lt := blk_lt z13
        clear hbk
        refine wpMix_next (t := 5) (by kernel_rfl) ?_
        simp only [opsAt, List.flatMap_cons, List.flatMap_nil, List.take_succ_cons, List.take_zero, List.drop_succ_cons, List.drop_zero, List.append_nil, List.cons_append, List.nil_append]
        go_wp2_with (go_at_call 98; go_loud ((with_reducible refine (HB.out _).mono ?_); rintro e x102 ⟨rfl, hbk⟩))
        refine ⟨⟨cell_step v2' hbk, cell_step v3' hbk⟩, ?_⟩
        replace v2' := cell_step v2' hbk; replace v3' := cell_step v3' hbk; replace hb := hb.step hbk
        replace z12 := blk_below z12 hbk; replace h12lt := blk_lt z12
        replace z13 := blk_below z13 hbk; replace h13lt := blk_lt z13
        clear hbk
        refine wpMix_next (t := 10) (by kernel_rfl) ?_
        simp only [opsAt, List.flatMap_cons, List.flatMap_nil, List.take_succ_cons, List.take_zero, List.drop_succ_cons, List.drop_zero, List.append_nil, List.cons_append, List.nil_append]
        go_wp2_with (go_at_call 110; go_loud ((with_reducible refine (HN.out _).mono ?_); rintro e x103 ⟨rfl, hbk⟩))
        refine ⟨⟨cell_step v2' hbk, cell_step v3' hbk⟩, ?_⟩
        replace v2' := cell_step v2' hbk; replace v3' := cell_step v3' hbk; replace hb := hb.step hbk
        replace z12 := blk_below z12 hbk; replace h12lt := blk_lt z12
        replace z13 := blk_below z13 hbk; replace h13lt := blk_lt z13
        clear hbk
        refine wpMix_next (t := 11) (by kernel_rfl) ?_
        simp only [opsAt, List.flatMap_cons, List.flatMap_nil, List.take_succ_cons, List.take_zero, List.drop_succ_cons, List.drop_zero, List.append_nil, List.cons_append, List.nil_append]
        go_wp2_with (go_at_call 98; go_loud ((with_reducible refine (HC.out _).mono ?_); rintro e x104 ⟨rfl, hbk⟩))
        refine ⟨⟨cell_step v2' hbk, cell_step v3' hbk⟩, ?_⟩
        replace v2' := cell_step v2' hbk; replace v3' := cell_step v3' hbk; replace hb := hb.step hbk
        replace z12 := blk_below z12 hbk; replace h12lt := blk_lt z12
        replace z13 := blk_below z13 hbk; replace h13lt := blk_lt z13
        clear hbk
        refine wpMix_rest [14, 15] (by kernel_rfl) ?_
        simp only [opsAt, List.flatMap_cons, List.flatMap_nil, List.take_succ_cons, List.take_zero, List.drop_succ_cons, List.drop_zero, List.append_nil, List.cons_append, List.nil_append]
        obtain ⟨y0, y1, g0, g1, _⟩ := two_is z12
        obtain ⟨y2, y3, g2, g3, _⟩ := two_is z13
        go_wp2
        go_meet
        exact ⟨b12, b13, rfl, rfl, two_set_other (two_set z12) hne.symm, two_set (two_set_far z13 hne), below_two_sets hb l12 l13⟩
  case rest =>
    obtain ⟨B, C, rfl, rfl, hB, hC, hbc⟩ := hcut
    replace v0 := cell_step v0 hbc
    replace v1 := cell_step v1 hbc
    have hB3 : Below w.heap.size w wc := hBV.step hbc
    obtain ⟨l0, l1, _, _, _⟩ := two_is hB
    obtain ⟨m0, m1, _, _, _⟩ := two_is hC
    clear hbc hBV HM HN HB HC HS v2 v3 hB hC
    cases q0 : decide (a ≤ b)
    · go_wp2_with fail
      ((show bodyPost _ _ _ _ _ _); refine bodyPost_ret (by simp only [results, Try.results100]; go_simp; try rfl) rfl ?_)
      exact ⟨ret_bool (by rw [q0]; rfl), hB3⟩
    · cases q1 : decide (c1 ≤ 0)
      case' true =>
        cases q2 : decide (c2 ≤ 0)
      all_goals
        go_wp2_with (go_at_call 111; first
          | ((with_reducible refine (HD.out _).mono ?_); rintro e w6 ⟨rfl, hb6⟩; replace v0 := cell_step v0 hb6; replace v1 := cell_step v1 hb6; replace m0 := cell_step m0 hb6; replace m1 := cell_step m1 hb6; replace hB3 := hB3.step hb6; clear hb6)
          | ((with_reducible refine (HE.out _).mono ?_); rintro e w7 ⟨rfl, hb7⟩; replace hB3 := hB3.step hb7; clear hb7))
        ((show bodyPost _ _ _ _ _ _); refine bodyPost_ret (by simp only [results, Try.results100]; go_simp; try rfl) rfl ?_)
        exact ⟨ret_bool (by first | (rw [q0, q1, q2]; rfl) | (rw [q0, q1]; rfl)), by first | exact hB3 | (repeat' (first | (with_reducible exact Below.refl _ _) | (with_reducible assumption) | (with_reducible refine Below.new ?_ _) | (with_reducible refine Below.alloc ?_ ?_ _) | (with_reducible refine Below.drew ?_) | (with_reducible refine Below.drewN ?_ _) | (with_reducible refine Below.setCell ?_ ?_ _) | (refine Below.step ?_ (by assumption)) | go_size))⟩
theorem isSum_any (x n a b : Int) (ha : I64 a) (hb : I64 b) (w : World) :
    Calls Try.prog 100 #[(Value.agg #[.int .i64 (hiW (x)), .int .u64 (loW (x))]), .int .i64 n, .int .i64 a, .int .i64 b] w fun e w' => e = .returned (.bool (sumsB x n a b)) ∧ Below w.heap.size w w' := by
  unfold sumsB
  by_cases hn : n = 1
  · subst hn
    have e : (if b < a then false else if (1 : Int) = 1 then (a == b) && decide (hiW x = hiW a ∧ loW x = loW a) else decide (cmpI (a + b + a * wrap64 (1 - 2)) x ≤ 0) && decide (cmpI x (a + b + b * wrap64 (1 - 2)) ≤ 0)) = ((a == b) && decide (hiW x = hiW a ∧ loW x = loW a)) := by
      by_cases h : b < a
      · rw [if_pos h]
        have : (a == b) = false := by simp; omega
        rw [this, Bool.false_and]
      · rw [if_neg h, if_pos rfl]
    rw [e]
    exact isSum_one x a b ha w
  · have e : (if b < a then false else if n = 1 then (a == b) && decide (hiW x = hiW a ∧ loW x = loW a) else decide (cmpI (a + b + a * wrap64 (n - 2)) x ≤ 0) && decide (cmpI x (a + b + b * wrap64 (n - 2)) ≤ 0)) = (decide (a ≤ b) && (decide (cmpI (a + b + a * wrap64 (n - 2)) x ≤ 0) && decide (cmpI x (a + b + b * wrap64 (n - 2)) ≤ 0))) := by
      by_cases h : b < a
      · rw [if_pos h]
        have : decide (a ≤ b) = false := by simp; omega
        rw [this, Bool.false_and]
      · rw [if_neg h, if_neg hn]
        have : decide (a ≤ b) = true := by simp; omega
        rw [this, Bool.true_and]
    rw [e]
    exact isSum_more x n a b hn ha hb w
end Go.Proofs.Ytdgeinipdphoeaa
/- Rollup: is a cell right, by the program. -/
namespace Go.Proofs.Ytdgeinipdphoeaa
set_option linter.unusedVariables false
set_option linter.unusedSimpArgs false
set_option maxRecDepth 100000
open Go.ChangeShapes Go.WideShapes Go.ChangeAt Go.RowKit

def sumAt (c : CellD) (j : Nat) : Bool := sumsB (c.sums.getD j 0) c.n (c.mins.getD j 0) (c.maxs.getD j 0)
def sumsAll (c : CellD) : Bool := (List.range c.mins.length).all (sumAt c)
def fitsC (s : SchD) (c : CellD) : Bool := fitsS s.ds s.ms s.g c.t c.l c.mins.length
def cellH (s : SchD) (c : CellD) : Bool := ((cutE c.t s.g == 0) && ((cutV c.t s.g == c.t) && (decide (1 ≤ c.n) && decide (c.n ≤ 1000000)))) && (fitsC s c && ((c.sums.length == c.mins.length) && (c.maxs.length == c.mins.length)))
/-- Is a cell right? -/
def cellB (s : SchD) (c : CellD) : Bool := cellH s c && sumsAll c
theorem sumsAll_no {c : CellD} {k : Nat} (hk : k < c.mins.length) (h : sumAt c k = false) : sumsAll c = false := by
  unfold sumsAll
  rw [← Bool.not_eq_true, List.all_eq_true]
  intro hx
  have := hx k (by simpa using hk)
  rw [h] at this
  cases this
theorem sumsAll_yes {c : CellD} (h : ∀ j, j < c.mins.length → sumAt c j = true) : sumsAll c = true := by
  unfold sumsAll
  rw [List.all_eq_true]
  intro x hx
  exact h x (by simpa using hx)
theorem neq_beq {a b : Int} {r : Bool} (h : (a == b) = r) : decide (a = b) = r := by rw [← h]; by_cases e : a = b <;> simp [e]

set_option maxHeartbeats 4000000 in
theorem isRight_early (s : SchD) (c : CellD) (vd vm vl vs vn vx : Value) (w : World) (hd : StrsSl w vd s.ds) (hm : StrsSl w vm s.ms) (td : Texts s.ds) (tm : Texts s.ms) (hl : ValsSl w vl c.l) (tl : Vals c.l) (hs : WidesSl w vs c.sums) (hn : IntsSl w vn c.mins) (hx : IntsSl w vx c.maxs)
    (hno : cellH s c = false) :
    Calls Try.prog 71 #[.agg #[.int .i64 c.t, vl, .int .i64 c.n, vs, vn, vx], .agg #[vd, vm, .int .i64 s.g]] w fun e w' => e = .returned (.bool false) ∧ Below w.heap.size w w' := by
  have HG := hid (fun W => gcut_any c.t s.g W)
  have HF := hid (fun W (h : Below w.heap.size w W) => fits_any vd vm vl vn s.ds s.ms s.g c.t c.l c.mins.length _ W (hd.below h) (hm.below h) td tm (hl.below h) tl (SlAt.below hn h))
  obtain ⟨ad, cd, rfl, _, _, _⟩ := SlAt.shape hd
  obtain ⟨am, cm, rfl, _, _, _⟩ := SlAt.shape hm
  obtain ⟨al, cl, rfl, _, _, _⟩ := SlAt.shape hl
  obtain ⟨as', cs, rfl, _, _, _⟩ := SlAt.shape hs
  obtain ⟨an, cn, rfl, _, _, _⟩ := SlAt.shape hn
  obtain ⟨ax, cx, rfl, _, _, _⟩ := SlAt.shape hx
  unfold cellH fitsC at hno
  clear hd hm hl hs hn hx td tm tl
  generalize fitsS s.ds s.ms s.g c.t c.l c.mins.length = F at *
  generalize cutE c.t s.g = E at *
  generalize cutV c.t s.g = T at *
  generalize c.t = t at *
  generalize c.n = n at *
  generalize c.l.length = nl at *
  generalize c.sums.length = ns at *
  generalize c.mins.length = nn at *
  generalize c.maxs.length = nx at *
  generalize s.ds.length = nd at *
  generalize s.ms.length = nm at *
  generalize s.g = g at *
  by_cases h1 : E = 0
  · subst h1
    by_cases h2 : T = t
    · subst h2
      have e2 : (T == T) = true := by simp
      by_cases h3 : n < 1
      · have g3 : decide (n < 1) = true := by simpa using h3
        clear h3 hno
        go_enter Try.func71, Try.ntmps71
        go_wp2_with (go_at_call 60; ((with_reducible refine (HG.out _).mono ?_); rintro e w3 ⟨rfl, hb3⟩; obtain ⟨hc3, hf3, hk3, hz3⟩ := bcell3 hb3; (try simp only [World.size_alloc, World.size_drew] at hz3); have : w.heap.size < w3.heap.size := (by omega); have : w.heap.size + 1 < w3.heap.size := (by omega)))
        go_ret
        exact ⟨rfl, by (repeat' (first | (with_reducible exact Below.refl _ _) | (with_reducible assumption) | (with_reducible refine Below.new ?_ _) | (with_reducible refine Below.alloc ?_ ?_ _) | (with_reducible refine Below.drew ?_) | (with_reducible refine Below.drewN ?_ _) | (with_reducible refine Below.setCell ?_ ?_ _) | (refine Below.step ?_ (by assumption)) | go_size))⟩
      · have g3 : decide (n < 1) = false := by simpa using h3
        by_cases h4 : 1000000 < n
        · have g4 : decide (1000000 < n) = true := by simpa using h4
          clear h3 h4 hno
          go_enter Try.func71, Try.ntmps71
          go_wp2_with (go_at_call 60; ((with_reducible refine (HG.out _).mono ?_); rintro e w3 ⟨rfl, hb3⟩; obtain ⟨hc3, hf3, hk3, hz3⟩ := bcell3 hb3; (try simp only [World.size_alloc, World.size_drew] at hz3); have : w.heap.size < w3.heap.size := (by omega); have : w.heap.size + 1 < w3.heap.size := (by omega)))
          go_ret
          exact ⟨rfl, by (repeat' (first | (with_reducible exact Below.refl _ _) | (with_reducible assumption) | (with_reducible refine Below.new ?_ _) | (with_reducible refine Below.alloc ?_ ?_ _) | (with_reducible refine Below.drew ?_) | (with_reducible refine Below.drewN ?_ _) | (with_reducible refine Below.setCell ?_ ?_ _) | (refine Below.step ?_ (by assumption)) | go_size))⟩
        · have g4 : decide (1000000 < n) = false := by simpa using h4
          have hq : F = false ∨ ns ≠ nn ∨ nx ≠ nn := by
            rw [show decide (1 ≤ n) = true by simp; omega, show decide (n ≤ 1000000) = true by simp; omega] at hno
            cases F with
            | false => exact .inl rfl
            | true =>
              by_cases h5 : ns = nn
              · by_cases h6 : nx = nn
                · subst h5; subst h6; simp at hno
                · exact .inr (.inr h6)
              · exact .inr (.inl h5)
          clear h3 h4 hno
          cases F with
          | false =>
            clear hq
            go_enter Try.func71, Try.ntmps71
            go_wp2_with (first
              | (go_at_call 60; ((with_reducible refine (HG.out _).mono ?_); rintro e w3 ⟨rfl, hb3⟩; obtain ⟨hc3, hf3, hk3, hz3⟩ := bcell3 hb3; (try simp only [World.size_alloc, World.size_drew] at hz3); have : w.heap.size < w3.heap.size := (by omega); have : w.heap.size + 1 < w3.heap.size := (by omega)))
              | (go_at_call 23; ((with_reducible refine (HF.out _ (by (repeat' (first | (with_reducible exact Below.refl _ _) | (with_reducible assumption) | (with_reducible refine Below.new ?_ _) | (with_reducible refine Below.alloc ?_ ?_ _) | (with_reducible refine Below.drew ?_) | (with_reducible refine Below.drewN ?_ _) | (with_reducible refine Below.setCell ?_ ?_ _) | (refine Below.step ?_ (by assumption)) | go_size)))).mono ?_); rintro e w4 ⟨rfl, hb4⟩; obtain ⟨hc4, hf4, hk4, hz4⟩ := bcell3 hb4; (try simp only [World.size_alloc, World.size_drew] at hz4); have : w.heap.size < w4.heap.size := (by omega); have : w.heap.size + 1 < w4.heap.size := (by omega))))
            go_ret
            exact ⟨rfl, by (repeat' (first | (with_reducible exact Below.refl _ _) | (with_reducible assumption) | (with_reducible refine Below.new ?_ _) | (with_reducible refine Below.alloc ?_ ?_ _) | (with_reducible refine Below.drew ?_) | (with_reducible refine Below.drewN ?_ _) | (with_reducible refine Below.setCell ?_ ?_ _) | (refine Below.step ?_ (by assumption)) | go_size))⟩
          | true =>
            by_cases h5 : ns = nn
            · have h6 : nx ≠ nn := by rcases hq with h | h | h; cases h; exact absurd h5 h; exact h
              subst h5
              have g5 : ((ns : Int) == (ns : Int)) = true := by simp
              have g6 : ((nx : Int) == (ns : Int)) = false := by simp; omega
              have g6' : decide ((nx : Int) = (ns : Int)) = false := by simp; omega
              have k6 : (nx == ns) = false := by simp; omega
              have k6' : decide (nx = ns) = false := by simp; omega
              clear h6 hq
              go_enter Try.func71, Try.ntmps71
              go_wp2_with (first
                | (go_at_call 60; ((with_reducible refine (HG.out _).mono ?_); rintro e w3 ⟨rfl, hb3⟩; obtain ⟨hc3, hf3, hk3, hz3⟩ := bcell3 hb3; (try simp only [World.size_alloc, World.size_drew] at hz3); have : w.heap.size < w3.heap.size := (by omega); have : w.heap.size + 1 < w3.heap.size := (by omega)))
                | (go_at_call 23; ((with_reducible refine (HF.out _ (by (repeat' (first | (with_reducible exact Below.refl _ _) | (with_reducible assumption) | (with_reducible refine Below.new ?_ _) | (with_reducible refine Below.alloc ?_ ?_ _) | (with_reducible refine Below.drew ?_) | (with_reducible refine Below.drewN ?_ _) | (with_reducible refine Below.setCell ?_ ?_ _) | (refine Below.step ?_ (by assumption)) | go_size)))).mono ?_); rintro e w4 ⟨rfl, hb4⟩; obtain ⟨hc4, hf4, hk4, hz4⟩ := bcell3 hb4; (try simp only [World.size_alloc, World.size_drew] at hz4); have : w.heap.size < w4.heap.size := (by omega); have : w.heap.size + 1 < w4.heap.size := (by omega))))
              go_ret
              exact ⟨rfl, by (repeat' (first | (with_reducible exact Below.refl _ _) | (with_reducible assumption) | (with_reducible refine Below.new ?_ _) | (with_reducible refine Below.alloc ?_ ?_ _) | (with_reducible refine Below.drew ?_) | (with_reducible refine Below.drewN ?_ _) | (with_reducible refine Below.setCell ?_ ?_ _) | (refine Below.step ?_ (by assumption)) | go_size))⟩
            · have g5 : ((ns : Int) == (nn : Int)) = false := by simp; omega
              have g5' : decide ((ns : Int) = (nn : Int)) = false := by simp; omega
              have k5 : (ns == nn) = false := by simp; omega
              have k5' : decide (ns = nn) = false := by simp; omega
              clear h5 hq
              go_enter Try.func71, Try.ntmps71
              go_wp2_with (first
                | (go_at_call 60; ((with_reducible refine (HG.out _).mono ?_); rintro e w3 ⟨rfl, hb3⟩; obtain ⟨hc3, hf3, hk3, hz3⟩ := bcell3 hb3; (try simp only [World.size_alloc, World.size_drew] at hz3); have : w.heap.size < w3.heap.size := (by omega); have : w.heap.size + 1 < w3.heap.size := (by omega)))
                | (go_at_call 23; ((with_reducible refine (HF.out _ (by (repeat' (first | (with_reducible exact Below.refl _ _) | (with_reducible assumption) | (with_reducible refine Below.new ?_ _) | (with_reducible refine Below.alloc ?_ ?_ _) | (with_reducible refine Below.drew ?_) | (with_reducible refine Below.drewN ?_ _) | (with_reducible refine Below.setCell ?_ ?_ _) | (refine Below.step ?_ (by assumption)) | go_size)))).mono ?_); rintro e w4 ⟨rfl, hb4⟩; obtain ⟨hc4, hf4, hk4, hz4⟩ := bcell3 hb4; (try simp only [World.size_alloc, World.size_drew] at hz4); have : w.heap.size < w4.heap.size := (by omega); have : w.heap.size + 1 < w4.heap.size := (by omega))))
              go_ret
              exact ⟨rfl, by (repeat' (first | (with_reducible exact Below.refl _ _) | (with_reducible assumption) | (with_reducible refine Below.new ?_ _) | (with_reducible refine Below.alloc ?_ ?_ _) | (with_reducible refine Below.drew ?_) | (with_reducible refine Below.drewN ?_ _) | (with_reducible refine Below.setCell ?_ ?_ _) | (refine Below.step ?_ (by assumption)) | go_size))⟩
    · have g2 : (T == t) = false := by simpa using h2
      have g2' : decide (T = t) = false := by simpa using h2
      clear hno
      go_enter Try.func71, Try.ntmps71
      go_wp2_with (go_at_call 60; ((with_reducible refine (HG.out _).mono ?_); rintro e w3 ⟨rfl, hb3⟩; obtain ⟨hc3, hf3, hk3, hz3⟩ := bcell3 hb3; (try simp only [World.size_alloc, World.size_drew] at hz3); have : w.heap.size < w3.heap.size := (by omega); have : w.heap.size + 1 < w3.heap.size := (by omega)))
      go_ret
      exact ⟨rfl, by (repeat' (first | (with_reducible exact Below.refl _ _) | (with_reducible assumption) | (with_reducible refine Below.new ?_ _) | (with_reducible refine Below.alloc ?_ ?_ _) | (with_reducible refine Below.drew ?_) | (with_reducible refine Below.drewN ?_ _) | (with_reducible refine Below.setCell ?_ ?_ _) | (refine Below.step ?_ (by assumption)) | go_size))⟩
  · have g1 : (E == 0) = false := by simpa using h1
    have g1' : decide (E = 0) = false := by simpa using h1
    clear hno
    go_enter Try.func71, Try.ntmps71
    go_wp2_with (go_at_call 60; ((with_reducible refine (HG.out _).mono ?_); rintro e w3 ⟨rfl, hb3⟩; obtain ⟨hc3, hf3, hk3, hz3⟩ := bcell3 hb3; (try simp only [World.size_alloc, World.size_drew] at hz3); have : w.heap.size < w3.heap.size := (by omega); have : w.heap.size + 1 < w3.heap.size := (by omega)))
    go_ret
    exact ⟨rfl, by (repeat' (first | (with_reducible exact Below.refl _ _) | (with_reducible assumption) | (with_reducible refine Below.new ?_ _) | (with_reducible refine Below.alloc ?_ ?_ _) | (with_reducible refine Below.drew ?_) | (with_reducible refine Below.drewN ?_ _) | (with_reducible refine Below.setCell ?_ ?_ _) | (refine Below.step ?_ (by assumption)) | go_size))⟩
end Go.Proofs.Ytdgeinipdphoeaa
/- Rollup: is a cell right, by the program: the sums; the whole. -/
namespace Go.Proofs.Ytdgeinipdphoeaa
set_option linter.unusedVariables false
set_option linter.unusedSimpArgs false
set_option maxRecDepth 100000
open Go.ChangeShapes Go.WideShapes Go.ChangeAt Go.RowKit

theorem sumAt_is {c : CellD} {k : Nat} (h1 : k < c.sums.length) (h2 : k < c.mins.length) (h3 : k < c.maxs.length) : sumAt c k = sumsB c.sums[k] c.n c.mins[k] c.maxs[k] := by
  unfold sumAt
  rw [List.getD_eq_getElem?_getD, List.getElem?_eq_getElem h1, List.getD_eq_getElem?_getD, List.getElem?_eq_getElem h2, List.getD_eq_getElem?_getD, List.getElem?_eq_getElem h3]
  rfl
theorem cellB_parts {s : SchD} {c : CellD} (h : cellH s c = true) :
    cutE c.t s.g = 0 ∧ cutV c.t s.g = c.t ∧ 1 ≤ c.n ∧ c.n ≤ 1000000 ∧ fitsC s c = true ∧ c.sums.length = c.mins.length ∧ c.maxs.length = c.mins.length := by
  unfold cellH at h
  simp only [Bool.and_eq_true, decide_eq_true_eq, beq_iff_eq] at h
  obtain ⟨⟨h1, h2, h3, h4⟩, h5, h6, h7⟩ := h
  exact ⟨h1, h2, h3, h4, h5, h6, h7⟩

set_option maxHeartbeats 4000000 in
theorem isRight_late (s : SchD) (c : CellD) (vd vm vl vs vn vx : Value) (w : World) (hd : StrsSl w vd s.ds) (hm : StrsSl w vm s.ms) (td : Texts s.ds) (tm : Texts s.ms) (hl : ValsSl w vl c.l) (tl : Vals c.l) (hs : WidesSl w vs c.sums) (hn : IntsSl w vn c.mins) (hx : IntsSl w vx c.maxs)
    (in64 : ∀ x ∈ c.mins, I64 x) (ix64 : ∀ x ∈ c.maxs, I64 x)
    (hyes : cellH s c = true) :
    Calls Try.prog 71 #[.agg #[.int .i64 c.t, vl, .int .i64 c.n, vs, vn, vx], .agg #[vd, vm, .int .i64 s.g]] w fun e w' => e = .returned (.bool (sumsAll c)) ∧ Below w.heap.size w w' := by
  obtain ⟨hE, hT, hn1, hn2, hF, hs1, hx1⟩ := cellB_parts hyes
  have HG := hid (fun W => gcut_any c.t s.g W)
  rw [hE, hT] at HG
  have HF := hid (fun W (h : Below w.heap.size w W) => fits_any vd vm vl vn s.ds s.ms s.g c.t c.l c.mins.length _ W (hd.below h) (hm.below h) td tm (hl.below h) tl (SlAt.below hn h))
  unfold fitsC at hF
  rw [hF] at HF
  have HI := hid (fun k (h1 : k < c.sums.length) (h2 : k < c.mins.length) (h3 : k < c.maxs.length) W => isSum_any c.sums[k] c.n c.mins[k] c.maxs[k] (in64 _ (List.getElem_mem h2)) (ix64 _ (List.getElem_mem h3)) W)
  have HSUM := hid hs; have HMIN := hid hn; have HMAX := hid hx
  obtain ⟨ad, cd, rfl, _, _, _⟩ := SlAt.shape hd
  obtain ⟨am, cm, rfl, _, _, _⟩ := SlAt.shape hm
  obtain ⟨al, cl, rfl, _, _, _⟩ := SlAt.shape hl
  obtain ⟨as', cs, rfl, hs5, hs6, _⟩ := SlAt.shape hs
  obtain ⟨an, cn, rfl, _, _, _⟩ := SlAt.shape hn
  obtain ⟨ax, cx, rfl, _, _, _⟩ := SlAt.shape hx
  clear hd hm hl hs hn hx td tm tl hyes hE hT hF in64 ix64
  have HL1 := hid hs1; have HL2 := hid hx1
  rw [hs1] at hs5 ⊢
  rw [hx1]
  clear hs1 hx1
  obtain ⟨L, hL⟩ : ∃ L, c.mins.length = L := ⟨_, rfl⟩
  have HLL := hid hL
  rw [hL] at HF hs5 ⊢
  clear hL
  unfold maxLen at hs6
  have hL6 : (L : Int) ≤ 9223372036854775807 := by omega
  obtain ⟨t, ht⟩ : ∃ t, c.t = t := ⟨_, rfl⟩
  obtain ⟨n, hn⟩ : ∃ n, c.n = n := ⟨_, rfl⟩
  have HNN := hid hn
  rw [ht] at HG HF ⊢
  rw [hn] at HI hn1 hn2 ⊢
  clear ht hn
  generalize c.l.length = nl at *
  generalize s.ds.length = nd at *
  generalize s.ms.length = nm at *
  generalize s.g = g at *
  have g3 : decide (n < 1) = false := by simp; omega
  have g4 : decide (1000000 < n) = false := by simp; omega
  clear hn1 hn2
  go_enter Try.func71, Try.ntmps71
  go_wp2_with (first
    | (go_at_call 60; ((with_reducible refine (HG.out _).mono ?_); rintro e w3 ⟨rfl, hb3⟩; obtain ⟨hc3, hf3, hk3, hz3⟩ := bcell3 hb3; (try simp only [World.size_alloc, World.size_drew] at hz3); have : w.heap.size < w3.heap.size := (by omega); have : w.heap.size + 1 < w3.heap.size := (by omega)))
    | (go_at_call 23; ((with_reducible refine (HF.out _ (by (repeat' (first | (with_reducible exact Below.refl _ _) | (with_reducible assumption) | (with_reducible refine Below.new ?_ _) | (with_reducible refine Below.alloc ?_ ?_ _) | (with_reducible refine Below.drew ?_) | (with_reducible refine Below.drewN ?_ _) | (with_reducible refine Below.setCell ?_ ?_ _) | (refine Below.step ?_ (by assumption)) | go_size)))).mono ?_); rintro e w4 ⟨rfl, hb4⟩; obtain ⟨hc4, hf4, hk4, hz4⟩ := bcell3 hb4; (try simp only [World.size_alloc, World.size_drew] at hz4); have : w.heap.size < w4.heap.size := (by omega); have : w.heap.size + 1 < w4.heap.size := (by omega))))
  have hB4 : Below w.heap.size w w4 := by (repeat' (first | (with_reducible exact Below.refl _ _) | (with_reducible assumption) | (with_reducible refine Below.new ?_ _) | (with_reducible refine Below.alloc ?_ ?_ _) | (with_reducible refine Below.drew ?_) | (with_reducible refine Below.drewN ?_ _) | (with_reducible refine Below.setCell ?_ ?_ _) | (refine Below.step ?_ (by assumption)) | go_size))
  have r0 : w4.heap[w.heap.size]? = some (.cells #[.int .i64 t, .slice al nl cl, .int .i64 n, .slice as' L cs, .slice an L cn, .slice ax L cx] 87 (0, 0)) := blk_below (blk_below (by ((simp (disch := first | omega | (simp only [World.size_alloc, World.size_setCell, World.size_drew]; done) | (simp only [World.size_alloc, World.size_setCell, World.size_drew]; omega)) only [heap_at, heap_past, heap_set_other, heap_set_same]))) hb3) hb4
  have HB4 := hid (And.intro hB4 r0)
  clear hb3 hc3 hf3 hk3 hz3 hb4 hc4 hf4 hk4 hz4 HG HF hB4 r0
  go_loopw [78] (fun i wr => ∃ k : Nat, k ≤ L ∧ i = .int .i64 (k : Nat) ∧ (∀ j, j < k → sumAt c j = true) ∧ wr.heap[w.heap.size]? = some (.cells #[.int .i64 t, .slice al nl cl, .int .i64 n, .slice as' L cs, .slice an L cn, .slice ax L cx] 87 (0, 0)) ∧ Below w.heap.size w wr) (fun i _ => L - (intOf i).toNat)
  case atStart => exact ⟨0, Nat.zero_le _, rfl, fun j h => absurd h (Nat.not_lt_zero _), HB4.out.2, HB4.out.1⟩
  case round =>
    obtain ⟨k, hk, rfl, hall, hbk, hbel⟩ := hrel
    have HALL := hid hall; have HBK := hid hbk; have HB := hid hbel
    have hk0 : (0 : Int) ≤ (k : Int) := Int.natCast_nonneg _
    have hkL : (k : Int) ≤ (L : Int) := by omega
    clear hall HB4
    by_cases hlt : k < L
    · have k1 : k < c.sums.length := by rw [HL1.out, HLL.out]; exact hlt
      have k2 : k < c.mins.length := by rw [HLL.out]; exact hlt
      have k3 : k < c.maxs.length := by rw [HL2.out, HLL.out]; exact hlt
      have hltI : (k : Int) < (L : Int) := by omega
      obtain ⟨_, _, e, _, _, _, hcs⟩ := HSUM.out.parts
      simp only [Value.slice.injEq] at e
      obtain ⟨rfl, _, rfl⟩ := e
      obtain ⟨b1, o1, rfl, hcs2⟩ := hcs (by omega)
      obtain ⟨s0, s1⟩ := hcs2 k k1
      clear hcs2
      have hmn := HMIN.out
      obtain ⟨b2, o2, rfl, hcm⟩ := (SlAt.parts hmn).2.2.2.2 (by simp only [List.length_map]; omega)
      have m0 := hcm k (.int .i64 c.mins[k]) (by rw [List.getElem?_map, List.getElem?_eq_getElem k2]; rfl)
      have hmx := HMAX.out
      obtain ⟨b3, o3, rfl, hcx⟩ := (SlAt.parts hmx).2.2.2.2 (by simp only [List.length_map]; omega)
      have x0 := hcx k (.int .i64 c.maxs[k]) (by rw [List.getElem?_map, List.getElem?_eq_getElem k3]; rfl)
      have HIS := hid (HI.out k k1 k2 k3)
      rw [← HNN.out, ← sumAt_is k1 k2 k3] at HIS
      rw [HNN.out] at HIS
      have HSTEP : Hid (sumAt c k = true → ∀ j, j < k + 1 → sumAt c j = true) := fun h j hj => by
        by_cases e : j = k
        · rw [e]; exact h
        · exact HALL.out j (by omega)
      have HBAD : Hid (sumAt c k = false → sumsAll c = false) := fun h => sumsAll_no k2 h
      replace s0 := cell_step s0 hbel; replace s1 := cell_step s1 hbel; replace m0 := cell_step m0 hbel; replace x0 := cell_step x0 hbel
      clear hcs hcm hcx hmn hmx hbel HSUM HMIN HMAX HI
      generalize c.mins[k] = a at *
      generalize c.maxs[k] = b at *
      generalize hiW c.sums[k] = y1 at *
      generalize loW c.sums[k] = y2 at *
      obtain ⟨d0, d1, d2, d3, d4, d5⟩ := six_at hbk
      have hzb := blk_lt hbk
      clear hbk
      have q2 := cell_new d2 (.cells #[.int .i64 y1, .int .u64 y2] 58); have q4 := cell_new d4 (.cells #[.int .i64 y1, .int .u64 y2] 58); have q5 := cell_new d5 (.cells #[.int .i64 y1, .int .u64 y2] 58)
      have qm := cell_new m0 (.cells #[.int .i64 y1, .int .u64 y2] 58); have qx := cell_new x0 (.cells #[.int .i64 y1, .int .u64 y2] 58)
      have u0 : (wr.alloc (.cells #[.int .i64 y1, .int .u64 y2] 58)).cell? ⟨wr.heap.size, 0, none⟩ = some (.int .i64 y1) := by go_simp
      have u1 : (wr.alloc (.cells #[.int .i64 y1, .int .u64 y2] 58)).cell? ⟨wr.heap.size, 1, none⟩ = some (.int .u64 y2) := by go_simp
      have pq2 := World.plus_cell q2; have pq4 := World.plus_cell q4; have pq5 := World.plus_cell q5; have pqm := World.plus_cell qm; have pqx := World.plus_cell qx; have pu0 := World.plus_cell u0; have pu1 := World.plus_cell u1
      clear q2 q4 q5 qm qx u0 u1
      obtain ⟨R, hR⟩ : ∃ R, sumAt c k = R := ⟨_, rfl⟩
      rw [hR] at HIS HSTEP HBAD
      clear hR
      cases R with
      | true =>
        go_wp2_with fail
        refine wp_region_plus (by kernel_rfl) (by kernel_rfl) ?_
        repeat (first | go_big_quiet_skip | (go_big_quiet_want; go_big_quiet_op; first | go_big_quiet_on | go_big_quiet_call (((go_at_call 100; exact Calls.plus_of (HIS.out _))))))
        refine wpQuiet_nil ?_
        rintro _ ⟨xq, rfl⟩
        have kB := World.plus_below (wr.alloc (.cells #[.int .i64 y1, .int .u64 y2] 58)) xq
        have HK := hid (((Below.refl wr.heap.size wr).new (.cells #[.int .i64 y1, .int .u64 y2] 58)).trans (kB.mono (by simp)))
        clear kB
        go_wp2_with fail
        go_roundw
        case rel => exact ⟨k + 1, hlt, by go_num, HSTEP.out (by simp), blk_below HBK.out HK.out, HB.out.step HK.out⟩
        case measure => simp [intOf]; omega
      | false =>
        have HE := hid (HBAD.out rfl)
        go_wp2_with fail
        refine wp_region_plus (by kernel_rfl) (by kernel_rfl) ?_
        repeat (first | go_big_quiet_skip | (go_big_quiet_want; go_big_quiet_op; first | go_big_quiet_on | go_big_quiet_call (((go_at_call 100; exact Calls.plus_of (HIS.out _))))))
        refine wpQuiet_nil ?_
        rintro _ ⟨xq, rfl⟩
        have kB := World.plus_below (wr.alloc (.cells #[.int .i64 y1, .int .u64 y2] 58)) xq
        have HK := hid (((Below.refl wr.heap.size wr).new (.cells #[.int .i64 y1, .int .u64 y2] 58)).trans (kB.mono (by simp)))
        clear kB
        go_wp2_with fail
        go_ret
        exact ⟨ret_bool HE.out.symm, HB.out.step HK.out⟩
    · obtain rfl : k = L := by omega
      have HE : Hid (sumsAll c = true) := sumsAll_yes fun j hj => HALL.out j (by rw [HLL.out] at hj; exact hj)
      clear hbk hbel
      go_wp2_with fail
      go_ret
      exact ⟨ret_bool HE.out.symm, HB.out⟩
theorem isRight_any (s : SchD) (c : CellD) (vd vm vl vs vn vx : Value) (w : World) (hd : StrsSl w vd s.ds) (hm : StrsSl w vm s.ms) (td : Texts s.ds) (tm : Texts s.ms) (hl : ValsSl w vl c.l) (tl : Vals c.l) (hs : WidesSl w vs c.sums) (hn : IntsSl w vn c.mins) (hx : IntsSl w vx c.maxs)
    (in64 : ∀ x ∈ c.mins, I64 x) (ix64 : ∀ x ∈ c.maxs, I64 x) :
    Calls Try.prog 71 #[.agg #[.int .i64 c.t, vl, .int .i64 c.n, vs, vn, vx], .agg #[vd, vm, .int .i64 s.g]] w fun e w' => e = .returned (.bool (cellB s c)) ∧ Below w.heap.size w w' := by
  unfold cellB
  cases h : cellH s c with
  | true =>
    rw [Bool.true_and]
    exact isRight_late s c vd vm vl vs vn vx w hd hm td tm hl tl hs hn hx in64 ix64 h
  | false =>
    rw [Bool.false_and]
    exact isRight_early s c vd vm vl vs vn vx w hd hm td tm hl tl hs hn hx h
end Go.Proofs.Ytdgeinipdphoeaa
/- Rollup: are cells right, by the program: each cell, and the pairs of them. -/
namespace Go.Proofs.Ytdgeinipdphoeaa
set_option linter.unusedVariables false
set_option linter.unusedSimpArgs false
set_option maxRecDepth 100000
open Go.ChangeShapes Go.WideShapes Go.ChangeAt Go.RowKit Go.Shelf
attribute [local go_sem] Oper.semAt_some

/-- Cells whose lists may be walked. -/
def CellTame (c : CellD) : Prop := Vals c.l ∧ (∀ x ∈ c.mins, I64 x) ∧ (∀ x ∈ c.maxs, I64 x)
theorem right1_any (s : SchD) (c : CellD) (p : Nat) (vd vm vl vs vn vx : Value) (w : World) (hp : w.heap[p]? = some (.cells #[vd, vm, .int .i64 s.g] 24 (0, 0))) (hd : StrsSl w vd s.ds) (hm : StrsSl w vm s.ms) (td : Texts s.ds) (tm : Texts s.ms)
    (hc : CellIs w [.int .i64 c.t, vl, .int .i64 c.n, vs, vn, vx] c) (ht : CellTame c) :
    Calls Try.prog 70 #[.agg #[.int .i64 c.t, vl, .int .i64 c.n, vs, vn, vx], .pointer (some ⟨p, 0, none⟩)] w fun e w' => e = .returned (.bool (!cellB s c)) ∧ Below w.heap.size w w' := by
  obtain ⟨_, _, _, _, e, hl, hs, hn, hx⟩ := hc
  simp only [List.cons.injEq, and_true, true_and] at e
  obtain ⟨rfl, rfl, rfl, rfl⟩ := e
  have HR := hid (fun W (h : Below w.heap.size w W) => isRight_any s c vd vm vl vs vn vx W (hd.below h) (hm.below h) td tm (hl.below h) ht.1 (hs.below h) (hn.below h) (hx.below h) ht.2.1 ht.2.2)
  obtain ⟨ad, cd, rfl, _, _, _⟩ := SlAt.shape hd
  obtain ⟨am, cm, rfl, _, _, _⟩ := SlAt.shape hm
  obtain ⟨al, cl, rfl, _, _, _⟩ := SlAt.shape hl
  obtain ⟨as', cs, rfl, _, _, _⟩ := SlAt.shape hs
  obtain ⟨an, cn, rfl, _, _, _⟩ := SlAt.shape hn
  obtain ⟨ax, cx, rfl, _, _, _⟩ := SlAt.shape hx
  obtain ⟨s0, s1, s2, _, _, _⟩ := three_at hp
  have hpl := blk_lt hp
  clear hd hm td tm hl hs hn hx ht hp
  generalize cellB s c = R at *
  generalize c.t = t at *
  generalize c.n = n at *
  generalize c.l.length = nl at *
  generalize c.sums.length = ns at *
  generalize c.mins.length = nn at *
  generalize c.maxs.length = nx at *
  generalize s.ds.length = nd at *
  generalize s.ms.length = nm at *
  generalize s.g = g at *
  go_enter Try.func70, Try.ntmps70
  go_wp2_with (go_at_call 71; go_loud ((with_reducible refine (HR.out _ (by (repeat' (first | (with_reducible exact Below.refl _ _) | (with_reducible assumption) | (with_reducible refine Below.new ?_ _) | (with_reducible refine Below.alloc ?_ ?_ _) | (with_reducible refine Below.drew ?_) | (with_reducible refine Below.drewN ?_ _) | (with_reducible refine Below.setCell ?_ ?_ _) | (refine Below.step ?_ (by assumption)) | go_size)))).mono ?_); rintro e w3 ⟨rfl, hb3⟩))
  go_ret
  exact ⟨rfl, by (repeat' (first | (with_reducible exact Below.refl _ _) | (with_reducible assumption) | (with_reducible refine Below.new ?_ _) | (with_reducible refine Below.alloc ?_ ?_ _) | (with_reducible refine Below.drew ?_) | (with_reducible refine Below.drewN ?_ _) | (with_reducible refine Below.setCell ?_ ?_ _) | (refine Below.step ?_ (by assumption)) | go_size))⟩
theorem right_idx (pb : Nat)(v : Value) (l : List CellD) (p : CellD → Bool) (w : World) (hv : CellsSl w v l) (hl : l.length ≤ 1000000) (HF : ∀ (c : CellD) (vl vs vm vx : Value) (W : World), c ∈ l → Below w.heap.size w W → CellIs W [.int .i64 c.t, vl, .int .i64 c.n, vs, vm, vx] c → Calls Try.prog 70 #[.agg #[.int .i64 c.t, vl, .int .i64 c.n, vs, vm, vx], .pointer (some ⟨pb, 0, none⟩)] W fun e w' => e = .returned (.bool (p c)) ∧ Below W.heap.size W w') (j : Nat) (hj : j ≤ l.length) (hpre : ∀ i (hi : i < j), p (l[i]'(by omega)) = false) (hat : ∀ hj : j < l.length, p l[j] = true) :
    Calls Try.prog 99 #[v, .func (.func 70) #[] #[.pointer (some ⟨pb, 0, none⟩)]] w fun e w' => e = .returned (.int .i64 (if j < l.length then (j : Int) else -1)) ∧ Below w.heap.size w w' := by
  obtain ⟨ao, cap, rfl, h1, h2, h3⟩ := hv.shape
  have HA := hid hv; have HP := hid hpre; have HT := hid hat; have HFF := hid HF
  obtain ⟨L, hL⟩ : ∃ L, l.length = L := ⟨_, rfl⟩
  have HL := hid hL
  rw [hL] at hj hl h1 ⊢
  clear hpre hat hL hv HF
  unfold maxLen at h2
  go_enter Try.func99, Try.ntmps99
  go_wp2
  go_loopw [8] (fun i wr => ∃ k : Nat, k ≤ j ∧ i = .int .i64 k ∧ Below w.heap.size w wr) (fun i _ => L - (intOf i).toNat)
  case atStart => exact ⟨0, Nat.zero_le _, rfl, Below.refl _ _⟩
  case round =>
    obtain ⟨k, hk, rfl, hbel⟩ := hrel
    by_cases hkL : k < L
    · have hlen : k < l.length := by rw [HL.out]; exact hkL
      have ha := HA.out
      obtain ⟨b, off, vl, vs, vm, vx, rfl, g1, g2, g3, g4, c0, c1, c2, c3, c4, c5⟩ := ha.at hlen
      replace c0 := cell_step c0 hbel; replace c1 := cell_step c1 hbel; replace c2 := cell_step c2 hbel; replace c3 := cell_step c3 hbel; replace c4 := cell_step c4 hbel; replace c5 := cell_step c5 hbel
      have hok : p l[k] = !decide (k < j) := by
        by_cases h : k < j
        · rw [HP.out k h]; simp [h]
        · obtain rfl : k = j := by omega
          rw [HT.out]; simp
      have HI := hid (HFF.out l[k] vl vs vm vx wr (List.getElem_mem hlen) hbel ⟨vl, vs, vm, vx, rfl, g1.below hbel, g2.below hbel, g3.below hbel, g4.below hbel⟩)
      rw [hok] at HI
      obtain ⟨_, _, rfl, _⟩ := SlAt.shape g1
      obtain ⟨_, _, rfl, _⟩ := SlAt.shape g2
      obtain ⟨_, _, rfl, _⟩ := SlAt.shape g3
      obtain ⟨_, _, rfl, _⟩ := SlAt.shape g4
      have HB := hid hbel
      clear g1 g2 g3 g4 ha hok hbel
      generalize l[k].t = t1 at *
      generalize l[k].n = n1 at *
      generalize l[k].l.length = m1 at *
      generalize l[k].sums.length = m2 at *
      generalize l[k].mins.length = m3 at *
      generalize l[k].maxs.length = m4 at *
      by_cases hkj : k < j
      · have hd : (!decide (k < j)) = false := by simp [hkj]
        rw [hd] at HI
        clear hd
        go_wp2_with (go_at_call 70; ((with_reducible refine HI.out.mono ?_); rintro e w2 ⟨rfl, hb2⟩))
        go_roundw
        case rel => exact ⟨k + 1, hkj, by go_num, by have := HB.out; (repeat' (first | (with_reducible exact Below.refl _ _) | (with_reducible assumption) | (with_reducible refine Below.new ?_ _) | (with_reducible refine Below.alloc ?_ ?_ _) | (with_reducible refine Below.drew ?_) | (with_reducible refine Below.drewN ?_ _) | (with_reducible refine Below.setCell ?_ ?_ _) | (refine Below.step ?_ (by assumption)) | go_size))⟩
        case measure => simp [intOf]; omega
      · have hd : (!decide (k < j)) = true := by simp [hkj]
        rw [hd] at HI
        clear hd
        obtain rfl : k = j := by omega
        have HE : Hid ((if k < L then (k : Int) else -1) = (k : Int)) := if_pos hkL
        go_wp2_with (go_at_call 70; ((with_reducible refine HI.out.mono ?_); rintro e w2 ⟨rfl, hb2⟩))
        go_ret
        exact ⟨rfl, by have := HB.out; (repeat' (first | (with_reducible exact Below.refl _ _) | (with_reducible assumption) | (with_reducible refine Below.new ?_ _) | (with_reducible refine Below.alloc ?_ ?_ _) | (with_reducible refine Below.drew ?_) | (with_reducible refine Below.drewN ?_ _) | (with_reducible refine Below.setCell ?_ ?_ _) | (refine Below.step ?_ (by assumption)) | go_size))⟩
    · have HE : Hid ((if j < L then (j : Int) else -1) = -1) := if_neg (by omega)
      have HB := hid hbel
      clear hbel
      go_wp2
      go_ret
      exact ⟨rfl, by have := HB.out; (repeat' (first | (with_reducible exact Below.refl _ _) | (with_reducible assumption) | (with_reducible refine Below.new ?_ _) | (with_reducible refine Below.alloc ?_ ?_ _) | (with_reducible refine Below.drew ?_) | (with_reducible refine Below.drewN ?_ _) | (with_reducible refine Below.setCell ?_ ?_ _) | (refine Below.step ?_ (by assumption)) | go_size))⟩
theorem right_cont (pb : Nat)(v : Value) (l : List CellD) (p : CellD → Bool) (w : World) (hv : CellsSl w v l) (hl : l.length ≤ 1000000) (HF : ∀ (c : CellD) (vl vs vm vx : Value) (W : World), c ∈ l → Below w.heap.size w W → CellIs W [.int .i64 c.t, vl, .int .i64 c.n, vs, vm, vx] c → Calls Try.prog 70 #[.agg #[.int .i64 c.t, vl, .int .i64 c.n, vs, vm, vx], .pointer (some ⟨pb, 0, none⟩)] W fun e w' => e = .returned (.bool (p c)) ∧ Below W.heap.size W w') :
    Calls Try.prog 69 #[v, .func (.func 70) #[] #[.pointer (some ⟨pb, 0, none⟩)]] w fun e w' => e = .returned (.bool (l.any p)) ∧ Below w.heap.size w w' := by
  have H : ∃ r : Int, (l.any p) = decide (0 ≤ r) ∧ Calls Try.prog 99 #[v, .func (.func 70) #[] #[.pointer (some ⟨pb, 0, none⟩)]] w fun e w' => e = .returned (.int .i64 r) ∧ Below w.heap.size w w' := by
    rcases firstC p l with ⟨h1, h2⟩ | ⟨h1, j, h2, h3, h4⟩
    · refine ⟨-1, by rw [h1]; rfl, ?_⟩
      refine (right_idx pb v l p w hv hl HF l.length (Nat.le_refl _) (fun i hi => h2 i hi) (fun h => absurd h (Nat.lt_irrefl _))).mono fun e w' ⟨he, hw⟩ => ⟨?_, hw⟩
      rw [he, if_neg (Nat.lt_irrefl _)]
    · refine ⟨j, by rw [h1]; simp, ?_⟩
      refine (right_idx pb v l p w hv hl HF j (by omega) h4 (fun _ => h3)).mono fun e w' ⟨he, hw⟩ => ⟨?_, hw⟩
      rw [he, if_pos h2]
  obtain ⟨r, hr, hc⟩ := H
  rw [hr]
  have HC := hid hc
  clear hr hc HF
  obtain ⟨ao, cap, rfl, _⟩ := hv.shape
  clear hv
  go_enter Try.func69, Try.ntmps69
  go_wp2_with (go_at_call 99; ((with_reducible refine (HC.out).mono ?_); rintro e w2 ⟨rfl, hb2⟩))
  go_ret
  exact ⟨rfl, by (repeat' (first | (with_reducible exact Below.refl _ _) | (with_reducible assumption) | (with_reducible refine Below.new ?_ _) | (with_reducible refine Below.alloc ?_ ?_ _) | (with_reducible refine Below.drew ?_) | (with_reducible refine Below.drewN ?_ _) | (with_reducible refine Below.setCell ?_ ?_ _) | (refine Below.step ?_ (by assumption)) | go_size))⟩

theorem pairs_any (v : Value) (w : World) (hv : ∃ ao n c, v = .slice ao n c) :
    Calls Try.prog 72 #[v] w fun e w' => e = .returned (.func (.func 101) #[] #[.pointer (some ⟨w.heap.size, 0, none⟩)]) ∧ w' = w.alloc (.cells #[v] 40) := by
  obtain ⟨ao, n, c, rfl⟩ := hv
  go_enter Try.func72, Try.ntmps72
  go_wp2
  go_ret
  exact ⟨rfl, rfl⟩
def cellA (p : CellP) : Value := .agg #[.int .i64 p.2.t, p.1.vl, .int .i64 p.2.n, p.1.vs, p.1.vm, p.1.vx]
def cellP0 : CellP := (⟨.slice none 0 0, .slice none 0 0, .slice none 0 0, .slice none 0 0⟩, ⟨0, [], 0, [], [], []⟩)
def pairEnc (ps : List CellP) (k : Nat) : Array Value := #[cellA (ps.getD k cellP0), cellA (ps.getD (k + 1) cellP0)]
theorem yield_form' {e : Ending} {A B C : Prop} (h : (e = .returned (.bool true) ∧ A ∧ B) ∨ (e = .returned (.bool false) ∧ C)) : ∃ bb : Bool, e = .returned (.bool bb) ∧ ((bb = true ∧ A ∧ B) ∨ (bb = false ∧ C)) := by
  rcases h with ⟨h1, h2⟩ | ⟨h1, h2⟩
  · exact ⟨true, h1, .inl ⟨rfl, h2⟩⟩
  · exact ⟨false, h1, .inr ⟨rfl, h2⟩⟩
theorem Abide.drew {B : Nat} {p : World → Prop} (h : Abide B p) {W : World} (hs : p W) : p W.drew := h W _ none hs ⟨rfl, rfl, rfl, Nat.le_refl _, fun _ _ _ => rfl⟩ (fun r e => by cases e)
theorem six_of {w : World} {ao : Option Addr} {cap : Nat} {ps : List CellP} (h : SlAt w (.slice ao ps.length cap) ps.length 6 (ps.flatMap rowP)) {i : Nat} (hi : i < ps.length) : ∃ b off, ao = some ⟨b, off, none⟩ ∧
    w.cell? ⟨b, off + i * 6, none⟩ = some (.int .i64 (ps.getD i cellP0).2.t) ∧ w.cell? ⟨b, off + i * 6 + 1, none⟩ = some (ps.getD i cellP0).1.vl ∧ w.cell? ⟨b, off + i * 6 + 2, none⟩ = some (.int .i64 (ps.getD i cellP0).2.n) ∧ w.cell? ⟨b, off + i * 6 + 3, none⟩ = some (ps.getD i cellP0).1.vs ∧ w.cell? ⟨b, off + i * 6 + 4, none⟩ = some (ps.getD i cellP0).1.vm ∧ w.cell? ⟨b, off + i * 6 + 5, none⟩ = some (ps.getD i cellP0).1.vx := by
  obtain ⟨b, off, rfl, hc⟩ := (SlAt.parts h).2.2.2.2 (by rw [flat_len 6 rowP rowP_len]; omega)
  have hg : ps.getD i cellP0 = ps[i] := by rw [List.getD_eq_getElem?_getD, List.getElem?_eq_getElem hi]; rfl
  rw [hg]
  have key : ∀ r u, r < 6 → (rowP ps[i])[r]? = some u → w.cell? ⟨b, off + (i * 6 + r), none⟩ = some u := fun r u hr hu => hc _ _ ((flat_at 6 rowP rowP_len ps i r hr hi).trans hu)
  refine ⟨b, off, rfl, ?_, ?_, ?_, ?_, ?_, ?_⟩
  · exact key 0 _ (by decide) rfl
  · exact (Nat.add_assoc off (i * 6) 1) ▸ key 1 _ (by decide) rfl
  · exact (Nat.add_assoc off (i * 6) 2) ▸ key 2 _ (by decide) rfl
  · exact (Nat.add_assoc off (i * 6) 3) ▸ key 3 _ (by decide) rfl
  · exact (Nat.add_assoc off (i * 6) 4) ▸ key 4 _ (by decide) rfl
  · exact (Nat.add_assoc off (i * 6) 5) ▸ key 5 _ (by decide) rfl

set_option maxHeartbeats 4000000 in
theorem pairs_seq (ps : List CellP) (ao : Option Addr) (cap b1 n₀ lo hi : Nat) (w0 w : World) (hb1 : lo ≤ b1 ∧ b1 < hi) (hw : hi ≤ w.heap.size) (h0 : w0.heap.size = n₀) (hB : Below w0.heap.size w0 w)
    (c0 : w.cell? ⟨b1, 0, none⟩ = some (.slice ao ps.length cap)) (hl : SlAt w0 (.slice ao ps.length cap) ps.length 6 (ps.flatMap rowP)) (hlen : ps.length ≤ 1000000) :
    SeqI Try.prog 101 #[.pointer (some ⟨b1, 0, none⟩)] (pairEnc ps) n₀ lo hi (ps.length - 1) w := by
  intro m0 l J Jx W hn hW hJ hJx hY h00
  obtain ⟨n, rfl⟩ : ∃ m1, m0 = m1 + 1 := ⟨m0 - 1, by omega⟩
  have hzW := hW.size
  have d0 := (hW.cell (p := ⟨b1, 0, none⟩) (by simp; omega)).trans c0
  have HL := hid hl
  have HB0 := hid (hB.trans (hW.mono hB.size))
  clear c0 hl
  refine callsIn_of_wp Try.func101 rfl trivial ?_ rfl
  simp only [Try.ntmps101, List.size_toArray, List.length_cons, List.length_nil, Nat.reduceAdd, Nat.reduceSub, Array.replicate_succ, Array.replicate_zero, List.push_toArray, List.append_toArray, List.nil_append, List.cons_append]
  gi_wp2
  gi_loopw [3] (fun iv wr => ∃ k : Nat, k ≤ ps.length - 1 ∧ iv = .int .i64 ((k : Int) + 1) ∧ J k wr ∧ Prot n₀ lo hi W wr) (fun iv _ => (ps.length - (intOf iv).toNat))
  case atStart => exact ⟨0, Nat.zero_le _, rfl, h00, Prot.refl _ _ _ _⟩
  case round =>
    obtain ⟨k, hk, rfl, hJs, hP⟩ := hrel
    have e0 := (hP.cell (b := b1) (o := 0) (.inr hb1)).trans d0
    have hk0 : (0 : Int) ≤ (k : Int) := Int.natCast_nonneg _
    have hk6 : (k : Int) ≤ 1000000 := by omega
    have HP := hid hP
    by_cases hlt : k < ps.length - 1
    · have h1 : k < ps.length := by omega
      have h2 : k + 1 < ps.length := by omega
      have hltI : (k : Int) + 1 < (ps.length : Int) := by omega
      have hlI2 : (k : Int) < (ps.length : Int) := by omega
      obtain ⟨b, off, rfl, p0, p1, p2, p3, p4, p5⟩ := six_of HL.out h1
      obtain ⟨b', off', e, q0, q1, q2, q3, q4, q5⟩ := six_of HL.out h2
      simp only [Option.some.injEq, Addr.mk.injEq, and_true] at e
      obtain ⟨rfl, rfl⟩ := e
      have hblt : b < n₀ := by rw [← h0]; exact World.block_lt_of_cell? _ _ p0
      have go : ∀ {o : Nat} {x : Value}, w0.cell? ⟨b, o, none⟩ = some x → wr.cell? ⟨b, o, none⟩ = some x := fun hc => (hP.cell (.inl hblt)).trans (cell_step hc HB0.out)
      replace p0 := go p0; replace p1 := go p1; replace p2 := go p2; replace p3 := go p3; replace p4 := go p4; replace p5 := go p5
      replace q0 := go q0; replace q1 := go q1; replace q2 := go q2; replace q3 := go q3; replace q4 := go q4; replace q5 := go q5
      obtain ⟨fn, tmps, assign, body, hy, hR⟩ := hY k hlt wr.drew ((hJ k).drew hJs)
      unfold pairEnc at hy
      unfold cellA at hy
      generalize ps.getD k cellP0 = pA at *
      generalize ps.getD (k + 1) cellP0 = pB at *
      have hsub : (k : Int) + 1 - 1 = (k : Int) := by omega
      have hcast : ((k + 1 : Nat) : Int) = (k : Int) + 1 := rfl
      have htn : ((k : Int) + 1).toNat = k + 1 := by omega
      have hw0 : IntKind.i64.wrap (k : Int) = (k : Int) := IntWalk.i64_in _ (by omega)
      have hw1 : IntKind.i64.wrap ((k : Int) + 1) = (k : Int) + 1 := IntWalk.i64_in _ (by omega)
      have hk1 : (0 : Int) ≤ (k : Int) + 1 := by omega
      clear hY hJ hJx go hP
      (try dsimp only at hy)
      gi_wp2
      gi_region_with ((refine (hR.mono (fun _ _ h => yield_form' h)).mono ?_; rintro e W5 ⟨bb, rfl, h5'⟩; have h5 := hid h5'; clear h5'))
      all_goals
        rcases h5.out with ⟨rfl, hJ5, hP5⟩ | ⟨rfl, hJx5⟩
        · gi_wp2
          go_roundw
          case rel => exact ⟨k + 1, by omega, by go_num, hJ5, HP.out.trans ⟨hP5.size, hP5.low, hP5.mid⟩⟩
          case measure => simp [intOf]; omega
        · gi_wp2
          refine bodyPost_ret (results_none rfl _ _ _) rfl ?_
          exact ⟨⟨_, rfl⟩, .inr ⟨k, hlt, hJx5⟩⟩
    · have hge : ¬ ((k : Int) + 1 < (ps.length : Int)) := by omega
      obtain rfl : k = ps.length - 1 := by omega
      clear hY hJ hJx
      gi_wp2
      go_end0
      exact ⟨⟨_, rfl⟩, .inl hJs⟩
end Go.Proofs.Ytdgeinipdphoeaa
/- Rollup: are cells right, by the program. -/
namespace Go.Proofs.Ytdgeinipdphoeaa
set_option linter.unusedVariables false
set_option linter.unusedSimpArgs false
set_option maxRecDepth 100000
open Go.ChangeShapes Go.WideShapes Go.ChangeAt Go.RowKit Go.Shelf
attribute [local go_sem] Oper.semAt_some

def aheadAt (l : List CellD) (k : Nat) : Bool := aheadC (l.getD k cellP0.2) (l.getD (k + 1) cellP0.2)
/-- Each cell stands ahead of the next one. -/
def chainB (l : List CellD) : Bool := (List.range (l.length - 1)).all (aheadAt l)
def rightB (s : SchD) (l : List CellD) : Bool := okSch s && (decide (l.length ≤ 1000) && (l.all (cellB s) && chainB l))
theorem chain_no {l : List CellD} {k : Nat} (hk : k < l.length - 1) (h : aheadAt l k = false) : chainB l = false := by
  unfold chainB
  rw [← Bool.not_eq_true, List.all_eq_true]
  intro hx
  have := hx k (by simpa using hk)
  rw [h] at this
  cases this
theorem chain_yes {l : List CellD} (h : ∀ j, j < l.length - 1 → aheadAt l j = true) : chainB l = true := by
  unfold chainB
  rw [List.all_eq_true]
  intro x hx
  exact h x (by simpa using hx)
theorem any_not (s : SchD) (l : List CellD) : l.any (fun c => !cellB s c) = !l.all (cellB s) := by
  induction l with
  | nil => rfl
  | cons x l ih => simp only [List.any_cons, List.all_cons, ih, Bool.not_and]
theorem getD_cellsP (ps : List CellP) (k : Nat) : (cellsP ps).getD k cellP0.2 = (ps.getD k cellP0).2 := by
  unfold cellsP
  rw [List.getD_eq_getElem?_getD, List.getD_eq_getElem?_getD, List.getElem?_map]
  cases ps[k]? <;> rfl

theorem right_cont_at (s : SchD) (l : List CellD) (vd vm v : Value) (w : World) (hd : StrsSl w vd s.ds) (hm : StrsSl w vm s.ms) (td : Texts s.ds) (tm : Texts s.ms) (hv : CellsSl w v l) (ht : ∀ c ∈ l, CellTame c) (hlen : l.length ≤ 1000000) (pb : Nat) :
    ∀ W, Below w.heap.size w W → W.heap[pb]? = some (.cells #[vd, vm, .int .i64 s.g] 24 (0, 0)) → Calls Try.prog 69 #[v, .func (.func 70) #[] #[.pointer (some ⟨pb, 0, none⟩)]] W fun e w' => e = .returned (.bool (!l.all (cellB s))) ∧ Below W.heap.size W w' := by
  intro W hW hp
  have := right_cont pb v l (fun c => !cellB s c) W (hv.below hW) hlen (fun c vl vs vm' vx W' hc hb hci => right1_any s c pb vd vm vl vs vm' vx W' (blk_below hp hb) ((hd.below hW).below hb) ((hm.below hW).below hb) td tm hci (ht c hc))
  rw [any_not] at this
  exact this

set_option maxHeartbeats 2000000 in
theorem right_early (s : SchD) (l : List CellD) (vd vm v : Value) (w : World) (hd : StrsSl w vd s.ds) (hm : StrsSl w vm s.ms) (td : Texts s.ds) (tm : Texts s.ms) (hv : CellsSl w v l) (ht : ∀ c ∈ l, CellTame c) (hno : (okSch s && (decide (l.length ≤ 1000) && l.all (cellB s))) = false) :
    Calls Try.prog 36 #[.agg #[vd, vm, .int .i64 s.g], v] w fun e w' => e = .returned (.bool false) ∧ Below w.heap.size w w' := by
  have HR := hid (fun W (h : Below w.heap.size w W) => right_any vd vm s.ds s.ms s.g W (hd.below h) (hm.below h) td tm)
  have HC : l.length ≤ 1000000 → _ := fun hlen => right_cont_at s l vd vm v w hd hm td tm hv ht hlen w.heap.size
  have HCC := hid HC
  clear HC
  obtain ⟨ad, cd, rfl, _, _, _⟩ := SlAt.shape hd
  obtain ⟨am, cm, rfl, _, _, _⟩ := SlAt.shape hm
  obtain ⟨ao, cap, rfl, _, _, _⟩ := hv.shape
  clear hd hm td tm hv ht
  by_cases h1 : okSch s = true
  · have h1' : rightS s.ds s.ms s.g = true := h1
    rw [h1'] at HR
    rw [h1, Bool.true_and] at hno
    by_cases h2 : l.length ≤ 1000
    · have h3 : l.all (cellB s) = false := by simpa [h2] using hno
      have HX := hid (HCC.out (by omega))
      rw [h3] at HX
      have g2 : decide ((1000 : Int) < (l.length : Int)) = false := by simp; omega
      have g3 : decide ((l.length : Int) > 1000) = false := by simp; omega
      clear h1 h1' h2 h3 hno HCC
      generalize s.ds.length = nd at *
      generalize s.ms.length = nm at *
      generalize s.g = g at *
      refine calls_marks Try.func36 rfl ?_
      simp only [Try.ntmps36, List.size_toArray, List.length_cons, List.length_nil, Nat.reduceAdd, Nat.reduceSub, Array.replicate_succ, Array.replicate_zero, List.push_toArray, List.append_toArray, List.nil_append, List.cons_append]
      go_wp2
      refine wp_scope_fwd ?_
      go_wp2_with (first
        | (go_at_call 21; go_loud ((with_reducible refine (HR.out _ (by (repeat' (first | (with_reducible exact Below.refl _ _) | (with_reducible assumption) | (with_reducible refine Below.new ?_ _) | (with_reducible refine Below.alloc ?_ ?_ _) | (with_reducible refine Below.drew ?_) | (with_reducible refine Below.drewN ?_ _) | (with_reducible refine Below.setCell ?_ ?_ _) | (refine Below.step ?_ (by assumption)) | go_size)))).mono ?_); rintro e w1 ⟨rfl, hb1⟩; have r0 : w1.heap[w.heap.size]? = some (.cells #[.slice ad nd cd, .slice am nm cm, .int .i64 g] 24 (0, 0)) := blk_below (heap_at rfl) hb1))
        | (go_at_call 69; go_loud ((with_reducible refine (HX.out _ (by (repeat' (first | (with_reducible exact Below.refl _ _) | (with_reducible assumption) | (with_reducible refine Below.new ?_ _) | (with_reducible refine Below.alloc ?_ ?_ _) | (with_reducible refine Below.drew ?_) | (with_reducible refine Below.drewN ?_ _) | (with_reducible refine Below.setCell ?_ ?_ _) | (refine Below.step ?_ (by assumption)) | go_size))) r0).mono ?_); rintro e w2 ⟨rfl, hb2⟩)))
      refine ret_plain (.inl rfl) (by simp only [results, Try.results36]; go_simp; try rfl) ?_
      exact ⟨rfl, by (repeat' (first | (with_reducible exact Below.refl _ _) | (with_reducible assumption) | (with_reducible refine Below.new ?_ _) | (with_reducible refine Below.alloc ?_ ?_ _) | (with_reducible refine Below.drew ?_) | (with_reducible refine Below.drewN ?_ _) | (with_reducible refine Below.setCell ?_ ?_ _) | (refine Below.step ?_ (by assumption)) | go_size))⟩
    · have g2 : decide ((1000 : Int) < (l.length : Int)) = true := by simp; omega
      have g3 : decide ((l.length : Int) > 1000) = true := by simp; omega
      clear h1 h1' h2 hno HCC
      generalize s.ds.length = nd at *
      generalize s.ms.length = nm at *
      generalize s.g = g at *
      refine calls_marks Try.func36 rfl ?_
      simp only [Try.ntmps36, List.size_toArray, List.length_cons, List.length_nil, Nat.reduceAdd, Nat.reduceSub, Array.replicate_succ, Array.replicate_zero, List.push_toArray, List.append_toArray, List.nil_append, List.cons_append]
      go_wp2
      refine wp_scope_fwd ?_
      go_wp2_with (go_at_call 21; go_loud ((with_reducible refine (HR.out _ (by (repeat' (first | (with_reducible exact Below.refl _ _) | (with_reducible assumption) | (with_reducible refine Below.new ?_ _) | (with_reducible refine Below.alloc ?_ ?_ _) | (with_reducible refine Below.drew ?_) | (with_reducible refine Below.drewN ?_ _) | (with_reducible refine Below.setCell ?_ ?_ _) | (refine Below.step ?_ (by assumption)) | go_size)))).mono ?_); rintro e w1 ⟨rfl, hb1⟩))
      refine ret_plain (.inl rfl) (by simp only [results, Try.results36]; go_simp; try rfl) ?_
      exact ⟨rfl, by (repeat' (first | (with_reducible exact Below.refl _ _) | (with_reducible assumption) | (with_reducible refine Below.new ?_ _) | (with_reducible refine Below.alloc ?_ ?_ _) | (with_reducible refine Below.drew ?_) | (with_reducible refine Below.drewN ?_ _) | (with_reducible refine Below.setCell ?_ ?_ _) | (refine Below.step ?_ (by assumption)) | go_size))⟩
  · have h1' : rightS s.ds s.ms s.g = false := by
      have : okSch s = false := by simpa using h1
      exact this
    rw [h1'] at HR
    clear h1 h1' hno HCC
    generalize s.ds.length = nd at *
    generalize s.ms.length = nm at *
    generalize s.g = g at *
    refine calls_marks Try.func36 rfl ?_
    simp only [Try.ntmps36, List.size_toArray, List.length_cons, List.length_nil, Nat.reduceAdd, Nat.reduceSub, Array.replicate_succ, Array.replicate_zero, List.push_toArray, List.append_toArray, List.nil_append, List.cons_append]
    go_wp2
    refine wp_scope_fwd ?_
    go_wp2_with (go_at_call 21; go_loud ((with_reducible refine (HR.out _ (by (repeat' (first | (with_reducible exact Below.refl _ _) | (with_reducible assumption) | (with_reducible refine Below.new ?_ _) | (with_reducible refine Below.alloc ?_ ?_ _) | (with_reducible refine Below.drew ?_) | (with_reducible refine Below.drewN ?_ _) | (with_reducible refine Below.setCell ?_ ?_ _) | (refine Below.step ?_ (by assumption)) | go_size)))).mono ?_); rintro e w1 ⟨rfl, hb1⟩))
    refine ret_plain (.inl rfl) (by simp only [results, Try.results36]; go_simp; try rfl) ?_
    exact ⟨rfl, by (repeat' (first | (with_reducible exact Below.refl _ _) | (with_reducible assumption) | (with_reducible refine Below.new ?_ _) | (with_reducible refine Below.alloc ?_ ?_ _) | (with_reducible refine Below.drew ?_) | (with_reducible refine Below.drewN ?_ _) | (with_reducible refine Below.setCell ?_ ?_ _) | (refine Below.step ?_ (by assumption)) | go_size))⟩
theorem callsIn_w2 {n : Nat} {P : Program} {f : FuncId} {args : Array Value} {w : World} {R : Ending → World → Prop} (h : Calls P f args w R) : CallsIn Fence.wide n P f args w R := (callsIn_wide (n := n)).2 h
/-- What the loop over the pairs keeps. -/
def chI (w : World) (b : Nat) (l : List CellD) (k : Nat) (X : World) : Prop := (∀ j, j < k → aheadAt l j = true) ∧ X.heap[b]? = some (.cells #[.bool true] 4 (0, 0)) ∧ Below w.heap.size w X
def chX (w : World) (b : Nat) (l : List CellD) (c : Code) (k : Nat) (X : World) : Prop := c = .exit 0 ∧ aheadAt l k = false ∧ X.heap[b]? = some (.cells #[.bool false] 4 (0, 0)) ∧ Below w.heap.size w X
theorem chI_stab (w : World) (b : Nat) (l : List CellD) (B : Nat) (hB : w.heap.size ≤ B) (k : Nat) : Stab B (chI w b l k) := Stab.and (Stab.pure _) (Stab.and Stab.block (Stab.below (Nat.le_refl _) hB))
theorem chX_stab (w : World) (b : Nat) (l : List CellD) (B : Nat) (hB : w.heap.size ≤ B) (c : Code) (k : Nat) : Stab B (chX w b l c k) := Stab.and (Stab.pure _) (Stab.and (Stab.pure _) (Stab.and Stab.block (Stab.below (Nat.le_refl _) hB)))

set_option maxHeartbeats 4000000 in
theorem right_late (s : SchD) (l : List CellD) (vd vm v : Value) (w : World) (hd : StrsSl w vd s.ds) (hm : StrsSl w vm s.ms) (td : Texts s.ds) (tm : Texts s.ms) (hv : CellsSl w v l) (ht : ∀ c ∈ l, CellTame c) (hyes : (okSch s && (decide (l.length ≤ 1000) && l.all (cellB s))) = true) :
    Calls Try.prog 36 #[.agg #[vd, vm, .int .i64 s.g], v] w fun e w' => e = .returned (.bool (chainB l)) ∧ Below w.heap.size w w' := by
  simp only [Bool.and_eq_true, decide_eq_true_eq] at hyes
  obtain ⟨h1, h2, h3⟩ := hyes
  have HR := hid (fun W (h : Below w.heap.size w W) => right_any vd vm s.ds s.ms s.g W (hd.below h) (hm.below h) td tm)
  have h1' : rightS s.ds s.ms s.g = true := h1
  rw [h1'] at HR
  have HX := hid (right_cont_at s l vd vm v w hd hm td tm hv ht (by omega) w.heap.size)
  rw [h3] at HX
  obtain ⟨ps, hps, hsl, hheld⟩ := hv.pairs
  have hpl : ps.length = l.length := by rw [← hps]; simp [cellsP]
  have HPS := hid hps; have HHELD := hid hheld; have HPL := hid hpl
  obtain ⟨ad, cd, rfl, _, _, _⟩ := SlAt.shape hd
  obtain ⟨am, cm, rfl, _, _, _⟩ := SlAt.shape hm
  obtain ⟨ao, cap, rfl, _, _, _⟩ := hv.shape
  rw [← hpl] at h2
  have g2 : decide ((1000 : Int) < (ps.length : Int)) = false := by simp; omega
  have g3 : decide ((ps.length : Int) > 1000) = false := by simp; omega
  rw [← hpl] at HX ⊢
  rw [← hpl] at hsl
  have HSL := hid hsl; have H2 := hid h2
  clear hd hm td tm hv ht h1 h1' h3 hps hheld hpl hsl h2
  generalize s.ds.length = nd at *
  generalize s.ms.length = nm at *
  generalize s.g = g at *
  refine calls_marks Try.func36 rfl ?_
  simp only [Try.ntmps36, List.size_toArray, List.length_cons, List.length_nil, Nat.reduceAdd, Nat.reduceSub, Array.replicate_succ, Array.replicate_zero, List.push_toArray, List.append_toArray, List.nil_append, List.cons_append]
  go_wp2
  refine wp_scope_fwd ?_
  go_wp2_with (first
    | (go_at_call 21; go_loud ((with_reducible refine (HR.out _ (by (repeat' (first | (with_reducible exact Below.refl _ _) | (with_reducible assumption) | (with_reducible refine Below.new ?_ _) | (with_reducible refine Below.alloc ?_ ?_ _) | (with_reducible refine Below.drew ?_) | (with_reducible refine Below.drewN ?_ _) | (with_reducible refine Below.setCell ?_ ?_ _) | (refine Below.step ?_ (by assumption)) | go_size)))).mono ?_); rintro e w1 ⟨rfl, hb1⟩; have r0 : w1.heap[w.heap.size]? = some (.cells #[.slice ad nd cd, .slice am nm cm, .int .i64 g] 24 (0, 0)) := blk_below (heap_at rfl) hb1))
    | (go_at_call 69; go_loud ((with_reducible refine (HX.out _ (by (repeat' (first | (with_reducible exact Below.refl _ _) | (with_reducible assumption) | (with_reducible refine Below.new ?_ _) | (with_reducible refine Below.alloc ?_ ?_ _) | (with_reducible refine Below.drew ?_) | (with_reducible refine Below.drewN ?_ _) | (with_reducible refine Below.setCell ?_ ?_ _) | (refine Below.step ?_ (by assumption)) | go_size))) r0).mono ?_); rintro e w2 ⟨rfl, hb2⟩)))
  refine wp_label ?_
  go_wp2_with (go_at_call 72; go_loud ((with_reducible refine (pairs_any _ _ ⟨_, _, _, rfl⟩).mono ?_); rintro e w3 ⟨rfl, rfl⟩))
  have hB2 : Below w.heap.size w w2 := by (repeat' (first | (with_reducible exact Below.refl _ _) | (with_reducible assumption) | (with_reducible refine Below.new ?_ _) | (with_reducible refine Below.alloc ?_ ?_ _) | (with_reducible refine Below.drew ?_) | (with_reducible refine Below.drewN ?_ _) | (with_reducible refine Below.setCell ?_ ?_ _) | (refine Below.step ?_ (by assumption)) | go_size))
  have hz2 := hB2.size
  have HB2 := hid hB2
  clear hb1 hb2 r0 HR HX
  refine wp_range (gf := 101) (lb := #[.pointer (some ⟨w2.heap.size + 1, 0, none⟩)]) rfl (enters_of Try.func101 (by kernel_rfl) rfl)
    (pairs_seq ps ao cap (w2.heap.size + 1) w.heap.size (w2.heap.size + 1) (w2.heap.size + 1 + 1) w _ (by omega) (by simp) rfl (by (repeat' (first | (with_reducible exact Below.refl _ _) | (with_reducible assumption) | (with_reducible refine Below.new ?_ _) | (with_reducible refine Below.alloc ?_ ?_ _) | (with_reducible refine Below.drew ?_) | (with_reducible refine Below.drewN ?_ _) | (with_reducible refine Below.setCell ?_ ?_ _) | (refine Below.step ?_ (by assumption)) | go_size))) (by go_simp) HSL.out (by have := H2.out; omega))
    (by simp; omega) (fun _ => rfl) (chI w w2.heap.size l) (chX w w2.heap.size l) (chI_stab _ _ _ _ (by simp; omega)) (chX_stab _ _ _ _ (by simp; omega)) ?start ?round ?done ?stop
  case start => exact ⟨fun j h => absurd h (Nat.not_lt_zero _), by (simp (disch := first | omega | (simp only [World.size_alloc, World.size_setCell, World.size_drew]; done) | (simp only [World.size_alloc, World.size_setCell, World.size_drew]; omega)) only [heap_at, heap_past, heap_set_other, heap_set_same]), by (repeat' (first | (with_reducible exact Below.refl _ _) | (with_reducible assumption) | (with_reducible refine Below.new ?_ _) | (with_reducible refine Below.alloc ?_ ?_ _) | (with_reducible refine Below.drew ?_) | (with_reducible refine Below.drewN ?_ _) | (with_reducible refine Below.setCell ?_ ?_ _) | (refine Below.step ?_ (by assumption)) | go_size))⟩
  case round =>
    intro ln k W hkN hI hl hlt hW
    obtain ⟨hall, hbx, hB⟩ := hI
    have hzB := hB.size
    simp only [World.size_alloc] at hl hW
    have k1 : k < ps.length := by omega
    have k2 : k + 1 < ps.length := by omega
    have hA := HHELD.out (ps.getD k cellP0) (by rw [List.getD_eq_getElem?_getD, List.getElem?_eq_getElem k1]; exact List.getElem_mem k1)
    have hC := HHELD.out (ps.getD (k + 1) cellP0) (by rw [List.getD_eq_getElem?_getD, List.getElem?_eq_getElem k2]; exact List.getElem_mem k2)
    have HAH : Hid (aheadAt l k = aheadC (ps.getD k cellP0).2 (ps.getD (k + 1) cellP0).2) := by unfold Hid aheadAt; rw [← HPS.out, getD_cellsP, getD_cellsP]
    unfold pairEnc cellA
    generalize ps.getD k cellP0 = pA at *
    generalize ps.getD (k + 1) cellP0 = pB at *
    obtain ⟨⟨ul, us, um, ux⟩, c⟩ := pA
    obtain ⟨⟨yl, ys, ym, yx⟩, d⟩ := pB
    obtain ⟨_, _, _, _, eA, a1, a2, a3, a4⟩ := hA.is (Below.refl _ _)
    obtain ⟨_, _, _, _, eC, b1, b2, b3, b4⟩ := hC.is (Below.refl _ _)
    clear hA hC
    simp only [CellV.row, List.cons.injEq, and_true, true_and] at eA eC
    obtain ⟨rfl, rfl, rfl, rfl⟩ := eA
    obtain ⟨rfl, rfl, rfl, rfl⟩ := eC
    dsimp only at a1 a2 a3 a4 b1 b2 b3 b4 HAH
    obtain ⟨A1, C1, rfl, _⟩ := SlAt.shape a1
    obtain ⟨A2, C2, rfl, _⟩ := SlAt.shape a2
    obtain ⟨A3, C3, rfl, _⟩ := SlAt.shape a3
    obtain ⟨A4, C4, rfl, _⟩ := SlAt.shape a4
    obtain ⟨E1, F1, rfl, _⟩ := SlAt.shape b1
    obtain ⟨E2, F2, rfl, _⟩ := SlAt.shape b2
    obtain ⟨E3, F3, rfl, _⟩ := SlAt.shape b3
    obtain ⟨E4, F4, rfl, _⟩ := SlAt.shape b4
    have HI := hid (fun X (h : Below w.heap.size w X) => isAhead_any c d (.slice A1 c.l.length C1) (.slice A2 c.sums.length C2) (.slice A3 c.mins.length C3) (.slice A4 c.maxs.length C4) (.slice E1 d.l.length F1) (.slice E2 d.sums.length F2) (.slice E3 d.mins.length F3) (.slice E4 d.maxs.length F4) c.n d.n X (a1.below h) (b1.below h) ⟨_, _, _, rfl⟩ ⟨_, _, _, rfl⟩ ⟨_, _, _, rfl⟩ ⟨_, _, _, rfl⟩ ⟨_, _, _, rfl⟩ ⟨_, _, _, rfl⟩)
    have HALL := hid hall
    clear a1 a2 a3 a4 b1 b2 b3 b4 hall
    obtain ⟨R, hR⟩ : ∃ R, aheadC c d = R := ⟨_, rfl⟩
    rw [hR] at HI HAH
    clear hR
    generalize c.t = t1 at *
    generalize c.n = n1 at *
    generalize c.l.length = m1 at *
    generalize c.sums.length = m2 at *
    generalize c.mins.length = m3 at *
    generalize c.maxs.length = m4 at *
    generalize d.t = t2 at *
    generalize d.n = n2 at *
    generalize d.l.length = q1 at *
    generalize d.sums.length = q2 at *
    generalize d.mins.length = q3 at *
    generalize d.maxs.length = q4 at *
    gi_wp2
    refine ⟨Kept.alloc (Kept.alloc (Kept.refl _ _ _ _ _) (by omega) (by omega) _) (by simp; omega) (by simp; omega) _, fun W2 hT => ?_⟩
    have x0 : ((W.alloc (.cells #[.int .i64 t1, .slice A1 m1 C1, .int .i64 n1, .slice A2 m2 C2, .slice A3 m3 C3, .slice A4 m4 C4] 87)).alloc (.cells #[.int .i64 t2, .slice E1 q1 F1, .int .i64 n2, .slice E2 q2 F2, .slice E3 q3 F3, .slice E4 q4 F4] 46)).heap[W.heap.size]? = some (.cells #[.int .i64 t1, .slice A1 m1 C1, .int .i64 n1, .slice A2 m2 C2, .slice A3 m3 C3, .slice A4 m4 C4] 87 (0, 0)) := by (simp (disch := first | omega | (simp only [World.size_alloc, World.size_setCell, World.size_drew]; done) | (simp only [World.size_alloc, World.size_setCell, World.size_drew]; omega)) only [heap_at, heap_past, heap_set_other, heap_set_same])
    have x1 : ((W.alloc (.cells #[.int .i64 t1, .slice A1 m1 C1, .int .i64 n1, .slice A2 m2 C2, .slice A3 m3 C3, .slice A4 m4 C4] 87)).alloc (.cells #[.int .i64 t2, .slice E1 q1 F1, .int .i64 n2, .slice E2 q2 F2, .slice E3 q3 F3, .slice E4 q4 F4] 46)).heap[W.heap.size + 1]? = some (.cells #[.int .i64 t2, .slice E1 q1 F1, .int .i64 n2, .slice E2 q2 F2, .slice E3 q3 F3, .slice E4 q4 F4] 46 (0, 0)) := by (simp (disch := first | omega | (simp only [World.size_alloc, World.size_setCell, World.size_drew]; done) | (simp only [World.size_alloc, World.size_setCell, World.size_drew]; omega)) only [heap_at, heap_past, heap_set_other, heap_set_same])
    have x2 : ((W.alloc (.cells #[.int .i64 t1, .slice A1 m1 C1, .int .i64 n1, .slice A2 m2 C2, .slice A3 m3 C3, .slice A4 m4 C4] 87)).alloc (.cells #[.int .i64 t2, .slice E1 q1 F1, .int .i64 n2, .slice E2 q2 F2, .slice E3 q3 F3, .slice E4 q4 F4] 46)).heap[w2.heap.size]? = some (.cells #[.bool true] 4 (0, 0)) := blk_below hbx (((Below.refl _ _).new _).new _)
    have y0 := (hT.block (blk_lt x0) (by omega)).trans x0
    have y1 := (hT.block (blk_lt x1) (by omega)).trans x1
    have y2 := (hT.block (blk_lt x2) (by omega)).trans x2
    have hB3 : Below w.heap.size w W2 := (Stab.below (Nat.le_refl _) (Nat.le_refl _)).turn ((hB.new _).new _) hT (by omega)
    have zT := hT.size
    simp only [World.size_alloc] at zT
    clear x0 x1 x2 hT hbx hB
    obtain ⟨c0, c1, c2, c3, c4, c5⟩ := six_at y0
    obtain ⟨d0, d1, d2, d3, d4, d5⟩ := six_at y1
    have HY2 := hid y2; have HB3 := hid hB3
    have HKK : Hid (∀ X, Below W2.heap.size W2 X → Kept (((w2.alloc (.cells #[.bool true] 4)).alloc (.cells #[.slice ao ps.length cap] 40)).heap.size) w.heap.size (w2.heap.size + 1) (w2.heap.size + 1 + 1) W2 X) := fun X hX => (Kept.refl _ _ _ _ _).step (by omega) (by omega) hX
    clear y0 y1 y2
    cases R with
    | true =>
      gi_wp2_with ((refine ⟨trivial, (CallsIn.inRound ln (callsIn_w2 (HI.out _ hB3))).mono ?_⟩); rintro e w4 ⟨rfl, hb4⟩)
      refine ⟨HKK.out _ hb4, fun j hj => ?_, blk_below HY2.out hb4, HB3.out.step hb4⟩
      by_cases e : j = k
      · rw [e]; exact HAH.out
      · exact HALL.out j (by omega)
    | false =>
      gi_wp2_with ((refine ⟨trivial, (CallsIn.inRound ln (callsIn_w2 (HI.out _ hB3))).mono ?_⟩); rintro e w4 ⟨rfl, hb4⟩; have y4 := blk_below HY2.out hb4; have c6 := cell_of_one y4; have f6 := free_of_one y4; have HB4 := hid hb4; clear hb4)
      exact ⟨(HKK.out _ HB4.out).setCell hz2 (.inl (by simp)) _, rfl, HAH.out, heap_set_same y4, (HB3.out.step HB4.out).setCell hz2 _⟩
  case done =>
    intro D X hD hI hK
    obtain ⟨hall, hbx, hB⟩ := hI
    have c6 := cell_of_one hbx
    have HE := hid (chain_yes (l := l) (fun j hj => hall j (by rw [HPL.out]; exact hj)))
    clear hall
    simp only [World.size_alloc] at hD
    go_wp2
    refine ret_mark (.inl rfl) hK fun w' hT => ?_
    refine ⟨_, by simp only [results, Try.results36]; go_simp; try rfl, ?_⟩
    exact ⟨ret_bool HE.out.symm, (Stab.below (Nat.le_refl _) (Nat.le_refl _)).turn hB hT (by omega)⟩
  case stop =>
    intro D c k X hD hkN hX hK
    obtain ⟨rfl, hah, hbx, hB⟩ := hX
    have c6 := cell_of_one hbx
    have HE := hid (chain_no (l := l) (k := k) (by rw [HPL.out] at hkN; exact hkN) hah)
    clear hah
    simp only [World.size_alloc] at hD
    go_wp2
    refine ret_mark (.inl rfl) hK fun w' hT => ?_
    refine ⟨_, by simp only [results, Try.results36]; go_simp; try rfl, ?_⟩
    exact ⟨ret_bool HE.out.symm, (Stab.below (Nat.le_refl _) (Nat.le_refl _)).turn hB hT (by omega)⟩
theorem rollRight_any (s : SchD) (l : List CellD) (vd vm v : Value) (w : World) (hd : StrsSl w vd s.ds) (hm : StrsSl w vm s.ms) (td : Texts s.ds) (tm : Texts s.ms) (hv : CellsSl w v l) (ht : ∀ c ∈ l, CellTame c) :
    Calls Try.prog 36 #[.agg #[vd, vm, .int .i64 s.g], v] w fun e w' => e = .returned (.bool (rightB s l)) ∧ Below w.heap.size w w' := by
  have e : rightB s l = ((okSch s && (decide (l.length ≤ 1000) && l.all (cellB s))) && chainB l) := by unfold rightB; simp only [Bool.and_assoc]
  rw [e]
  cases h : (okSch s && (decide (l.length ≤ 1000) && l.all (cellB s))) with
  | true =>
    rw [Bool.true_and]
    exact right_late s l vd vm v w hd hm td tm hv ht h
  | false =>
    rw [Bool.false_and]
    exact right_early s l vd vm v w hd hm td tm hv ht h
end Go.Proofs.Ytdgeinipdphoeaa
/- Rollup: what rows come to is right: plain laws. -/
namespace Go.Proofs.Ytdgeinipdphoeaa
set_option linter.unusedVariables false
set_option linter.unusedSimpArgs false
set_option maxRecDepth 100000
open Go.ChangeShapes Go.WideShapes Go.ChangeAt Go.RowKit

theorem words_exact {n : Int} (h : -170141183460469231731687303715884105728 ≤ n ∧ n ≤ 170141183460469231731687303715884105727) : n = hiW n * 18446744073709551616 + loW n := by
  unfold hiW loW
  omega
theorem cmpI_le {x y : Int} (hx : -170141183460469231731687303715884105728 ≤ x ∧ x ≤ 170141183460469231731687303715884105727) (hy : -170141183460469231731687303715884105728 ≤ y ∧ y ≤ 170141183460469231731687303715884105727) (h : x ≤ y) : decide (cmpI x y ≤ 0) = true := by
  have h1 := words_exact hx
  have h2 := words_exact hy
  have h3 := loW_is x
  have h4 := loW_is y
  unfold cmpI cmpW sgnI
  generalize hiW x = a at *
  generalize loW x = b at *
  generalize hiW y = c at *
  generalize loW y = d at *
  subst h1
  subst h2
  rw [decide_eq_true_eq]
  (repeat' split) <;> omega
theorem mul_few {a k : Int} (ha : I64 a) (h0 : 0 ≤ k) (h1 : k ≤ 1000000) : -9223372036854775808000000 ≤ a * k ∧ a * k ≤ 9223372036854775808000000 := by
  unfold I64 at ha
  have e1 : a * k ≤ 9223372036854775808 * k := Int.mul_le_mul_of_nonneg_right (by omega) h0
  have e2 : -9223372036854775808 * k ≤ a * k := Int.mul_le_mul_of_nonneg_right (by omega) h0
  omega
/-- A sum of n numbers from a to b, both of them among these. -/
structure SumOk (n s a b : Int) : Prop where
  one : 1 ≤ n
  le : a ≤ b
  low : b + a * (n - 1) ≤ s
  high : s ≤ a + b * (n - 1)
  ia : I64 a
  ib : I64 b
theorem SumOk.unit {x : Int} (h : I64 x) : SumOk 1 x x x := ⟨by omega, by omega, by simp, by simp, h, h⟩
theorem SumOk.add {n s a b n' s' a' b' : Int} (h : SumOk n s a b) (k : SumOk n' s' a' b') : SumOk (n + n') (s + s') (min a a') (max b b') := by
  obtain ⟨h1, h2, h3, h4, h5, h6⟩ := h
  obtain ⟨k1, k2, k3, k4, k5, k6⟩ := k
  have l1 : min a a' ≤ a := Int.min_le_left _ _
  have l2 : min a a' ≤ a' := Int.min_le_right _ _
  have u1 : b ≤ max b b' := Int.le_max_left _ _
  have u2 : b' ≤ max b b' := Int.le_max_right _ _
  have m1 : min a a' * (n - 1) ≤ a * (n - 1) := Int.mul_le_mul_of_nonneg_right l1 (by omega)
  have m2 : min a a' * (n' - 1) ≤ a' * (n' - 1) := Int.mul_le_mul_of_nonneg_right l2 (by omega)
  have m3 : b * (n - 1) ≤ max b b' * (n - 1) := Int.mul_le_mul_of_nonneg_right u1 (by omega)
  have m4 : b' * (n' - 1) ≤ max b b' * (n' - 1) := Int.mul_le_mul_of_nonneg_right u2 (by omega)
  have e1 : min a a' * (n + n' - 1) = min a a' * (n - 1) + min a a' * (n' - 1) + min a a' := by
    rw [show n + n' - 1 = (n - 1) + (n' - 1) + 1 by omega, Int.mul_add, Int.mul_add, Int.mul_one]
  have e2 : max b b' * (n + n' - 1) = max b b' * (n - 1) + max b b' * (n' - 1) + max b b' := by
    rw [show n + n' - 1 = (n - 1) + (n' - 1) + 1 by omega, Int.mul_add, Int.mul_add, Int.mul_one]
  have hmin : min a a' = a ∨ min a a' = a' := by omega
  have hmax : max b b' = b ∨ max b b' = b' := by omega
  refine ⟨by omega, by omega, ?_, ?_, ?_, ?_⟩
  · rw [e1]
    generalize min a a' * (n - 1) = p1 at *
    generalize min a a' * (n' - 1) = p2 at *
    generalize a * (n - 1) = p3 at *
    generalize a' * (n' - 1) = p4 at *
    generalize min a a' = p5 at *
    rcases hmax with e | e <;> rw [e] <;> omega
  · rw [e2]
    generalize max b b' * (n - 1) = p1 at *
    generalize max b b' * (n' - 1) = p2 at *
    generalize b * (n - 1) = p3 at *
    generalize b' * (n' - 1) = p4 at *
    generalize max b b' = p5 at *
    rcases hmin with e | e <;> rw [e] <;> omega
  · unfold I64 at *; omega
  · unfold I64 at *; omega
theorem SumOk.sumsB {n s a b : Int} (h : SumOk n s a b) (hn : n ≤ 1000000) : sumsB s n a b = true := by
  obtain ⟨h1, h2, h3, h4, h5, h6⟩ := h
  unfold Go.Proofs.Ytdgeinipdphoeaa.sumsB
  rw [if_neg (by omega)]
  by_cases e : n = 1
  · subst e
    rw [if_pos rfl]
    simp only [Int.sub_self, Int.mul_zero] at h3 h4
    obtain rfl : a = b := by omega
    obtain rfl : s = a := by omega
    simp
  · rw [if_neg e]
    have hw : wrap64 (n - 2) = n - 2 := by unfold wrap64; omega
    have b1 := mul_few (k := n - 1) h5 (by omega) (by omega)
    have b2 := mul_few (k := n - 1) h6 (by omega) (by omega)
    have e1 : a * (n - 2) = a * (n - 1) - a := by rw [show n - 2 = (n - 1) - 1 by omega, Int.mul_sub, Int.mul_one]
    have e2 : b * (n - 2) = b * (n - 1) - b := by rw [show n - 2 = (n - 1) - 1 by omega, Int.mul_sub, Int.mul_one]
    unfold I64 at h5 h6
    rw [hw, e1, e2, cmpI_le (by omega) (by omega) (by omega), cmpI_le (by omega) (by omega) (by omega)]
    rfl
/-- A cell that rows of a schema may come to. -/
structure GoodC (s : SchD) (c : CellD) : Prop where
  fit : fitsS s.ds s.ms s.g c.t c.l s.ms.length = true
  cut : cutV c.t s.g = c.t
  ok : CellOk s.ms.length c
  sums : ∀ j, j < s.ms.length → SumOk c.n (c.sums.getD j 0) (c.mins.getD j 0) (c.maxs.getD j 0)
  one : 1 ≤ c.n
  vals : Vals c.l
theorem cut_cut {t g : Int} (h : isTimeB t = true) (hg : isGrainB g = true) : cutV (cutV t g) g = cutV t g ∧ 0 ≤ cutV t g ∧ cutV t g ≤ t := by
  have h' := (isTimeB_iff t).1 h
  have hg' := (isGrainB_iff g).1 hg
  have hm := Int.emod_nonneg t (show g ≠ 0 by omega)
  have hlt := Int.emod_lt_of_pos t (show 0 < g by omega)
  have hle : t % g ≤ t := by
    have := Int.emod_add_mul_ediv t g
    have : 0 ≤ g * (t / g) := Int.mul_nonneg (by omega) (Int.ediv_nonneg (by omega) (by omega))
    omega
  have e : cutV t g = t - t % g := by unfold cutV; rw [h, hg]; rfl
  have hz : (t - t % g) % g = 0 := by
    rw [Int.sub_emod, Int.emod_emod_of_dvd t (Int.dvd_refl g), Int.sub_self, Int.zero_emod]
  have h2 : isTimeB (t - t % g) = true := (isTimeB_iff _).2 (by omega)
  refine ⟨?_, by rw [e]; omega, by rw [e]; omega⟩
  rw [e]
  unfold cutV
  rw [h2, hg, hz]
  simp
theorem fits_time {s : SchD} {r : RowD} (h : fitsR s r = true) : isTimeB r.t = true ∧ isGrainB s.g = true := by
  unfold fitsR fitsS rightS at h
  simp only [Bool.and_eq_true, decide_eq_true_eq] at h
  obtain ⟨⟨_, _, h1, _⟩, h2, _⟩ := h
  exact ⟨(isTimeB_iff _).2 (by omega), (isGrainB_iff _).2 (by omega)⟩
theorem goodC_of {s : SchD} {r : RowD} (h : fitsR s r = true) (hv : Vals r.l) (hx : ∀ x ∈ r.xs, I64 x) : GoodC s (ofC s r) := by
  obtain ⟨h1, h2⟩ := fits_time h
  obtain ⟨c1, c2, c3⟩ := cut_cut h1 h2
  have hl := (fits_len h).1
  have ht := (isTimeB_iff _).1 h1
  refine ⟨?_, c1, ofC_ok h, fun j hj => ?_, Int.le_refl _, hv⟩
  · have h' := h
    unfold fitsR at h'
    unfold fitsS at h' ⊢
    simp only [Bool.and_eq_true, decide_eq_true_eq] at h' ⊢
    exact ⟨h'.1, ⟨c2, by show cutV r.t s.g ≤ _; omega⟩, h'.2.2.1, trivial, h'.2.2.2.2⟩
  · have hj' : j < r.xs.length := by omega
    show SumOk 1 (r.xs.getD j 0) (r.xs.getD j 0) (r.xs.getD j 0)
    rw [List.getD_eq_getElem?_getD, List.getElem?_eq_getElem hj']
    exact SumOk.unit (hx _ (List.getElem_mem hj'))
theorem zip_getD (f : Int → Int → Int) {a b : List Int} {j : Nat} (ha : j < a.length) (hb : j < b.length) : (List.zipWith f a b).getD j 0 = f (a.getD j 0) (b.getD j 0) := by
  have hz : j < (List.zipWith f a b).length := by simp; omega
  rw [List.getD_eq_getElem?_getD, List.getD_eq_getElem?_getD, List.getD_eq_getElem?_getD, List.getElem?_eq_getElem hz, List.getElem?_eq_getElem ha, List.getElem?_eq_getElem hb, List.getElem_zipWith]
  rfl
theorem GoodC.both {s : SchD} {c d : CellD} (h : GoodC s c) (k : GoodC s d) (h0 : cmpC c d = 0) : GoodC s (bothC c d) := by
  refine ⟨h.fit, h.cut, (cellRule s.ms.length).keep c d h.ok k.ok h0, fun j hj => ?_, ?_, h.vals⟩
  · show SumOk (c.n + d.n) ((List.zipWith (· + ·) c.sums d.sums).getD j 0) ((List.zipWith min c.mins d.mins).getD j 0) ((List.zipWith max c.maxs d.maxs).getD j 0)
    obtain ⟨_, a1, a2, a3⟩ := h.ok
    obtain ⟨_, b1, b2, b3⟩ := k.ok
    rw [zip_getD _ (by omega) (by omega), zip_getD _ (by omega) (by omega), zip_getD _ (by omega) (by omega)]
    exact (h.sums j hj).add (k.sums j hj)
  · have h1 := h.one; have h2 := k.one
    show 1 ≤ c.n + d.n
    omega
theorem puts_goodC {s : SchD} : ∀ {k l : List CellD}, (∀ c ∈ l, GoodC s c) → (∀ c ∈ k, GoodC s c) → ∀ c ∈ puts s.ms.length l k, GoodC s c := by
  intro k
  induction k with
  | nil => intro l hl _; exact hl
  | cons d k ih =>
    intro l hl hk
    refine ih (l := put1 s.ms.length l d) (fun c hc => ?_) (fun c hc => hk c (by simp [hc]))
    rcases Put.put_mem (cellRule s.ms.length) hc with h | ⟨x, hx, h⟩ | ⟨x, hx, h0, h⟩
    · rw [h]; exact hk d (by simp)
    · rw [h]; exact hl x hx
    · rw [h]; exact (hl x hx).both (hk d (by simp)) h0
theorem rollL_good {s : SchD} {rows : List RowD} (hf : ∀ r ∈ rows, fitsR s r = true) (hok : RowsOk rows) : ∀ c ∈ rollL s rows, GoodC s c :=
  puts_goodC (fun c hc => by simp at hc) (fun c hc => by
    obtain ⟨r, hr, rfl⟩ := List.mem_map.1 hc
    exact goodC_of (hf r hr) (hok r hr).1 (hok r hr).2)
theorem GoodC.cellB {s : SchD} {c : CellD} (h : GoodC s c) (hn : c.n ≤ 1000000) : cellB s c = true := by
  obtain ⟨_, a1, a2, a3⟩ := h.ok
  have hf := h.fit
  have hE : cutE c.t s.g = 0 := by
    unfold fitsS rightS at hf
    simp only [Bool.and_eq_true, decide_eq_true_eq] at hf
    obtain ⟨⟨_, _, h1, _⟩, h2, _⟩ := hf
    unfold cutE
    rw [(isTimeB_iff _).2 (by omega), (isGrainB_iff _).2 (by omega)]
    rfl
  have h1 := h.one
  unfold Go.Proofs.Ytdgeinipdphoeaa.cellB cellH fitsC
  rw [hE, h.cut, a1, a2, a3, h.fit, sumsAll_yes (fun j hj => (h.sums j (by omega)).sumsB hn)]
  simp
  omega
theorem GoodC.tame {s : SchD} {c : CellD} (h : GoodC s c) : CellTame c := by
  obtain ⟨_, a1, a2, a3⟩ := h.ok
  refine ⟨h.vals, fun x hx => ?_, fun x hx => ?_⟩
  · obtain ⟨j, hj, rfl⟩ := List.mem_iff_getElem.1 hx
    have := (h.sums j (by omega)).ia
    rw [List.getD_eq_getElem?_getD, List.getElem?_eq_getElem hj] at this
    exact this
  · obtain ⟨j, hj, rfl⟩ := List.mem_iff_getElem.1 hx
    have := (h.sums j (by omega)).ib
    rw [List.getD_eq_getElem?_getD, List.getElem?_eq_getElem hj] at this
    exact this
theorem chain_sorted {l : List CellD} (h : l.Pairwise fun a b => cmpC a b < 0) : chainB l = true := by
  refine chain_yes fun j hj => ?_
  have h1 : j < l.length := by omega
  have h2 : j + 1 < l.length := by omega
  unfold aheadAt
  rw [List.getD_eq_getElem?_getD, List.getElem?_eq_getElem h1, List.getD_eq_getElem?_getD, List.getElem?_eq_getElem h2]
  exact ahead_neg.2 ((List.pairwise_iff_getElem.1 h) j (j + 1) h1 h2 (by omega))
theorem ends_parts {l : List CellD} (h : endsB l = true) : l.length ≤ 1000 ∧ ∀ c ∈ l, c.n ≤ 1000000 := by
  unfold endsB at h
  simp only [Bool.and_eq_true, decide_eq_true_eq, Bool.not_eq_true'] at h
  refine ⟨h.1, fun c hc => ?_⟩
  have := List.any_eq_false.1 h.2 c hc
  unfold manyB at this
  simp at this
  exact this
theorem right_good {s : SchD} {l : List CellD} (h1 : okSch s = true) (h2 : ∀ c ∈ l, GoodC s c) (h3 : Rolled s.ms.length l) (h4 : endsB l = true) : rightB s l = true := by
  obtain ⟨h5, h6⟩ := ends_parts h4
  unfold rightB
  rw [h1, chain_sorted h3.sorted, List.all_eq_true.2 (fun c hc => (h2 c hc).cellB (h6 c hc))]
  simp [h5]
theorem rightB_roll {s : SchD} {rows : List RowD} (hE : rollE s rows = 0) (hok : RowsOk rows) : rightB s (rollL s rows) = true := by
  obtain ⟨h1, h2, h3⟩ := rollE_ok hE
  exact right_good h1 (rollL_good h2 hok) (rollL_rolled h2) h3
theorem rollL_perm {s : SchD} {rows rows' : List RowD} (hp : rows.Perm rows') (hf : ∀ r ∈ rows, fitsR s r = true) : rollL s rows = rollL s rows' := by
  refine Put.puts_perm (cellRule s.ms.length) (hp.map _) (fun c hc => by simp at hc) (fun c hc => ?_)
  obtain ⟨r, hr, rfl⟩ := List.mem_map.1 hc
  exact ofC_ok (hf r hr)
theorem rollE_perm {s : SchD} {rows rows' : List RowD} (hp : rows.Perm rows') : rollE s rows = rollE s rows' := by
  have ha : rows.all (fitsR s) = rows'.all (fitsR s) := by
    rw [Bool.eq_iff_iff, List.all_eq_true, List.all_eq_true]
    exact ⟨fun h r hr => h r (hp.mem_iff.2 hr), fun h r hr => h r (hp.mem_iff.1 hr)⟩
  unfold rollE
  rw [← ha]
  by_cases h : rows.all (fitsR s) = true
  · rw [rollL_perm hp (List.all_eq_true.1 h)]
  · rw [if_neg h, if_neg h]
theorem outL_perm {s : SchD} {rows rows' : List RowD} (hp : rows.Perm rows') : outL s rows = outL s rows' := by
  unfold outL
  rw [← rollE_perm hp]
  by_cases h : rollE s rows = 0
  · rw [if_pos h, if_pos h, rollL_perm hp (rollE_ok h).2.1]
  · rw [if_neg h, if_neg h]
/-- The counts, as numbers of a machine. -/
theorem countW_from : ∀ (l : List CellD) (a : Int), NonNeg l → 0 ≤ a → a + countT l ≤ 9223372036854775807 → l.foldl (fun s c => wrap64 (s + c.n)) a = a + countT l
  | [], a, _, _, _ => by simp [countT, Put.total]
  | c :: l, a, h, h0, h1 => by
    have hn : NonNeg l := fun x hx => h x (by simp [hx])
    have h2 := h c (by simp)
    have h3 := countT_nonneg hn
    have e : countT (c :: l) = c.n + countT l := rfl
    rw [e] at h1
    have hw : wrap64 (a + c.n) = a + c.n := by unfold wrap64; omega
    rw [List.foldl_cons, hw, countW_from l (a + c.n) hn (by omega) (by omega), e]
    omega
theorem countW_is {l : List CellD} (h : NonNeg l) (h1 : countT l ≤ 9223372036854775807) : countW l = countT l := by
  unfold countW
  rw [countW_from l 0 h (by omega) (by omega)]
  omega
theorem rollL_count (s : SchD) (rows : List RowD) : countT (rollL s rows) = rows.length := by
  unfold rollL
  rw [countT_puts, countT_ofC]
  have : countT [] = 0 := rfl
  omega
end Go.Proofs.Ytdgeinipdphoeaa
/- Rollup: cells merged, by the program. -/
namespace Go.Proofs.Ytdgeinipdphoeaa
set_option linter.unusedVariables false
set_option linter.unusedSimpArgs false
set_option maxRecDepth 100000
open Go.ChangeShapes Go.WideShapes Go.ChangeAt Go.RowKit

theorem pairwise_adj (m : Nat) : ∀ {l : List CellD}, (∀ j (h : j + 1 < l.length), cmpC l[j] l[j + 1] < 0) → l.Pairwise fun a b => cmpC a b < 0
  | [], _ => List.Pairwise.nil
  | [x], _ => List.pairwise_singleton _ _
  | x :: y :: l, h => by
    have ih := pairwise_adj m (l := y :: l) (fun j hj => by have := h (j + 1) (by simp at hj ⊢; omega); simpa using this)
    have hxy : cmpC x y < 0 := by have := h 0 (by simp); simpa using this
    refine List.pairwise_cons.2 ⟨fun z hz => ?_, ih⟩
    rcases List.mem_cons.1 hz with rfl | hz
    · exact hxy
    · exact (cellRule m).lt x y z hxy ((List.pairwise_cons.1 ih).1 z hz)
theorem chain_adj {l : List CellD} (h : chainB l = true) : ∀ j (h : j + 1 < l.length), cmpC l[j] l[j + 1] < 0 := by
  intro j hj
  unfold chainB at h
  have := List.all_eq_true.1 h j (by simp; omega)
  unfold aheadAt at this
  rw [List.getD_eq_getElem?_getD, List.getElem?_eq_getElem (by omega), List.getD_eq_getElem?_getD, List.getElem?_eq_getElem hj] at this
  exact ahead_neg.1 this
theorem cellB_ok {s : SchD} {c : CellD} (h : cellB s c = true) : CellOk s.ms.length c ∧ 1 ≤ c.n ∧ c.n ≤ 1000000 ∧ c.l.length ≤ 6 ∧ (∀ v ∈ c.l, v.s.size ≤ 100) ∧ s.ms.length ≤ 4 := by
  unfold cellB at h
  rw [Bool.and_eq_true] at h
  obtain ⟨_, _, h1, h2, h3, h4, h5⟩ := cellB_parts h.1
  unfold fitsC fitsS rightS at h3
  simp only [Bool.and_eq_true, decide_eq_true_eq] at h3
  obtain ⟨⟨g1, g2, _⟩, _, g3, g4, g5⟩ := h3
  have hall := List.all_eq_true.1 g5
  refine ⟨⟨hall, by omega, by omega, by omega⟩, h1, h2, by omega, fun v hv => ?_, g2⟩
  have := hall v hv
  unfold okV valB at this
  simp only [Bool.and_eq_true, decide_eq_true_eq] at this
  exact this.1
structure RightL (s : SchD) (l : List CellD) : Prop where
  sch : okSch s = true
  len : l.length ≤ 1000
  rolled : Rolled s.ms.length l
  each : ∀ c ∈ l, CellOk s.ms.length c ∧ 1 ≤ c.n ∧ c.n ≤ 1000000 ∧ c.l.length ≤ 6 ∧ (∀ v ∈ c.l, v.s.size ≤ 100) ∧ s.ms.length ≤ 4
theorem right_parts {s : SchD} {l : List CellD} (h : rightB s l = true) : RightL s l := by
  unfold rightB at h
  simp only [Bool.and_eq_true, decide_eq_true_eq] at h
  obtain ⟨h1, h2, h3, h4⟩ := h
  have he : ∀ c ∈ l, _ := fun c hc => cellB_ok (List.all_eq_true.1 h3 c hc)
  exact ⟨h1, h2, ⟨pairwise_adj s.ms.length (chain_adj h4), fun c hc => (he c hc).1, fun c hc => by have := (he c hc).2.1; omega⟩, he⟩
theorem countT_le {K : Int} (h0 : 0 ≤ K) : ∀ {l : List CellD}, (∀ c ∈ l, c.n ≤ K) → countT l ≤ K * l.length
  | [], _ => by simp [countT, Put.total]
  | c :: l, h => by
    have h1 := h c (by simp)
    have h2 := countT_le h0 (l := l) (fun x hx => h x (by simp [hx]))
    have e : countT (c :: l) = c.n + countT l := rfl
    have e2 : K * ((c :: l).length : Int) = K * (l.length : Int) + K := by rw [List.length_cons, Int.natCast_succ, Int.mul_add, Int.mul_one]
    rw [e, e2]
    omega
theorem RightL.count {s : SchD} {l : List CellD} (h : RightL s l) : countT l ≤ 1000000000 := by
  have h1 := countT_le (K := 1000000) (by omega) (fun c hc => (h.each c hc).2.2.1)
  have h2 := h.len
  omega
theorem RightL.self {s : SchD} {l : List CellD} (h : RightL s l) : puts s.ms.length [] l = l := Put.puts_nil (cellRule s.ms.length) h.rolled.sorted
def mergeL (s : SchD) (a b : List CellD) : List CellD := puts s.ms.length a b
def mergeE (s : SchD) (a b : List CellD) : Int := if okSch s = true then (if rightB s a = true then (if rightB s b = true then (if endsB (mergeL s a b) = true then 0 else 121) else 120) else 120) else 100
def outM (s : SchD) (a b : List CellD) : List CellD := if mergeE s a b = 0 then mergeL s a b else []
theorem merge_bad (s : SchD) (a b : List CellD) (vd vm va vb : Value) (w : World) (hd : StrsSl w vd s.ds) (hm : StrsSl w vm s.ms) (td : Texts s.ds) (tm : Texts s.ms) (ha : CellsSl w va a) (hb : CellsSl w vb b) (ta : ∀ c ∈ a, CellTame c) (tb : ∀ c ∈ b, CellTame c) (hbad : ¬ (rightB s a = true ∧ rightB s b = true)) :
    Calls Try.prog 37 #[.agg #[vd, vm, .int .i64 s.g], va, vb] w (OutPost w [] (mergeE s a b)) := by
  have HR := hid (fun W (h : Below w.heap.size w W) => right_any vd vm s.ds s.ms s.g W (hd.below h) (hm.below h) td tm)
  have HA := hid (fun W (h : Below w.heap.size w W) => rollRight_any s a vd vm va W (hd.below h) (hm.below h) td tm (ha.below h) ta)
  have HB := hid (fun W (h : Below w.heap.size w W) => rollRight_any s b vd vm vb W (hd.below h) (hm.below h) td tm (hb.below h) tb)
  obtain ⟨ad, cd, rfl, _, _, _⟩ := SlAt.shape hd
  obtain ⟨am, cm, rfl, _, _, _⟩ := SlAt.shape hm
  obtain ⟨ao, cap, rfl, _, _, _⟩ := ha.shape
  obtain ⟨bo, bap, rfl, _, _, _⟩ := hb.shape
  clear hd hm td tm ha hb ta tb
  cases h0 : okSch s with
  | false =>
    have HE : Hid (mergeE s a b = 100) := by unfold Hid mergeE; rw [h0]; rfl
    have h0' : rightS s.ds s.ms s.g = false := h0
    rw [h0'] at HR
    clear h0 h0' hbad
    go_enter Try.func37, Try.ntmps37
    go_wp2_with (go_at_call 21; go_loud ((with_reducible refine (HR.out _ (by (repeat' (first | (with_reducible exact Below.refl _ _) | (with_reducible assumption) | (with_reducible refine Below.new ?_ _) | (with_reducible refine Below.alloc ?_ ?_ _) | (with_reducible refine Below.drew ?_) | (with_reducible refine Below.drewN ?_ _) | (with_reducible refine Below.setCell ?_ ?_ _) | (refine Below.step ?_ (by assumption)) | go_size)))).mono ?_); rintro e w1 ⟨rfl, hb1⟩))
    go_ret2
    exact ⟨.slice none 0 0, by rw [HE.out]; rfl, ElemsSl.nil _, by (repeat' (first | (with_reducible exact Below.refl _ _) | (with_reducible assumption) | (with_reducible refine Below.new ?_ _) | (with_reducible refine Below.alloc ?_ ?_ _) | (with_reducible refine Below.drew ?_) | (with_reducible refine Below.drewN ?_ _) | (with_reducible refine Below.setCell ?_ ?_ _) | (refine Below.step ?_ (by assumption)) | go_size))⟩
  | true =>
    have h0' : rightS s.ds s.ms s.g = true := h0
    rw [h0'] at HR
    cases h1 : rightB s a with
    | false =>
      have HE : Hid (mergeE s a b = 120) := by unfold Hid mergeE; rw [h0, h1]; rfl
      rw [h1] at HA
      clear h0 h0' h1 hbad
      go_enter Try.func37, Try.ntmps37
      go_wp2_with (first
        | (go_at_call 21; go_loud ((with_reducible refine (HR.out _ (by (repeat' (first | (with_reducible exact Below.refl _ _) | (with_reducible assumption) | (with_reducible refine Below.new ?_ _) | (with_reducible refine Below.alloc ?_ ?_ _) | (with_reducible refine Below.drew ?_) | (with_reducible refine Below.drewN ?_ _) | (with_reducible refine Below.setCell ?_ ?_ _) | (refine Below.step ?_ (by assumption)) | go_size)))).mono ?_); rintro e w1 ⟨rfl, hb1⟩; obtain ⟨hc1, hf1, hk1, hz1⟩ := bcell3 hb1; (try simp only [World.size_alloc, World.size_drew] at hz1); have : w.heap.size < w1.heap.size := (by omega)))
        | (go_at_call 36; go_loud ((with_reducible refine (HA.out _ (by (repeat' (first | (with_reducible exact Below.refl _ _) | (with_reducible assumption) | (with_reducible refine Below.new ?_ _) | (with_reducible refine Below.alloc ?_ ?_ _) | (with_reducible refine Below.drew ?_) | (with_reducible refine Below.drewN ?_ _) | (with_reducible refine Below.setCell ?_ ?_ _) | (refine Below.step ?_ (by assumption)) | go_size)))).mono ?_); rintro e w2 ⟨rfl, hb2⟩)))
      go_ret2
      exact ⟨.slice none 0 0, by rw [HE.out]; rfl, ElemsSl.nil _, by (repeat' (first | (with_reducible exact Below.refl _ _) | (with_reducible assumption) | (with_reducible refine Below.new ?_ _) | (with_reducible refine Below.alloc ?_ ?_ _) | (with_reducible refine Below.drew ?_) | (with_reducible refine Below.drewN ?_ _) | (with_reducible refine Below.setCell ?_ ?_ _) | (refine Below.step ?_ (by assumption)) | go_size))⟩
    | true =>
      cases h2 : rightB s b with
      | true => exact absurd ⟨h1, h2⟩ hbad
      | false =>
        have HE : Hid (mergeE s a b = 120) := by unfold Hid mergeE; rw [h0, h1, h2]; rfl
        rw [h1] at HA
        rw [h2] at HB
        clear h0 h0' h1 h2 hbad
        go_enter Try.func37, Try.ntmps37
        go_wp2_with (go_at_call 21; go_loud ((with_reducible refine (HR.out _ (by (repeat' (first | (with_reducible exact Below.refl _ _) | (with_reducible assumption) | (with_reducible refine Below.new ?_ _) | (with_reducible refine Below.alloc ?_ ?_ _) | (with_reducible refine Below.drew ?_) | (with_reducible refine Below.drewN ?_ _) | (with_reducible refine Below.setCell ?_ ?_ _) | (refine Below.step ?_ (by assumption)) | go_size)))).mono ?_); rintro e w1 ⟨rfl, hb1⟩; obtain ⟨hc1, hf1, hk1, hz1⟩ := bcell3 hb1; (try simp only [World.size_alloc, World.size_drew] at hz1); have : w.heap.size < w1.heap.size := (by omega)))
        refine (HA.out _ (by (repeat' (first | (with_reducible exact Below.refl _ _) | (with_reducible assumption) | (with_reducible refine Below.new ?_ _) | (with_reducible refine Below.alloc ?_ ?_ _) | (with_reducible refine Below.drew ?_) | (with_reducible refine Below.drewN ?_ _) | (with_reducible refine Below.setCell ?_ ?_ _) | (refine Below.step ?_ (by assumption)) | go_size)))).mono ?_
        rintro e w2 ⟨rfl, hb2⟩
        obtain ⟨hc2, hf2, hk2, hz2⟩ := bcell3 hb2; (try simp only [World.size_alloc, World.size_drew] at hz2)
        have : w.heap.size < w2.heap.size := (by omega)
        go_wp2_with fail
        refine (HB.out _ (by (repeat' (first | (with_reducible exact Below.refl _ _) | (with_reducible assumption) | (with_reducible refine Below.new ?_ _) | (with_reducible refine Below.alloc ?_ ?_ _) | (with_reducible refine Below.drew ?_) | (with_reducible refine Below.drewN ?_ _) | (with_reducible refine Below.setCell ?_ ?_ _) | (refine Below.step ?_ (by assumption)) | go_size)))).mono ?_
        rintro e w3 ⟨rfl, hb3⟩
        go_wp2_with fail
        go_ret2
        exact ⟨.slice none 0 0, by rw [HE.out]; rfl, ElemsSl.nil _, by (repeat' (first | (with_reducible exact Below.refl _ _) | (with_reducible assumption) | (with_reducible refine Below.new ?_ _) | (with_reducible refine Below.alloc ?_ ?_ _) | (with_reducible refine Below.drew ?_) | (with_reducible refine Below.drewN ?_ _) | (with_reducible refine Below.setCell ?_ ?_ _) | (refine Below.step ?_ (by assumption)) | go_size))⟩
theorem mergeL_rolled {s : SchD} {a b : List CellD} (ha : RightL s a) (hb : RightL s b) : Rolled s.ms.length (mergeL s a b) := ha.rolled.puts hb.rolled.all hb.rolled.nonneg
set_option maxHeartbeats 2000000 in
theorem merge_good (s : SchD) (a b : List CellD) (vd vm va vb : Value) (w : World) (hd : StrsSl w vd s.ds) (hm : StrsSl w vm s.ms) (td : Texts s.ds) (tm : Texts s.ms) (ha : CellsSl w va a) (hb : CellsSl w vb b) (ta : ∀ c ∈ a, CellTame c) (tb : ∀ c ∈ b, CellTame c) (h1 : rightB s a = true) (h2 : rightB s b = true) :
    Calls Try.prog 37 #[.agg #[vd, vm, .int .i64 s.g], va, vb] w (OutPost w (outM s a b) (mergeE s a b)) := by
  have HR := hid (fun W (h : Below w.heap.size w W) => right_any vd vm s.ds s.ms s.g W (hd.below h) (hm.below h) td tm)
  have HA := hid (fun W (h : Below w.heap.size w W) => rollRight_any s a vd vm va W (hd.below h) (hm.below h) td tm (ha.below h) ta)
  have HB := hid (fun W (h : Below w.heap.size w W) => rollRight_any s b vd vm vb W (hd.below h) (hm.below h) td tm (hb.below h) tb)
  have ra := right_parts h1
  have rb := right_parts h2
  have h0 := ra.sch
  have h0' : rightS s.ds s.ms s.g = true := h0
  have hm4 := okSch_four h0
  have HE : Hid (mergeE s a b = if endsB (mergeL s a b) = true then 0 else 121) := by unfold Hid mergeE; rw [h0, h1, h2]; rfl
  rw [h0'] at HR
  rw [h1] at HA
  rw [h2] at HB
  have HP1 := hid (fun W (h : Below w.heap.size w W) => rput_any s.ms.length W W (.slice none 0 0) va [] a (Below.refl _ _) (OwnCs.nil _ _) (ha.below h) (Rolled.nil _) ra.rolled.all ra.rolled.nonneg (fun c hc => by have := (ra.each c hc).2.2.2.1; omega) (by omega) (by have := ra.len; simp; omega) (by have := ra.count; show (0 : Int) + countT a ≤ _; omega))
  have HP2 := hid (fun W0 W v ps (h : Below w.heap.size w W0) (hw : Below W0.heap.size W0 W) (ho : OwnCs W W0.heap.size v ps) (hc : cellsP ps = a) => rput_any s.ms.length W0 W v vb ps b hw ho (hb.below h) (by rw [hc]; exact ra.rolled) rb.rolled.all rb.rolled.nonneg (fun c hc => by have := (rb.each c hc).2.2.2.1; omega) (by omega)
    (by have h1 := ra.len; have h2 := rb.len; have h3 : ps.length = a.length := (by rw [← hc]; simp [cellsP]); omega) (by have h1 := ra.count; have h2 := rb.count; rw [hc]; omega))
  have HML : Hid ((mergeL s a b).length ≤ 2000) := by
    have h1 : (mergeL s a b).length ≤ a.length + b.length := (Put.puts_len (cellRule s.ms.length) a b).2
    have h2 := ra.len; have h3 := rb.len
    unfold Hid
    omega
  have HSF := hid ra.self
  obtain ⟨ad, cd, rfl, _, _, _⟩ := SlAt.shape hd
  obtain ⟨am, cm, rfl, _, _, _⟩ := SlAt.shape hm
  obtain ⟨ao, cap, rfl, _, _, _⟩ := ha.shape
  obtain ⟨bo, bap, rfl, _, _, _⟩ := hb.shape
  clear hd hm td tm ha hb ta tb h0 h0' h1 h2 ra rb
  go_enter Try.func37, Try.ntmps37
  go_wp2_with (go_at_call 21; go_loud ((with_reducible refine (HR.out _ (by (repeat' (first | (with_reducible exact Below.refl _ _) | (with_reducible assumption) | (with_reducible refine Below.new ?_ _) | (with_reducible refine Below.alloc ?_ ?_ _) | (with_reducible refine Below.drew ?_) | (with_reducible refine Below.drewN ?_ _) | (with_reducible refine Below.setCell ?_ ?_ _) | (refine Below.step ?_ (by assumption)) | go_size)))).mono ?_); rintro e w1 ⟨rfl, hb1⟩; obtain ⟨hc1, hf1, hk1, hz1⟩ := bcell3 hb1; (try simp only [World.size_alloc, World.size_drew] at hz1); have : w.heap.size < w1.heap.size := (by omega)))
  refine (HA.out _ (by (repeat' (first | (with_reducible exact Below.refl _ _) | (with_reducible assumption) | (with_reducible refine Below.new ?_ _) | (with_reducible refine Below.alloc ?_ ?_ _) | (with_reducible refine Below.drew ?_) | (with_reducible refine Below.drewN ?_ _) | (with_reducible refine Below.setCell ?_ ?_ _) | (refine Below.step ?_ (by assumption)) | go_size)))).mono ?_
  rintro e w2 ⟨rfl, hb2⟩
  obtain ⟨hc2, hf2, hk2, hz2⟩ := bcell3 hb2; (try simp only [World.size_alloc, World.size_drew] at hz2)
  have : w.heap.size < w2.heap.size := (by omega)
  go_wp2_with fail
  refine (HB.out _ (by (repeat' (first | (with_reducible exact Below.refl _ _) | (with_reducible assumption) | (with_reducible refine Below.new ?_ _) | (with_reducible refine Below.alloc ?_ ?_ _) | (with_reducible refine Below.drew ?_) | (with_reducible refine Below.drewN ?_ _) | (with_reducible refine Below.setCell ?_ ?_ _) | (refine Below.step ?_ (by assumption)) | go_size)))).mono ?_
  rintro e w3 ⟨rfl, hb3⟩
  have hB3 : Below w.heap.size w w3 := by (repeat' (first | (with_reducible exact Below.refl _ _) | (with_reducible assumption) | (with_reducible refine Below.new ?_ _) | (with_reducible refine Below.alloc ?_ ?_ _) | (with_reducible refine Below.drew ?_) | (with_reducible refine Below.drewN ?_ _) | (with_reducible refine Below.setCell ?_ ?_ _) | (refine Below.step ?_ (by assumption)) | go_size))
  have HB3 := hid hB3
  clear hb1 hb2 hb3 hc1 hf1 hk1 hz1 hc2 hf2 hk2 hz2 hB3 HR HA HB
  go_wp2_with fail
  refine (HP1.out _ HB3.out).mono ?_
  rintro e w4 ⟨v4, ps4, rfl, ho4, hc4, hb4⟩
  have hc4' : cellsP ps4 = a := by rw [hc4]; exact HSF.out
  go_wp2_with fail
  have h2 := HP2.out w3 w4 v4 ps4 HB3.out hb4 ho4 hc4'
  rw [hc4'] at h2
  refine h2.mono ?_
  rintro e w5 ⟨v5, ps5, rfl, ho5, hc5, hb5⟩
  have his := ho5.is
  rw [hc5] at his
  have hen := rollEnds_any v5 (mergeL s a b) w5 his (by have := HML.out; omega)
  have HI := hid his; have HEN := hid hen
  have HBW := hid (HB3.out.step hb5)
  clear ho4 hc4 hb4 hc4' h2 ho5 hc5 hb5 his hen
  cases hcase : endsB (mergeL s a b) with
  | true =>
    rw [hcase] at HEN HE
    have HO : Hid (outM s a b = mergeL s a b) := by unfold Hid outM; rw [HE.out]; rfl
    clear hcase
    go_wp2_with (go_at_call 56; go_loud ((with_reducible refine HEN.out.mono ?_); rintro e w6 ⟨rfl, hb6⟩; have HB6 := hid hb6; clear hb6))
    go_ret2
    exact ⟨v5, by rw [HE.out]; rfl, by rw [HO.out]; exact HI.out.below HB6.out, HBW.out.step HB6.out⟩
  | false =>
    rw [hcase] at HEN HE
    have HO : Hid (outM s a b = []) := by unfold Hid outM; rw [HE.out]; rfl
    clear hcase
    go_wp2_with (go_at_call 56; go_loud ((with_reducible refine HEN.out.mono ?_); rintro e w6 ⟨rfl, hb6⟩; have HB6 := hid hb6; clear hb6))
    go_ret2
    exact ⟨.slice none 0 0, by rw [HE.out]; rfl, by rw [HO.out]; exact ElemsSl.nil _, HBW.out.step HB6.out⟩
theorem merge_out (s : SchD) (a b : List CellD) (vd vm va vb : Value) (w : World) (hd : StrsSl w vd s.ds) (hm : StrsSl w vm s.ms) (td : Texts s.ds) (tm : Texts s.ms) (ha : CellsSl w va a) (hb : CellsSl w vb b) (ta : ∀ c ∈ a, CellTame c) (tb : ∀ c ∈ b, CellTame c) :
    Calls Try.prog 37 #[.agg #[vd, vm, .int .i64 s.g], va, vb] w (OutPost w (outM s a b) (mergeE s a b)) := by
  by_cases h : rightB s a = true ∧ rightB s b = true
  · exact merge_good s a b vd vm va vb w hd hm td tm ha hb ta tb h.1 h.2
  · have e : outM s a b = [] := by
      unfold outM
      rw [if_neg]
      intro h0
      unfold mergeE at h0
      split at h0
      · split at h0
        · split at h0
          · exact h ⟨by assumption, by assumption⟩
          · cases h0
        · cases h0
      · cases h0
    rw [e]
    exact merge_bad s a b vd vm va vb w hd hm td tm ha hb ta tb h
end Go.Proofs.Ytdgeinipdphoeaa
/- Rollup: a row added, by the program. -/
namespace Go.Proofs.Ytdgeinipdphoeaa
set_option linter.unusedVariables false
set_option linter.unusedSimpArgs false
set_option maxRecDepth 100000
open Go.ChangeShapes Go.WideShapes Go.ChangeAt Go.RowKit

def addL (s : SchD) (l : List CellD) (r : RowD) : List CellD := put1 s.ms.length l (ofC s r)
def addE (s : SchD) (l : List CellD) (r : RowD) : Int := if okSch s = true then (if rightB s l = true then (if fitsR s r = true then (if endsB (addL s l r) = true then 0 else 121) else 101) else 120) else 100
def outA (s : SchD) (l : List CellD) (r : RowD) : List CellD := if addE s l r = 0 then addL s l r else []
theorem cells_new1 {w : World} {c : CellD} {t n vl vs vm vx : Value} (h : CellIs w [t, vl, n, vs, vm, vx] c) : CellsSl (w.alloc (.cells #[t, vl, n, vs, vm, vx] 46)) (.slice (some ⟨w.heap.size, 0, none⟩) 1 1) [c] := by
  refine ⟨some ⟨w.heap.size, 0, none⟩, 1, rfl, Nat.le_refl _, by unfold maxLen; omega, (fun h => by cases h), fun _ => ⟨w.heap.size, 0, rfl, fun i hi => ?_⟩⟩
  have h0 : i = 0 := by simpa using hi
  subst h0
  refine ⟨[t, vl, n, vs, vm, vx], rfl, h.below ((Below.refl _ _).new _), fun j u hj => ?_⟩
  obtain ⟨c0, c1, c2, c3, c4, c5⟩ := six_at (heap_at (w := w) (o := .cells #[t, vl, n, vs, vm, vx] 46) rfl)
  match j, hj with
  | 0, hj => simp at hj; subst hj; exact c0
  | 1, hj => simp at hj; subst hj; exact c1
  | 2, hj => simp at hj; subst hj; exact c2
  | 3, hj => simp at hj; subst hj; exact c3
  | 4, hj => simp at hj; subst hj; exact c4
  | 5, hj => simp at hj; subst hj; exact c5
set_option maxHeartbeats 2000000 in
theorem add_bad (s : SchD) (l : List CellD) (r : RowD) (vd vm v vl vn : Value) (w : World) (hd : StrsSl w vd s.ds) (hm : StrsSl w vm s.ms) (td : Texts s.ds) (tm : Texts s.ms) (hv : CellsSl w v l) (ht : ∀ c ∈ l, CellTame c) (hl : ValsSl w vl r.l) (tl : Vals r.l) (hn : IntsSl w vn r.xs) (hx : ∀ x ∈ r.xs, I64 x)
    (hbad : ¬ (rightB s l = true ∧ fitsR s r = true)) :
    Calls Try.prog 38 #[.agg #[vd, vm, .int .i64 s.g], v, .agg #[.int .i64 r.t, vl, vn]] w (OutPost w [] (addE s l r)) := by
  have HR := hid (fun W (h : Below w.heap.size w W) => right_any vd vm s.ds s.ms s.g W (hd.below h) (hm.below h) td tm)
  have HA := hid (fun W (h : Below w.heap.size w W) => rollRight_any s l vd vm v W (hd.below h) (hm.below h) td tm (hv.below h) ht)
  have HO := hid (fun W (h : Below w.heap.size w W) => rollOf_any s r vd vm vl vn W (hd.below h) (hm.below h) td tm (hl.below h) tl (hn.below h) hx)
  obtain ⟨ad, cd, rfl, _, _, _⟩ := SlAt.shape hd
  obtain ⟨am, cm, rfl, _, _, _⟩ := SlAt.shape hm
  obtain ⟨al, cl, rfl, _, _, _⟩ := SlAt.shape hl
  obtain ⟨an, cn, rfl, _, _, _⟩ := SlAt.shape hn
  obtain ⟨ao, cap, rfl, _, _, _⟩ := hv.shape
  clear hd hm td tm hv ht hl tl hn hx
  cases h0 : okSch s with
  | false =>
    have HE : Hid (addE s l r = 100) := by unfold Hid addE; rw [h0]; rfl
    have h0' : rightS s.ds s.ms s.g = false := h0
    rw [h0'] at HR
    clear h0 h0' hbad
    go_enter Try.func38, Try.ntmps38
    go_wp2
    refine wp_scope_fwd ?_
    go_wp2_with (go_at_call 21; go_loud ((with_reducible refine (HR.out _ (by (repeat' (first | (with_reducible exact Below.refl _ _) | (with_reducible assumption) | (with_reducible refine Below.new ?_ _) | (with_reducible refine Below.alloc ?_ ?_ _) | (with_reducible refine Below.drew ?_) | (with_reducible refine Below.drewN ?_ _) | (with_reducible refine Below.setCell ?_ ?_ _) | (refine Below.step ?_ (by assumption)) | go_size)))).mono ?_); rintro e w1 ⟨rfl, hb1⟩))
    (refine wp_goto ?_; go_step; refine jumpFwd_goto rfl ?_; go_wp2)
    (first | rw [jumpFwd_ret] | rw [Exit.noGoto_ret] | skip); ((show bodyPost _ _ _ _ _ _); refine bodyPost_ret (by simp only [results, Try.results38]; go_simp; try rfl) rfl ?_)
    exact ⟨.slice none 0 0, by rw [HE.out], ElemsSl.nil _, by (repeat' (first | (with_reducible exact Below.refl _ _) | (with_reducible assumption) | (with_reducible refine Below.new ?_ _) | (with_reducible refine Below.alloc ?_ ?_ _) | (with_reducible refine Below.drew ?_) | (with_reducible refine Below.drewN ?_ _) | (with_reducible refine Below.setCell ?_ ?_ _) | (refine Below.step ?_ (by assumption)) | go_size))⟩
  | true =>
    have h0' : rightS s.ds s.ms s.g = true := h0
    rw [h0'] at HR
    cases h1 : rightB s l with
    | false =>
      have HE : Hid (addE s l r = 120) := by unfold Hid addE; rw [h0, h1]; rfl
      rw [h1] at HA
      clear h0 h0' h1 hbad
      go_enter Try.func38, Try.ntmps38
      go_wp2
      refine wp_scope_fwd ?_
      go_wp2_with (first
        | (go_at_call 21; go_loud ((with_reducible refine (HR.out _ (by (repeat' (first | (with_reducible exact Below.refl _ _) | (with_reducible assumption) | (with_reducible refine Below.new ?_ _) | (with_reducible refine Below.alloc ?_ ?_ _) | (with_reducible refine Below.drew ?_) | (with_reducible refine Below.drewN ?_ _) | (with_reducible refine Below.setCell ?_ ?_ _) | (refine Below.step ?_ (by assumption)) | go_size)))).mono ?_); rintro e w1 ⟨rfl, hb1⟩; obtain ⟨hc1, hf1, hk1, hz1⟩ := bcell3 hb1; (try simp only [World.size_alloc, World.size_drew] at hz1); have : w.heap.size < w1.heap.size := (by omega); have : w.heap.size + 1 < w1.heap.size := (by omega); have : w.heap.size + 1 + 1 < w1.heap.size := (by omega)))
        | (go_at_call 36; go_loud ((with_reducible refine (HA.out _ (by (repeat' (first | (with_reducible exact Below.refl _ _) | (with_reducible assumption) | (with_reducible refine Below.new ?_ _) | (with_reducible refine Below.alloc ?_ ?_ _) | (with_reducible refine Below.drew ?_) | (with_reducible refine Below.drewN ?_ _) | (with_reducible refine Below.setCell ?_ ?_ _) | (refine Below.step ?_ (by assumption)) | go_size)))).mono ?_); rintro e w2 ⟨rfl, hb2⟩)))
      (refine wp_goto ?_; go_step; refine jumpFwd_goto rfl ?_; go_wp2)
      (first | rw [jumpFwd_ret] | rw [Exit.noGoto_ret] | skip); ((show bodyPost _ _ _ _ _ _); refine bodyPost_ret (by simp only [results, Try.results38]; go_simp; try rfl) rfl ?_)
      exact ⟨.slice none 0 0, by rw [HE.out], ElemsSl.nil _, by (repeat' (first | (with_reducible exact Below.refl _ _) | (with_reducible assumption) | (with_reducible refine Below.new ?_ _) | (with_reducible refine Below.alloc ?_ ?_ _) | (with_reducible refine Below.drew ?_) | (with_reducible refine Below.drewN ?_ _) | (with_reducible refine Below.setCell ?_ ?_ _) | (refine Below.step ?_ (by assumption)) | go_size))⟩
    | true =>
      cases h2 : fitsR s r with
      | true => exact absurd ⟨h1, h2⟩ hbad
      | false =>
        have HE : Hid (addE s l r = 101) := by unfold Hid addE; rw [h0, h1, h2]; rfl
        have hof : ofE s r = 101 := by unfold ofE; rw [h0, h2]; rfl
        have HO2 : Hid (∀ W, Below w.heap.size w W → Calls Try.prog 29 _ W fun e w' => e = .returned (.tuple #[zeroC, .int .i64 101]) ∧ Below W.heap.size W w') := fun W h => (HO.out W h).mono fun e w' ⟨hb, h⟩ => by
          rcases h with ⟨h4, _⟩ | ⟨_, h4⟩
          · rw [hof] at h4; cases h4
          · rw [hof] at h4; exact ⟨h4, hb⟩
        rw [h1] at HA
        clear h0 h0' h1 h2 hbad hof HO
        go_enter Try.func38, Try.ntmps38
        go_wp2
        refine wp_scope_fwd ?_
        go_wp2_with (first
          | (go_at_call 21; go_loud ((with_reducible refine (HR.out _ (by (repeat' (first | (with_reducible exact Below.refl _ _) | (with_reducible assumption) | (with_reducible refine Below.new ?_ _) | (with_reducible refine Below.alloc ?_ ?_ _) | (with_reducible refine Below.drew ?_) | (with_reducible refine Below.drewN ?_ _) | (with_reducible refine Below.setCell ?_ ?_ _) | (refine Below.step ?_ (by assumption)) | go_size)))).mono ?_); rintro e w1 ⟨rfl, hb1⟩; obtain ⟨hc1, hf1, hk1, hz1⟩ := bcell3 hb1; (try simp only [World.size_alloc, World.size_drew] at hz1); have : w.heap.size < w1.heap.size := (by omega); have : w.heap.size + 1 < w1.heap.size := (by omega); have : w.heap.size + 1 + 1 < w1.heap.size := (by omega)))
          | (go_at_call 36; go_loud ((with_reducible refine (HA.out _ (by (repeat' (first | (with_reducible exact Below.refl _ _) | (with_reducible assumption) | (with_reducible refine Below.new ?_ _) | (with_reducible refine Below.alloc ?_ ?_ _) | (with_reducible refine Below.drew ?_) | (with_reducible refine Below.drewN ?_ _) | (with_reducible refine Below.setCell ?_ ?_ _) | (refine Below.step ?_ (by assumption)) | go_size)))).mono ?_); rintro e w2 ⟨rfl, hb2⟩; obtain ⟨hc2, hf2, hk2, hz2⟩ := bcell3 hb2; (try simp only [World.size_alloc, World.size_drew] at hz2); have : w.heap.size < w2.heap.size := (by omega); have : w.heap.size + 1 < w2.heap.size := (by omega); have : w.heap.size + 1 + 1 < w2.heap.size := (by omega)))
          | (go_at_call 29; go_loud ((with_reducible refine (HO2.out _ (by (repeat' (first | (with_reducible exact Below.refl _ _) | (with_reducible assumption) | (with_reducible refine Below.new ?_ _) | (with_reducible refine Below.alloc ?_ ?_ _) | (with_reducible refine Below.drew ?_) | (with_reducible refine Below.drewN ?_ _) | (with_reducible refine Below.setCell ?_ ?_ _) | (refine Below.step ?_ (by assumption)) | go_size)))).mono ?_); rintro e w3 ⟨rfl, hb3⟩; obtain ⟨hc3, hf3, hk3, hz3⟩ := bcell3 hb3; (try simp only [World.size_alloc, World.size_drew] at hz3); have : w.heap.size < w3.heap.size := (by omega); have : w.heap.size + 1 < w3.heap.size := (by omega); have : w.heap.size + 1 + 1 < w3.heap.size := (by omega))))
        (refine wp_goto ?_; go_step; refine jumpFwd_goto rfl ?_; go_wp2)
        (first | rw [jumpFwd_ret] | rw [Exit.noGoto_ret] | skip); ((show bodyPost _ _ _ _ _ _); refine bodyPost_ret (by simp only [results, Try.results38]; go_simp; try rfl) rfl ?_)
        exact ⟨.slice none 0 0, by rw [HE.out], ElemsSl.nil _, by (repeat' (first | (with_reducible exact Below.refl _ _) | (with_reducible assumption) | (with_reducible refine Below.new ?_ _) | (with_reducible refine Below.alloc ?_ ?_ _) | (with_reducible refine Below.drew ?_) | (with_reducible refine Below.drewN ?_ _) | (with_reducible refine Below.setCell ?_ ?_ _) | (refine Below.step ?_ (by assumption)) | go_size))⟩
theorem set6_blk2 {w : World} {b : Nat} {x0 x1 x2 x3 x4 x5 y0 y1 y2 y3 y4 y5 : Value} {T : TypeId} (h : w.heap[b]? = some (.cells #[x0, x1, x2, x3, x4, x5] T (0, 0))) : (set6 w b 0 y0 y1 y2 y3 y4 y5).heap[b]? = some (.cells #[y0, y1, y2, y3, y4, y5] T (0, 0)) := by
  have := blk_set (o := 0 + 5) (v := y5) (blk_set (o := 0 + 4) (v := y4) (blk_set (o := 0 + 3) (v := y3) (blk_set (o := 0 + 2) (v := y2) (blk_set (o := 0 + 1) (v := y1) (blk_set (o := 0) (v := y0) h)))))
  simpa [set6] using this
set_option maxHeartbeats 4000000 in
theorem add_good (s : SchD) (l : List CellD) (r : RowD) (vd vm v vl vn : Value) (w : World) (hd : StrsSl w vd s.ds) (hm : StrsSl w vm s.ms) (td : Texts s.ds) (tm : Texts s.ms) (hv : CellsSl w v l) (ht : ∀ c ∈ l, CellTame c) (hl : ValsSl w vl r.l) (tl : Vals r.l) (hn : IntsSl w vn r.xs) (hx : ∀ x ∈ r.xs, I64 x)
    (h1 : rightB s l = true) (h2 : fitsR s r = true) :
    Calls Try.prog 38 #[.agg #[vd, vm, .int .i64 s.g], v, .agg #[.int .i64 r.t, vl, vn]] w (OutPost w (outA s l r) (addE s l r)) := by
  have HR := hid (fun W (h : Below w.heap.size w W) => right_any vd vm s.ds s.ms s.g W (hd.below h) (hm.below h) td tm)
  have HA := hid (fun W (h : Below w.heap.size w W) => rollRight_any s l vd vm v W (hd.below h) (hm.below h) td tm (hv.below h) ht)
  have ra := right_parts h1
  have h0 := ra.sch
  have h0' : rightS s.ds s.ms s.g = true := h0
  have hm4 := okSch_four h0
  have hof := ofE_fits h2
  have HO2 : Hid (∀ W, Below w.heap.size w W → Calls Try.prog 29 #[.agg #[vd, vm, .int .i64 s.g], .agg #[.int .i64 r.t, vl, vn]] W fun e w' => ∃ u : CellV, e = .returned (.tuple #[.agg #[.int .i64 (cutV r.t s.g), u.vl, .int .i64 1, u.vs, u.vm, u.vx], .int .i64 0]) ∧ OwnC w' W.heap.size u (ofC s r) ∧ Below W.heap.size W w') := fun W h => (rollOf_any s r vd vm vl vn W (hd.below h) (hm.below h) td tm (hl.below h) tl (hn.below h) hx).mono fun e w' ⟨hb, h⟩ => by
    rcases h with ⟨_, u, h4, h5, _⟩ | ⟨h4, _⟩
    · exact ⟨u, h4, h5, hb⟩
    · exact absurd hof h4
  have HE : Hid (addE s l r = if endsB (addL s l r) = true then 0 else 121) := by unfold Hid addE; rw [h0, h1, h2]; rfl
  rw [h0'] at HR
  rw [h1] at HA
  have HP1 := hid (fun W (h : Below w.heap.size w W) => rput_any s.ms.length W W (.slice none 0 0) v [] l (Below.refl _ _) (OwnCs.nil _ _) (hv.below h) (Rolled.nil _) ra.rolled.all ra.rolled.nonneg (fun c hc => by have := (ra.each c hc).2.2.2.1; omega) (by omega) (by have := ra.len; simp; omega) (by have := ra.count; show (0 : Int) + countT l ≤ _; omega))
  have HP2 := hid (fun W0 W v vm ps (hw : Below W0.heap.size W0 W) (ho : OwnCs W W0.heap.size v ps) (hc : cellsP ps = l) (hone : CellsSl W vm [ofC s r]) => rput_one s.ms.length W0 W v vm ps (ofC s r) hw ho hone (by rw [hc]; exact ra.rolled) (ofC_ok h2) (Int.le_of_lt Int.zero_lt_one) (by have := (fits_len h2).2.2.1; show r.l.length ≤ _; omega) (by omega)
    (by have h1 := ra.len; have h3 : ps.length = l.length := (by rw [← hc]; simp [cellsP]); omega) (by have h1 := ra.count; rw [hc]; show countT l + 1 ≤ _; omega))
  have hlen : (addL s l r).length ≤ 1000000 := by
    have h1 : (addL s l r).length ≤ l.length + 1 := (Put.put_len (cellRule s.ms.length) l (ofC s r)).2
    have := ra.len
    omega
  have HEN : Hid (∀ W v, CellsSl W v (addL s l r) → Calls Try.prog 56 #[v] W fun e w' => ∃ x n, e = .returned (.tuple #[x, .int .i64 n]) ∧ n = addE s l r ∧ CellsSl w' x (outA s l r) ∧ Below W.heap.size W w') := fun W v h => (rollEnds_any v (addL s l r) W h hlen).mono fun e w' ⟨he, hb⟩ => by
    refine ⟨_, _, he, HE.out.symm, ?_, hb⟩
    unfold outA
    rw [HE.out]
    cases hcase : endsB (addL s l r) with
    | true => simpa using h.below hb
    | false => simpa [CellsSl] using ElemsSl.nil (α := CellD) (n := 6) (R := CellIs) w'
  have HSF := hid ra.self
  obtain ⟨ad, cd, rfl, _, _, _⟩ := SlAt.shape hd
  obtain ⟨am, cm, rfl, _, _, _⟩ := SlAt.shape hm
  obtain ⟨al, cl, rfl, _, _, _⟩ := SlAt.shape hl
  obtain ⟨an, cn, rfl, _, _, _⟩ := SlAt.shape hn
  obtain ⟨ao, cap, rfl, _, _, _⟩ := hv.shape
  clear hd hm td tm hv ht hl tl hn hx h0 h0' h1 h2 hof ra hlen
  go_enter Try.func38, Try.ntmps38
  go_wp2
  refine wp_scope_fwd ?_
  go_wp2_with (first
    | (go_at_call 21; go_loud ((with_reducible refine (HR.out _ (by (repeat' (first | (with_reducible exact Below.refl _ _) | (with_reducible assumption) | (with_reducible refine Below.new ?_ _) | (with_reducible refine Below.alloc ?_ ?_ _) | (with_reducible refine Below.drew ?_) | (with_reducible refine Below.drewN ?_ _) | (with_reducible refine Below.setCell ?_ ?_ _) | (refine Below.step ?_ (by assumption)) | go_size)))).mono ?_); rintro e w1 ⟨rfl, hb1⟩; obtain ⟨hc1, hf1, hk1, hz1⟩ := bcell3 hb1; (try simp only [World.size_alloc, World.size_drew] at hz1); have : w.heap.size < w1.heap.size := (by omega); have : w.heap.size + 1 < w1.heap.size := (by omega); have : w.heap.size + 1 + 1 < w1.heap.size := (by omega)))
    | (go_at_call 36; go_loud ((with_reducible refine (HA.out _ (by (repeat' (first | (with_reducible exact Below.refl _ _) | (with_reducible assumption) | (with_reducible refine Below.new ?_ _) | (with_reducible refine Below.alloc ?_ ?_ _) | (with_reducible refine Below.drew ?_) | (with_reducible refine Below.drewN ?_ _) | (with_reducible refine Below.setCell ?_ ?_ _) | (refine Below.step ?_ (by assumption)) | go_size)))).mono ?_); rintro e w2 ⟨rfl, hb2⟩; obtain ⟨hc2, hf2, hk2, hz2⟩ := bcell3 hb2; (try simp only [World.size_alloc, World.size_drew] at hz2); have : w.heap.size < w2.heap.size := (by omega); have : w.heap.size + 1 < w2.heap.size := (by omega); have : w.heap.size + 1 + 1 < w2.heap.size := (by omega))))
  refine (HO2.out _ (by (repeat' (first | (with_reducible exact Below.refl _ _) | (with_reducible assumption) | (with_reducible refine Below.new ?_ _) | (with_reducible refine Below.alloc ?_ ?_ _) | (with_reducible refine Below.drew ?_) | (with_reducible refine Below.drewN ?_ _) | (with_reducible refine Below.setCell ?_ ?_ _) | (refine Below.step ?_ (by assumption)) | go_size)))).mono ?_
  rintro e w3 ⟨⟨ul, us, um, ux⟩, rfl, ho3, hb3⟩
  obtain ⟨la, lc, e1⟩ := row_shape ho3.l
  obtain ⟨sa, sc, e2⟩ := row_shape ho3.s
  obtain ⟨ma, mc, e3⟩ := row_shape ho3.m
  obtain ⟨xa, xc, e4⟩ := row_shape ho3.x
  dsimp only at e1 e2 e3 e4
  subst e1 e2 e3 e4
  have hz3 : w3.heap[w.heap.size + 1 + 1]? = some (.cells #[.int .i64 0, .slice none 0 0, .int .i64 0, .slice none 0 0, .slice none 0 0, .slice none 0 0] 46 (0, 0)) := blk_below (blk_below (blk_below (by (simp (disch := first | omega | (simp only [World.size_alloc, World.size_setCell, World.size_drew]; done) | (simp only [World.size_alloc, World.size_setCell, World.size_drew]; omega)) only [heap_at, heap_past, heap_set_other, heap_set_same])) hb1) hb2) hb3
  have hB3 : Below w.heap.size w w3 := by (repeat' (first | (with_reducible exact Below.refl _ _) | (with_reducible assumption) | (with_reducible refine Below.new ?_ _) | (with_reducible refine Below.alloc ?_ ?_ _) | (with_reducible refine Below.drew ?_) | (with_reducible refine Below.drewN ?_ _) | (with_reducible refine Below.setCell ?_ ?_ _) | (refine Below.step ?_ (by assumption)) | go_size))
  have hz2 : w.heap.size + 1 + 1 < w2.heap.size := by assumption
  obtain ⟨a0, a1, a2, a3, a4, a5⟩ := six_at hz3
  obtain ⟨f0, f1, f2, f3, f4, f5⟩ := six_free hz3
  have HT3 := hid (And.intro hz3 (And.intro hB3 ho3))
  clear hb1 hc1 hf1 hk1 hz1 hb2 hc2 hf2 hk2 hb3 hz3 hB3 ho3 HR HA
  go_wp2_with fail
  have hbk : ((((((w3.setCell ⟨w.heap.size + 1 + 1, 0, none⟩ (.int .i64 (cutV r.t s.g))).setCell ⟨w.heap.size + 1 + 1, 1, none⟩ (.slice la (ofC s r).l.length lc)).setCell ⟨w.heap.size + 1 + 1, 2, none⟩ (.int .i64 1)).setCell ⟨w.heap.size + 1 + 1, 3, none⟩ (.slice sa (ofC s r).sums.length sc)).setCell ⟨w.heap.size + 1 + 1, 4, none⟩ (.slice ma (ofC s r).mins.length mc)).setCell ⟨w.heap.size + 1 + 1, 5, none⟩ (.slice xa (ofC s r).maxs.length xc)).heap[w.heap.size + 1 + 1]? = some (.cells #[.int .i64 (cutV r.t s.g), .slice la (ofC s r).l.length lc, .int .i64 1, .slice sa (ofC s r).sums.length sc, .slice ma (ofC s r).mins.length mc, .slice xa (ofC s r).maxs.length xc] 46 (0, 0)) := by
    have := set6_blk2 (y0 := .int .i64 (cutV r.t s.g)) (y1 := .slice la (ofC s r).l.length lc) (y2 := .int .i64 1) (y3 := .slice sa (ofC s r).sums.length sc) (y4 := .slice ma (ofC s r).mins.length mc) (y5 := .slice xa (ofC s r).maxs.length xc) HT3.out.1
    simpa [set6] using this
  have htt : TurnO [w.heap.size + 1 + 1] w3 ((((((w3.setCell ⟨w.heap.size + 1 + 1, 0, none⟩ (.int .i64 (cutV r.t s.g))).setCell ⟨w.heap.size + 1 + 1, 1, none⟩ (.slice la (ofC s r).l.length lc)).setCell ⟨w.heap.size + 1 + 1, 2, none⟩ (.int .i64 1)).setCell ⟨w.heap.size + 1 + 1, 3, none⟩ (.slice sa (ofC s r).sums.length sc)).setCell ⟨w.heap.size + 1 + 1, 4, none⟩ (.slice ma (ofC s r).mins.length mc)).setCell ⟨w.heap.size + 1 + 1, 5, none⟩ (.slice xa (ofC s r).maxs.length xc)) := by
    have := turn_set6 w3 (w.heap.size + 1 + 1) 0 (.int .i64 (cutV r.t s.g)) (.slice la (ofC s r).l.length lc) (.int .i64 1) (.slice sa (ofC s r).sums.length sc) (.slice ma (ofC s r).mins.length mc) (.slice xa (ofC s r).maxs.length xc)
    simpa [set6] using this
  obtain ⟨S, hS⟩ : ∃ S, ((((((w3.setCell ⟨w.heap.size + 1 + 1, 0, none⟩ (.int .i64 (cutV r.t s.g))).setCell ⟨w.heap.size + 1 + 1, 1, none⟩ (.slice la (ofC s r).l.length lc)).setCell ⟨w.heap.size + 1 + 1, 2, none⟩ (.int .i64 1)).setCell ⟨w.heap.size + 1 + 1, 3, none⟩ (.slice sa (ofC s r).sums.length sc)).setCell ⟨w.heap.size + 1 + 1, 4, none⟩ (.slice ma (ofC s r).mins.length mc)).setCell ⟨w.heap.size + 1 + 1, 5, none⟩ (.slice xa (ofC s r).maxs.length xc)) = S := ⟨_, rfl⟩
  rw [hS] at hbk htt ⊢
  have hBS : Below w.heap.size w S := HT3.out.2.1.trans (htt.below HT3.out.2.1.size (by simp; omega))
  have hoc := HT3.out.2.2.turn htt (fun x hx hxT => by
    have h1 := (HT3.out.2.2.lt x hx).1
    have h2 : x = w.heap.size + 1 + 1 := by simpa using hxT
    omega)
  have hci : CellIs S [.int .i64 (cutV r.t s.g), .slice la (ofC s r).l.length lc, .int .i64 1, .slice sa (ofC s r).sums.length sc, .slice ma (ofC s r).mins.length mc, .slice xa (ofC s r).maxs.length xc] (ofC s r) := hoc.is
  have HCI := hid hci; have HBW := hid hBS
  obtain ⟨c0, c1, c2, c3, c4, c5⟩ := six_at hbk
  have zS := blk_lt hbk
  clear hS htt hBS hoc hci a0 a1 a2 a3 a4 a5 f0 f1 f2 f3 f4 f5 HT3 hbk HO2
  have hS0 : (fun w' : World => w'.cell? ⟨w.heap.size + 1 + 1, 0, none⟩ = some (.int .i64 (cutV r.t s.g)) ∧ w'.cell? ⟨w.heap.size + 1 + 1, 1, none⟩ = some (.slice la (ofC s r).l.length lc) ∧ w'.cell? ⟨w.heap.size + 1 + 1, 2, none⟩ = some (.int .i64 1) ∧ w'.cell? ⟨w.heap.size + 1 + 1, 3, none⟩ = some (.slice sa (ofC s r).sums.length sc) ∧ w'.cell? ⟨w.heap.size + 1 + 1, 4, none⟩ = some (.slice ma (ofC s r).mins.length mc) ∧ w'.cell? ⟨w.heap.size + 1 + 1, 5, none⟩ = some (.slice xa (ofC s r).maxs.length xc)) S.drew := ⟨c0, c1, c2, c3, c4, c5⟩
  refine wp_region_some (fun w' : World => w'.cell? ⟨w.heap.size + 1 + 1, 0, none⟩ = some (.int .i64 (cutV r.t s.g)) ∧ w'.cell? ⟨w.heap.size + 1 + 1, 1, none⟩ = some (.slice la (ofC s r).l.length lc) ∧ w'.cell? ⟨w.heap.size + 1 + 1, 2, none⟩ = some (.int .i64 1) ∧ w'.cell? ⟨w.heap.size + 1 + 1, 3, none⟩ = some (.slice sa (ofC s r).sums.length sc) ∧ w'.cell? ⟨w.heap.size + 1 + 1, 4, none⟩ = some (.slice ma (ofC s r).mins.length mc) ∧ w'.cell? ⟨w.heap.size + 1 + 1, 5, none⟩ = some (.slice xa (ofC s r).maxs.length xc)) [4, 5, 6, 7, 8, 9] (by kernel_rfl) ?_
  (refine wpMix_take (i := 0) (v := ?_) rfl (by kernel_rfl) (fun _ _ _ h => h) (Or.inl ⟨by rfl, ?_⟩) hS0 ?_; rotate_left 1; (focus (intro w hSw; (try dsimp only at hSw); go_simp; try (with_reducible rfl))); (try simp only [Act.put, List.setIfInBounds_toArray, List.set_cons_zero, List.set_cons_succ]))
  (refine wpMix_take (i := 2) (v := ?_) rfl (by kernel_rfl) (fun _ _ _ h => h) (Or.inl ⟨by rfl, ?_⟩) hS0 ?_; rotate_left 1; (focus (intro w hSw; (try dsimp only at hSw); go_simp; try (with_reducible rfl))); (try simp only [Act.put, List.setIfInBounds_toArray, List.set_cons_zero, List.set_cons_succ]))
  obtain ⟨W0, hW0⟩ : ∃ W, S.drew = W := ⟨_, rfl⟩
  have hBd : Below S.heap.size S S.drew := Below.drew (Below.refl _ _)
  rw [hW0] at hS0 hBd ⊢
  obtain ⟨c0, c1, c2, c3, c4, c5⟩ := hS0
  have HCW := hid (HCI.out.below hBd)
  have HBW := hid (HBW.out.step hBd)
  clear hBd hW0 HCI
  refine wpMix_pick [1, 3] (by kernel_rfl) (pick_two ?_ ?_) (by simp)
  all_goals simp only [opsAt, List.flatMap_cons, List.flatMap_nil, List.take_succ_cons, List.take_zero, List.drop_succ_cons, List.drop_zero, List.append_nil, List.cons_append, List.nil_append]
  · go_wp2_with (go_at_call 57; go_loud ((with_reducible refine (HP1.out _ HBW.out).mono ?_); rintro e w4 ⟨v4, ps4, rfl, ho4, hc4, hb4⟩))
    refine ⟨⟨cell_step c0 hb4, cell_step c1 hb4, cell_step c2 hb4, cell_step c3 hb4, cell_step c4 hb4, cell_step c5 hb4⟩, ?_⟩
    have hc4' : cellsP ps4 = l := by rw [hc4]; exact HSF.out
    refine wpMix_next (t := 3) (by kernel_rfl) ?_
    simp only [opsAt, List.flatMap_cons, List.flatMap_nil, List.take_succ_cons, List.take_zero, List.drop_succ_cons, List.drop_zero, List.append_nil, List.cons_append, List.nil_append]
    go_wp2
    have hb5 : Below W0.heap.size W0 (w4.alloc (.cells #[.int .i64 (cutV r.t s.g), .slice la (ofC s r).l.length lc, .int .i64 1, .slice sa (ofC s r).sums.length sc, .slice ma (ofC s r).mins.length mc, .slice xa (ofC s r).maxs.length xc] 46)) := hb4.new _
    refine ⟨⟨cell_step c0 hb5, cell_step c1 hb5, cell_step c2 hb5, cell_step c3 hb5, cell_step c4 hb5, cell_step c5 hb5⟩, ?_⟩
    have h2 := HP2.out W0 _ v4 (.slice (some ⟨w4.heap.size, 0, none⟩) 1 1) ps4 hb5 (ho4.below ((Below.refl _ _).new _)) hc4' (cells_new1 (HCW.out.below hb4))
    rw [hc4'] at h2
    refine wpMix_next (t := 4) (by kernel_rfl) ?_
    simp only [opsAt, List.flatMap_cons, List.flatMap_nil, List.take_succ_cons, List.take_zero, List.drop_succ_cons, List.drop_zero, List.append_nil, List.cons_append, List.nil_append]
    go_wp2_with (go_at_call 57; go_loud ((with_reducible refine h2.mono ?_); rintro e w6 ⟨v6, ps6, rfl, ho6, hc6, hb6⟩))
    refine ⟨⟨cell_step c0 hb6, cell_step c1 hb6, cell_step c2 hb6, cell_step c3 hb6, cell_step c4 hb6, cell_step c5 hb6⟩, ?_⟩
    have his := ho6.is
    rw [hc6] at his
    have HI := hid (show CellsSl w6 v6 (addL s l r) from his)
    have HB6 := hid hb6
    clear h2 hc4' ho4 hc4 hb4 hb5 ho6 hc6 his
    refine wpMix_next (t := 5) (by kernel_rfl) ?_
    simp only [opsAt, List.flatMap_cons, List.flatMap_nil, List.take_succ_cons, List.take_zero, List.drop_succ_cons, List.drop_zero, List.append_nil, List.cons_append, List.nil_append]
    go_wp2_with (go_at_call 56; go_loud ((with_reducible refine (HEN.out _ _ HI.out).mono ?_); rintro e w7 ⟨x7, n7, rfl, hn7, hx7, hb7⟩))
    have HX7 := hid (And.intro hn7 hx7)
    clear hn7 hx7
    have HB7 := hid hb7
    have hb8 := hb6.trans (hb7.mono hb6.size)
    have HB8 := hid hb8
    refine ⟨⟨cell_step c0 hb8, cell_step c1 hb8, cell_step c2 hb8, cell_step c3 hb8, cell_step c4 hb8, cell_step c5 hb8⟩, ?_⟩
    clear hb6 hb7 hb8 c0 c1 c2 c3 c4 c5
    (refine wpMix_free (i := 6) (v := ?_) rfl (by kernel_rfl) (fun _ _ _ h => h) (Or.inl ⟨by rfl, ?_⟩) ?_; rotate_left 1; (focus (intro w hSw; go_simp; try (with_reducible rfl))); (try simp only [Act.put, List.setIfInBounds_toArray, List.set_cons_zero, List.set_cons_succ]))
    (refine wpMix_free (i := 7) (v := ?_) rfl (by kernel_rfl) (fun _ _ _ h => h) (Or.inl ⟨by rfl, ?_⟩) ?_; rotate_left 1; (focus (intro w hSw; go_simp; try (with_reducible rfl))); (try simp only [Act.put, List.setIfInBounds_toArray, List.set_cons_zero, List.set_cons_succ]))
    refine wpMix_rest [8, 9] (by kernel_rfl) ?_
    simp only [opsAt, List.flatMap_cons, List.flatMap_nil, List.take_succ_cons, List.take_zero, List.drop_succ_cons, List.drop_zero, List.append_nil, List.cons_append, List.nil_append]
    go_wp2
    (first | rw [jumpFwd_ret] | rw [Exit.noGoto_ret] | skip); ((show bodyPost _ _ _ _ _ _); refine bodyPost_ret (by simp only [results, Try.results38]; go_simp; try rfl) rfl ?_)
    exact ⟨x7, by rw [← HX7.out.1], HX7.out.2, HBW.out.step HB8.out⟩
  · go_wp2
    have hb5 : Below W0.heap.size W0 (W0.alloc (.cells #[.int .i64 (cutV r.t s.g), .slice la (ofC s r).l.length lc, .int .i64 1, .slice sa (ofC s r).sums.length sc, .slice ma (ofC s r).mins.length mc, .slice xa (ofC s r).maxs.length xc] 46)) := (Below.refl _ _).new _
    refine ⟨⟨cell_step c0 hb5, cell_step c1 hb5, cell_step c2 hb5, cell_step c3 hb5, cell_step c4 hb5, cell_step c5 hb5⟩, ?_⟩
    have hone := cells_new1 HCW.out
    obtain ⟨B, hB⟩ : ∃ B, W0.heap.size = B := ⟨_, rfl⟩
    obtain ⟨W1, hW1⟩ : ∃ W, W0.alloc (.cells #[.int .i64 (cutV r.t s.g), .slice la (ofC s r).l.length lc, .int .i64 1, .slice sa (ofC s r).sums.length sc, .slice ma (ofC s r).mins.length mc, .slice xa (ofC s r).maxs.length xc] 46) = W := ⟨_, rfl⟩
    rw [hW1] at hb5 hone ⊢
    rw [hB] at hone ⊢
    replace c0 := cell_step c0 hb5; replace c1 := cell_step c1 hb5; replace c2 := cell_step c2 hb5; replace c3 := cell_step c3 hb5; replace c4 := cell_step c4 hb5; replace c5 := cell_step c5 hb5
    have HB5 := hid (HBW.out.step hb5)
    have HONE := hid hone
    clear hb5 hone hB hW1 HCW HBW
    have HBW := HB5
    refine wpMix_next (t := 1) (by kernel_rfl) ?_
    simp only [opsAt, List.flatMap_cons, List.flatMap_nil, List.take_succ_cons, List.take_zero, List.drop_succ_cons, List.drop_zero, List.append_nil, List.cons_append, List.nil_append]
    go_wp2_with (go_at_call 57; go_loud ((with_reducible refine (HP1.out _ HB5.out).mono ?_); rintro e w4 ⟨v4, ps4, rfl, ho4, hc4, hb4⟩))
    refine ⟨⟨cell_step c0 hb4, cell_step c1 hb4, cell_step c2 hb4, cell_step c3 hb4, cell_step c4 hb4, cell_step c5 hb4⟩, ?_⟩
    have hc4' : cellsP ps4 = l := by rw [hc4]; exact HSF.out
    have h2 := HP2.out W1 w4 v4 (.slice (some ⟨B, 0, none⟩) 1 1) ps4 hb4 ho4 hc4' (HONE.out.below hb4)
    rw [hc4'] at h2
    refine wpMix_next (t := 4) (by kernel_rfl) ?_
    simp only [opsAt, List.flatMap_cons, List.flatMap_nil, List.take_succ_cons, List.take_zero, List.drop_succ_cons, List.drop_zero, List.append_nil, List.cons_append, List.nil_append]
    go_wp2_with (go_at_call 57; go_loud ((with_reducible refine h2.mono ?_); rintro e w6 ⟨v6, ps6, rfl, ho6, hc6, hb6⟩))
    refine ⟨⟨cell_step c0 hb6, cell_step c1 hb6, cell_step c2 hb6, cell_step c3 hb6, cell_step c4 hb6, cell_step c5 hb6⟩, ?_⟩
    have his := ho6.is
    rw [hc6] at his
    have HI := hid (show CellsSl w6 v6 (addL s l r) from his)
    have HB6 := hid hb6
    clear h2 hc4' ho4 hc4 hb4 ho6 hc6 his
    refine wpMix_next (t := 5) (by kernel_rfl) ?_
    simp only [opsAt, List.flatMap_cons, List.flatMap_nil, List.take_succ_cons, List.take_zero, List.drop_succ_cons, List.drop_zero, List.append_nil, List.cons_append, List.nil_append]
    go_wp2_with (go_at_call 56; go_loud ((with_reducible refine (HEN.out _ _ HI.out).mono ?_); rintro e w7 ⟨x7, n7, rfl, hn7, hx7, hb7⟩))
    have HX7 := hid (And.intro hn7 hx7)
    clear hn7 hx7
    have HB7 := hid hb7
    have hb8 := hb6.trans (hb7.mono hb6.size)
    have HB8 := hid hb8
    refine ⟨⟨cell_step c0 hb8, cell_step c1 hb8, cell_step c2 hb8, cell_step c3 hb8, cell_step c4 hb8, cell_step c5 hb8⟩, ?_⟩
    clear hb6 hb7 hb8 c0 c1 c2 c3 c4 c5
    (refine wpMix_free (i := 6) (v := ?_) rfl (by kernel_rfl) (fun _ _ _ h => h) (Or.inl ⟨by rfl, ?_⟩) ?_; rotate_left 1; (focus (intro w hSw; go_simp; try (with_reducible rfl))); (try simp only [Act.put, List.setIfInBounds_toArray, List.set_cons_zero, List.set_cons_succ]))
    (refine wpMix_free (i := 7) (v := ?_) rfl (by kernel_rfl) (fun _ _ _ h => h) (Or.inl ⟨by rfl, ?_⟩) ?_; rotate_left 1; (focus (intro w hSw; go_simp; try (with_reducible rfl))); (try simp only [Act.put, List.setIfInBounds_toArray, List.set_cons_zero, List.set_cons_succ]))
    refine wpMix_rest [8, 9] (by kernel_rfl) ?_
    simp only [opsAt, List.flatMap_cons, List.flatMap_nil, List.take_succ_cons, List.take_zero, List.drop_succ_cons, List.drop_zero, List.append_nil, List.cons_append, List.nil_append]
    go_wp2
    (first | rw [jumpFwd_ret] | rw [Exit.noGoto_ret] | skip); ((show bodyPost _ _ _ _ _ _); refine bodyPost_ret (by simp only [results, Try.results38]; go_simp; try rfl) rfl ?_)
    exact ⟨x7, by rw [← HX7.out.1], HX7.out.2, HBW.out.step HB8.out⟩
theorem add_out (s : SchD) (l : List CellD) (r : RowD) (vd vm v vl vn : Value) (w : World) (hd : StrsSl w vd s.ds) (hm : StrsSl w vm s.ms) (td : Texts s.ds) (tm : Texts s.ms) (hv : CellsSl w v l) (ht : ∀ c ∈ l, CellTame c) (hl : ValsSl w vl r.l) (tl : Vals r.l) (hn : IntsSl w vn r.xs) (hx : ∀ x ∈ r.xs, I64 x) :
    Calls Try.prog 38 #[.agg #[vd, vm, .int .i64 s.g], v, .agg #[.int .i64 r.t, vl, vn]] w (OutPost w (outA s l r) (addE s l r)) := by
  by_cases h : rightB s l = true ∧ fitsR s r = true
  · exact add_good s l r vd vm v vl vn w hd hm td tm hv ht hl tl hn hx h.1 h.2
  · have e : outA s l r = [] := by
      unfold outA
      rw [if_neg]
      intro h0
      unfold addE at h0
      split at h0
      · split at h0
        · split at h0
          · exact h ⟨by assumption, by assumption⟩
          · cases h0
        · cases h0
      · cases h0
    rw [e]
    exact add_bad s l r vd vm v vl vn w hd hm td tm hv ht hl tl hn hx h
end Go.Proofs.Ytdgeinipdphoeaa
/- Rollup: parts of lists of rows; plain laws. -/
namespace Go.Proofs.Ytdgeinipdphoeaa
set_option linter.unusedVariables false
set_option linter.unusedSimpArgs false
set_option maxRecDepth 100000
open Go.ChangeShapes Go.WideShapes Go.ChangeAt Go.RowKit

theorem rollL_len2 (s : SchD) (rows : List RowD) : (rollL s rows).length ≤ rows.length := by
  have h : (rollL s rows).length ≤ ([] : List CellD).length + (rows.map (ofC s)).length := (Put.puts_len (cellRule s.ms.length) [] (rows.map (ofC s))).2
  simpa using h
theorem rollE_few {s : SchD} {rows : List RowD} (h : okSch s = true) (hf : ∀ r ∈ rows, fitsR s r = true) (hl : rows.length ≤ 1000) : rollE s rows = 0 := by
  have hE : endsB (rollL s rows) = true := by
    unfold endsB
    have h1 := rollL_len2 s rows
    have hany : (rollL s rows).any manyB = false := by
      rw [List.any_eq_false]
      intro c hc
      have := le_countT (rollL_rolled hf).nonneg c hc
      rw [rollL_count] at this
      unfold manyB
      simp
      omega
    rw [hany]
    simp
    omega
  unfold rollE
  rw [h, List.all_eq_true.2 hf, hE]
  rfl
theorem rollL_parts {s : SchD} {A B : List RowD} (ha : ∀ r ∈ A, fitsR s r = true) (hb : ∀ r ∈ B, fitsR s r = true) : mergeL s (rollL s A) (rollL s B) = rollL s (A ++ B) := by
  have hB : Put.All (cellRule s.ms.length) (B.map (ofC s)) := fun c hc => by
    obtain ⟨r, hr, rfl⟩ := List.mem_map.1 hc
    exact ofC_ok (hb r hr)
  show puts s.ms.length (rollL s A) (puts s.ms.length [] (B.map (ofC s))) = puts s.ms.length [] ((A ++ B).map (ofC s))
  rw [show puts s.ms.length (rollL s A) (puts s.ms.length [] (B.map (ofC s))) = puts s.ms.length (rollL s A) (B.map (ofC s)) from Put.puts_puts (cellRule s.ms.length) (rollL_rolled ha).all hB, List.map_append]
  exact (Put.puts_append (cellRule s.ms.length) [] (A.map (ofC s)) (B.map (ofC s))).symm
theorem mergeE_parts {s : SchD} {A B : List RowD} (h : okSch s = true) (ha : ∀ r ∈ A, fitsR s r = true) (hb : ∀ r ∈ B, fitsR s r = true) (ka : RowsOk A) (kb : RowsOk B) (hl : A.length + B.length ≤ 1000) : mergeE s (rollL s A) (rollL s B) = 0 ∧ outM s (rollL s A) (rollL s B) = rollL s (A ++ B) := by
  have e : mergeE s (rollL s A) (rollL s B) = 0 := by
    have hf : ∀ r ∈ A ++ B, fitsR s r = true := fun r hr => (List.mem_append.1 hr).elim (ha r) (hb r)
    have h0 := (rollE_ok (rollE_few h hf (by simp; omega))).2.2
    unfold mergeE
    rw [h, rightB_roll (rollE_few h ha (by omega)) ka, rightB_roll (rollE_few h hb (by omega)) kb, rollL_parts ha hb, h0]
    rfl
  exact ⟨e, by unfold outM; rw [if_pos e, rollL_parts ha hb]⟩
theorem rollL_comm {s : SchD} {A B : List RowD} (ha : ∀ r ∈ A, fitsR s r = true) (hb : ∀ r ∈ B, fitsR s r = true) : rollL s (B ++ A) = rollL s (A ++ B) :=
  rollL_perm List.perm_append_comm (fun r hr => (List.mem_append.1 hr).elim (hb r) (ha r))
theorem addE_parts {s : SchD} {A : List RowD} {r : RowD} (h : okSch s = true) (ha : ∀ r ∈ A, fitsR s r = true) (hr : fitsR s r = true) (ka : RowsOk A) (hl : A.length + 1 ≤ 1000) : addE s (rollL s A) r = 0 ∧ outA s (rollL s A) r = rollL s (A ++ [r]) := by
  have hs : addL s (rollL s A) r = rollL s (A ++ [r]) := by
    show put1 s.ms.length (puts s.ms.length [] (A.map (ofC s))) (ofC s r) = puts s.ms.length [] ((A ++ [r]).map (ofC s))
    rw [List.map_append]
    show _ = List.foldl _ _ _
    rw [List.foldl_append]
    rfl
  have e : addE s (rollL s A) r = 0 := by
    have hf : ∀ x ∈ A ++ [r], fitsR s x = true := fun x hx => (List.mem_append.1 hx).elim (ha x) (fun h => by simp at h; rw [h]; exact hr)
    have h0 := (rollE_ok (rollE_few h hf (by simp; omega))).2.2
    unfold addE
    rw [h, rightB_roll (rollE_few h ha (by omega)) ka, hr, hs, h0]
    rfl
  exact ⟨e, by unfold outA; rw [if_pos e, hs]⟩
theorem ElemsSl.take {α : Type} {n : Nat} {R : World → List Value → α → Prop} {w : World} {ao : Option Addr} {cap : Nat} {l : List α} (h : ElemsSl n R w (.slice ao l.length cap) l) {k : Nat} (hk : k ≤ l.length) : ElemsSl n R w (.slice ao k cap) (l.take k) := by
  obtain ⟨ao', cap', e, h1, h2, h3, h4⟩ := h
  simp only [Value.slice.injEq] at e
  obtain ⟨rfl, _, rfl⟩ := e
  have hl : (l.take k).length = k := by simp; omega
  refine ⟨ao, cap, by rw [hl], by omega, h2, h3, fun h0 => ?_⟩
  obtain ⟨b, off, rfl, hc⟩ := h4 (by omega)
  refine ⟨b, off, rfl, fun i hi => ?_⟩
  obtain ⟨cs, e1, e2, e3⟩ := hc i (by omega)
  exact ⟨cs, e1, by simpa using e2, e3⟩
theorem ElemsSl.from {α : Type} {n : Nat} {R : World → List Value → α → Prop} {w : World} {ao : Option Addr} {cap : Nat} {l : List α} (h : ElemsSl n R w (.slice ao l.length cap) l) {k : Nat} (hk : k ≤ l.length) : ElemsSl n R w (.slice (if cap = k then ao else Option.map (fun x => x.add (k * n)) ao) (l.length - k) (cap - k)) (l.drop k) := by
  obtain ⟨ao', cap', e, h1, h2, h3, h4⟩ := h
  simp only [Value.slice.injEq] at e
  obtain ⟨rfl, _, rfl⟩ := e
  have hl : (l.drop k).length = l.length - k := by simp
  refine ⟨_, cap - k, by rw [hl], by omega, by omega, fun h0 => ?_, fun h0 => ?_⟩
  · split at h0
    · omega
    · rw [Option.map_eq_none_iff] at h0
      have := h3 h0
      omega
  · obtain ⟨b, off, rfl, hc⟩ := h4 (by omega)
    rw [if_neg (by omega)]
    refine ⟨b, off + k * n, by simp only [Option.map_some, Option.some.injEq]; unfold Addr.add; split <;> simp_all, fun i hi => ?_⟩
    obtain ⟨cs, e1, e2, e3⟩ := hc (k + i) (by omega)
    refine ⟨cs, e1, by simpa using e2, fun j u hj => ?_⟩
    have := e3 j u hj
    rw [Nat.add_mul] at this
    rw [← this]
    congr 2
    omega
end Go.Proofs.Ytdgeinipdphoeaa
/- Rollup: rows of times that rise: plain laws. -/
namespace Go.Proofs.Ytdgeinipdphoeaa
set_option linter.unusedVariables false
set_option linter.unusedSimpArgs false
set_option maxRecDepth 100000
open Go.ChangeShapes Go.WideShapes Go.ChangeAt Go.RowKit

def fS : SchD := ⟨[bA], [bN], 1⟩
def nullV : ValD := ⟨{ data := #[] }, true⟩
def fRow (num t : Int) : RowD := ⟨t, [nullV], [num]⟩
def fRows (num : Int) (n : Nat) : List RowD := (List.range n).map fun i => fRow num (i : Nat)
theorem fS_right : okSch fS = true := by decide +kernel
theorem okNull : okV nullV = true := by decide +kernel
theorem f_fits (num t : Int) (h0 : 0 ≤ t) (h1 : t ≤ 100000) : fitsR fS (fRow num t) = true := by
  have h := fS_right
  unfold okSch at h
  unfold fitsR fitsS fRow
  rw [h]
  simp only [fS, List.length_cons, List.length_nil, List.all_cons, List.all_nil, okNull, Bool.and_true, Bool.true_and, Bool.and_eq_true, decide_eq_true_eq]
  exact ⟨by omega, trivial, trivial⟩
def fC (num t : Int) : CellD := ⟨t, [nullV], 1, [num], [num], [num]⟩
theorem f_of (num t : Int) (h0 : 0 ≤ t) (h1 : t ≤ 100000) : ofC fS (fRow num t) = fC num t := by
  have e : cutV t 1 = t := by
    unfold cutV
    rw [(isTimeB_iff t).2 (by omega), (isGrainB_iff 1).2 (by omega), Int.emod_one]
    simp
  show (⟨cutV t 1, [nullV], 1, [num], [num], [num]⟩ : CellD) = _
  rw [e]
  rfl
theorem fRows_fits (num : Int) {n : Nat} (h : n ≤ 2000) : ∀ r ∈ fRows num n, fitsR fS r = true := by
  intro r hr
  obtain ⟨i, hi, rfl⟩ := List.mem_map.1 hr
  have := List.mem_range.1 hi
  exact f_fits num _ (by omega) (by omega)
theorem fC_lt {num a b : Int} (h : a < b) : cmpC (fC num a) (fC num b) < 0 := by
  unfold cmpC fC
  rw [if_pos h]
  decide
theorem fRows_roll (num : Int) {n : Nat} (h : n ≤ 2000) : rollL fS (fRows num n) = (List.range n).map fun i => fC num (i : Nat) := by
  have e : (fRows num n).map (ofC fS) = (List.range n).map fun i => fC num (i : Nat) := by
    unfold fRows
    rw [List.map_map]
    refine List.map_congr_left fun i hi => ?_
    have := List.mem_range.1 hi
    exact f_of num _ (by omega) (by omega)
  unfold rollL
  rw [e]
  refine Put.puts_nil (cellRule fS.ms.length) ?_
  refine List.pairwise_map.2 ?_
  exact (List.pairwise_lt_range (n := n)).imp fun h => fC_lt (by omega)
theorem f_many (num : Int) (n : Nat) : ((List.range n).map fun i => fC num (i : Nat)).any manyB = false := by
  rw [List.any_eq_false]
  intro c hc
  obtain ⟨i, _, rfl⟩ := List.mem_map.1 hc
  unfold manyB fC
  simp
theorem fRows_err (num : Int) {n : Nat} (h : n ≤ 2000) : rollE fS (fRows num n) = if n ≤ 1000 then 0 else 121 := by
  unfold rollE
  rw [fS_right, List.all_eq_true.2 (fRows_fits num h), fRows_roll num h]
  unfold endsB
  rw [f_many]
  by_cases h1 : n ≤ 1000
  · simp [h1]
  · simp [h1]
theorem fAdd_list (num : Int) {n : Nat} (h : n ≤ 2000) : addL fS (rollL fS (fRows num n)) (fRow num 5000) = rollL fS (fRows num n) ++ [fC num 5000] := by
  unfold addL
  rw [f_of num 5000 (by omega) (by omega), fRows_roll num h]
  refine Put.put_last (cellRule fS.ms.length) fun x hx => ?_
  obtain ⟨i, hi, rfl⟩ := List.mem_map.1 hx
  have := List.mem_range.1 hi
  exact fC_lt (by omega)
theorem fRows_ok {num : Int} (hn : I64 num) (n : Nat) : RowsOk (fRows num n) := by
  intro r hr
  obtain ⟨i, _, rfl⟩ := List.mem_map.1 hr
  exact ⟨⟨by simp [fRow], fun v hv => by simp [fRow] at hv; subst hv; decide⟩, fun x hx => by simp [fRow] at hx; rw [hx]; exact hn⟩
theorem fAdd_err {num : Int} (hn : I64 num) {n : Nat} (h : n ≤ 1000) : addE fS (rollL fS (fRows num n)) (fRow num 5000) = if n < 1000 then 0 else 121 := by
  have hE : rollE fS (fRows num n) = 0 := by rw [fRows_err num (by omega), if_pos h]
  unfold addE
  rw [fS_right, rightB_roll hE (fRows_ok hn n), f_fits num 5000 (by omega) (by omega), fAdd_list num (by omega), fRows_roll num (by omega)]
  unfold endsB
  rw [List.any_append, f_many]
  have h5 : manyB (fC num 5000) = false := by unfold manyB fC; simp
  simp only [List.any_cons, List.any_nil, h5, List.length_append, List.length_map, List.length_range, List.length_cons, List.length_nil]
  by_cases h1 : n < 1000
  · rw [if_pos h1]; simp; omega
  · rw [if_neg h1]; simp; omega
end Go.Proofs.Ytdgeinipdphoeaa
