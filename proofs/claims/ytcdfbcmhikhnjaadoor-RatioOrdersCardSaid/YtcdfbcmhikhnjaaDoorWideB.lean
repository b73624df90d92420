/- Wide numbers: the verifier's reference, its small functions; 'To' of either. -/
import Derived.Test.YtcdfbcmhikhnjaaDoorWideA
import Derived.Test.YtcdfbcmhikhnjaaDoorQTail
namespace Go.Proofs.YtcdfbcmhikhnjaaDoor
set_option linter.unusedVariables false
set_option linter.unusedSimpArgs false
open Go.ChangeShapes Go.WideShapes Go.ChangeAt Go.RowKit

theorem refOf_any (n : Int) (hn : -9223372036854775808 ≤ n ∧ n ≤ 9223372036854775807) (w : World) :
    Calls Tryd.prog 42 #[.int .i64 n] w fun e w' => e = .returned ((Value.agg #[.int .i64 (hiW (n)), .int .u64 (loW (n))])) ∧ Below w.heap.size w w' := by
  by_cases h : n < 0
  · go_enter Tryd.func42, Tryd.ntmps42
    go_wp2
    ((show bodyPost _ _ _ _ _ _); refine bodyPost_ret (by simp only [results, Tryd.results42]; go_simp; try rfl) rfl ?_)
    exact ⟨ret_wide (by unfold hiW; omega) (by rw [IntKind.wrap_u64]; rfl), by (repeat' (first | (with_reducible exact Below.refl _ _) | (with_reducible assumption) | (with_reducible refine Below.new ?_ _) | (with_reducible refine Below.alloc ?_ ?_ _) | (with_reducible refine Below.drew ?_) | (with_reducible refine Below.drewN ?_ _) | (with_reducible refine Below.setCell ?_ ?_ _) | (refine Below.step ?_ (by assumption)) | go_size))⟩
  · have h' : 0 ≤ n := by omega
    clear h
    go_enter Tryd.func42, Tryd.ntmps42
    go_wp2
    ((show bodyPost _ _ _ _ _ _); refine bodyPost_ret (by simp only [results, Tryd.results42]; go_simp; try rfl) rfl ?_)
    exact ⟨ret_wide (by unfold hiW; omega) (by first | (rw [IntKind.wrap_u64]; rfl) | (unfold loW; omega)), by (repeat' (first | (with_reducible exact Below.refl _ _) | (with_reducible assumption) | (with_reducible refine Below.new ?_ _) | (with_reducible refine Below.alloc ?_ ?_ _) | (with_reducible refine Below.drew ?_) | (with_reducible refine Below.drewN ?_ _) | (with_reducible refine Below.setCell ?_ ?_ _) | (refine Below.step ?_ (by assumption)) | go_size))⟩

theorem ret_two {a b c d : Int} {k : IntKind} (h1 : a = b) (h2 : c = d) : Ending.returned (.tuple #[.int k a, .int k c]) = .returned (.tuple #[.int k b, .int k d]) := by rw [h1, h2]

theorem half_any (x y : Int) (hx : 0 ≤ x ∧ x ≤ 18446744073709551615) (hy : 0 ≤ y ∧ y ≤ 18446744073709551615) (w : World) :
    Calls Tryd.prog 71 #[.int .u64 x, .int .u64 y] w fun e w' => e = .returned (.tuple #[.int .u64 ((x + y) % 18446744073709551616), .int .u64 ((x + y) / 18446744073709551616)]) ∧ w = w' := by
  go_enter Tryd.func71, Tryd.ntmps71
  go_wp2
  go_ret2
  exact ⟨ret_two (by omega) (by omega), rfl⟩

theorem refAdd_words (a b c d : Int) (ha : -9223372036854775808 ≤ a ∧ a ≤ 9223372036854775807) (hb : 0 ≤ b ∧ b ≤ 18446744073709551615) (hc : -9223372036854775808 ≤ c ∧ c ≤ 9223372036854775807) (hd : 0 ≤ d ∧ d ≤ 18446744073709551615) (w : World) :
    Calls Tryd.prog 41 #[.agg #[.int .i64 a, .int .u64 b], .agg #[.int .i64 c, .int .u64 d]] w fun e w' => e = .returned ((Value.agg #[.int .i64 (hiW (a * 18446744073709551616 + b + (c * 18446744073709551616 + d))), .int .u64 (loW (a * 18446744073709551616 + b + (c * 18446744073709551616 + d)))])) ∧ Below w.heap.size w w' := by
  have wa := wrap_pos a; have wa' := wrap_lt a; have wc := wrap_pos c; have wc' := wrap_lt c
  go_enter Tryd.func41, Tryd.ntmps41
  go_wp2_with (go_at_call 71; refine (half_any _ _ (by omega) (by omega) _).mono ?_; rintro e w1 ⟨rfl, rfl⟩)
  ((show bodyPost _ _ _ _ _ _); refine bodyPost_ret (by simp only [results, Tryd.results41]; go_simp; try rfl) rfl ?_)
  exact ⟨ret_wide (by simp only [IntKind.wrap_u64, IntKind.wrap_i64, wrap64]; unfold hiW; omega) (by unfold loW; omega), by (repeat' (first | (with_reducible exact Below.refl _ _) | (with_reducible assumption) | (with_reducible refine Below.new ?_ _) | (with_reducible refine Below.alloc ?_ ?_ _) | (with_reducible refine Below.drew ?_) | (with_reducible refine Below.drewN ?_ _) | (with_reducible refine Below.setCell ?_ ?_ _) | (refine Below.step ?_ (by assumption)) | go_size))⟩
theorem refAdd_any (n m : Int) (w : World) : Calls Tryd.prog 41 #[(Value.agg #[.int .i64 (hiW (n)), .int .u64 (loW (n))]), (Value.agg #[.int .i64 (hiW (m)), .int .u64 (loW (m))])] w fun e w' => e = .returned ((Value.agg #[.int .i64 (hiW (n + m)), .int .u64 (loW (n + m))])) ∧ Below w.heap.size w w' := by
  have h := refAdd_words (hiW n) (loW n) (hiW m) (loW m) (hiW_is n) (loW_is n) (hiW_is m) (loW_is m) w
  rw [wv_eq (n := hiW n * 18446744073709551616 + loW n + (hiW m * 18446744073709551616 + loW m)) (m := n + m) (by have := words n; have := words m; omega)] at h
  exact h

theorem refNeg_words (a b : Int) (ha : -9223372036854775808 ≤ a ∧ a ≤ 9223372036854775807) (hb : 0 ≤ b ∧ b ≤ 18446744073709551615) (w : World) :
    Calls Tryd.prog 15 #[.agg #[.int .i64 a, .int .u64 b]] w fun e w' => e = .returned ((Value.agg #[.int .i64 (hiW (-(a * 18446744073709551616 + b))), .int .u64 (loW (-(a * 18446744073709551616 + b)))])) ∧ Below w.heap.size w w' := by
  have e1 : (Value.agg #[.int .i64 (-1 - a), .int .u64 (18446744073709551615 - b)]) = (Value.agg #[.int .i64 (hiW ((-1 - a) * 18446744073709551616 + (18446744073709551615 - b))), .int .u64 (loW ((-1 - a) * 18446744073709551616 + (18446744073709551615 - b)))]) := wv_words (by omega) (by omega)
  have e2 : (Value.agg #[.int .i64 (hiW ((-1 - a) * 18446744073709551616 + (18446744073709551615 - b) + 1)), .int .u64 (loW ((-1 - a) * 18446744073709551616 + (18446744073709551615 - b) + 1))]) = (Value.agg #[.int .i64 (hiW (-(a * 18446744073709551616 + b))), .int .u64 (loW (-(a * 18446744073709551616 + b)))]) := wv_eq (by omega)
  rw [← e2]
  clear e2
  go_enter Tryd.func15, Tryd.ntmps15
  go_wp2
  have s0 : ((w.alloc (.cells #[.int .i64 a, .int .u64 b] 30)).alloc (.cells #[.int .i64 0, .int .u64 0] 30)).cell? ⟨w.heap.size, 0, none⟩ = some (.int .i64 a) := by go_simp
  have s1 : ((w.alloc (.cells #[.int .i64 a, .int .u64 b] 30)).alloc (.cells #[.int .i64 0, .int .u64 0] 30)).cell? ⟨w.heap.size, 1, none⟩ = some (.int .u64 b) := by go_simp
  have s2 : ((w.alloc (.cells #[.int .i64 a, .int .u64 b] 30)).alloc (.cells #[.int .i64 0, .int .u64 0] 30)).cell? ⟨w.heap.size + 1, 0, none⟩ = some (.int .i64 0) := by go_simp
  have s3 : ((w.alloc (.cells #[.int .i64 a, .int .u64 b] 30)).alloc (.cells #[.int .i64 0, .int .u64 0] 30)).cell? ⟨w.heap.size + 1, 1, none⟩ = some (.int .u64 0) := by go_simp
  have p0 := World.plus_cell s0; have p1 := World.plus_cell s1; have p2 := World.plus_cell s2; have p3 := World.plus_cell s3
  clear s0 s1 s2 s3
  refine wp_region_plus_tail (8) (by kernel_rfl) (by kernel_rfl) ?_
  simp only [List.take_succ_cons, List.take_zero, List.drop_succ_cons, List.drop_zero]
  repeat (first | go_big_quiet_skip | (go_big_quiet_want; go_big_quiet_op; first | go_big_quiet_on | go_big_quiet_call (((go_at_call 42; exact Calls.plus_of (refOf_any 1 (by omega) _))))))
  refine wpQuiet_nil ?_
  rintro _ ⟨xq, rfl⟩
  have kB := World.plus_below ((w.alloc (.cells #[.int .i64 a, .int .u64 b] 30)).alloc (.cells #[.int .i64 0, .int .u64 0] 30)) xq
  obtain ⟨hcq, hfq, hkq, hzq⟩ := bcell3 kB
  simp only [World.size_alloc] at hzq
  go_wp2_with (go_at_call 41; (try rw [e1]); (with_reducible refine (refAdd_any _ _ _).mono ?_); rintro e w2 ⟨rfl, hb2⟩; obtain ⟨hc2, hf2, hk2, hz2⟩ := bcell3 hb2; (try simp only [World.size_alloc, World.size_drew] at hz2); have : w.heap.size < w2.heap.size := (by omega); have : w.heap.size + 1 < w2.heap.size := (by omega); have r2 := cell_step (p2 xq) hb2; have r3 := cell_step (p3 xq) hb2)
  ((show bodyPost _ _ _ _ _ _); refine bodyPost_ret (by simp only [results, Tryd.results15]; go_simp; try rfl) rfl ?_)
  exact ⟨rfl, by (repeat' (first | (with_reducible exact Below.refl _ _) | (with_reducible assumption) | (with_reducible refine Below.new ?_ _) | (with_reducible refine Below.alloc ?_ ?_ _) | (with_reducible refine Below.drew ?_) | (with_reducible refine Below.drewN ?_ _) | (with_reducible refine Below.setCell ?_ ?_ _) | (refine Below.step ?_ (by assumption)) | go_size))⟩
end Go.Proofs.YtcdfbcmhikhnjaaDoor
