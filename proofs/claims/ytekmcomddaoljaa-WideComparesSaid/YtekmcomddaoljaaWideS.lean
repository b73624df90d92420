/- The statements of wide begin by 'shown': it is true. -/
import Derived.Test.YtekmcomddaoljaaWideJ
namespace Go.Proofs.Ytekmcomddaoljaa
set_option linter.unusedVariables false
set_option linter.unusedSimpArgs false
open Go.ChangeShapes Go.WideShapes Go.ChangeAt Go.RowKit

theorem sum_one (w : World) : Calls Try.prog 31 #[.slice (some ⟨w.heap.size, 0, none⟩) 2 2] (w.alloc (.cells #[.int .i64 9223372036854775807, .int .i64 1] 2)) fun e w' => e = .returned (.agg #[.int .i64 0, .int .u64 9223372036854775808]) ∧ Below (w.alloc (.cells #[.int .i64 9223372036854775807, .int .i64 1] 2)).heap.size (w.alloc (.cells #[.int .i64 9223372036854775807, .int .i64 1] 2)) w' := by
  have h := sum_any _ [9223372036854775807, 1] _ (IntsAt.lit w [9223372036854775807, 1] 2 2) (by simp) (fun k hk => by
    match k, hk with
    | 0, _ => simp
    | 1, _ => simp)
  rw [show hiW (sumI [9223372036854775807, 1]) = 0 from by decide, show loW (sumI [9223372036854775807, 1]) = 9223372036854775808 from by decide] at h
  exact h
theorem to_one (w : World) : Calls Try.prog 46 #[.agg #[.int .i64 0, .int .u64 9223372036854775808]] w fun e w' => e = .returned (.tuple #[.int .i64 0, .int .i64 10]) ∧ Below w.heap.size w w' := by
  have h := to_any 9223372036854775808 w
  rw [show hiW 9223372036854775808 = 0 from by decide, show loW 9223372036854775808 = 9223372036854775808 from by decide, show toV 9223372036854775808 = 0 from by simp [toV, toE, fitsW, wrap64, hiW, loW], show toE 9223372036854775808 = 10 from by simp [toV, toE, fitsW, wrap64, hiW, loW]] at h
  exact h
theorem to_two (w : World) : Calls Try.prog 46 #[.agg #[.int .i64 0, .int .u64 9223372036854775807]] w fun e w' => e = .returned (.tuple #[.int .i64 9223372036854775807, .int .i64 0]) ∧ Below w.heap.size w w' := by
  have h := to_any 9223372036854775807 w
  rw [show hiW 9223372036854775807 = 0 from by decide, show loW 9223372036854775807 = 9223372036854775807 from by decide, show toV 9223372036854775807 = 9223372036854775807 from by simp [toV, toE, fitsW, wrap64, hiW, loW], show toE 9223372036854775807 = 0 from by simp [toV, toE, fitsW, wrap64, hiW, loW]] at h
  exact h
theorem of_one (w : World) : Calls Try.prog 39 #[.int .i64 (-1)] w fun e w' => e = .returned (.agg #[.int .i64 (-1), .int .u64 18446744073709551615]) ∧ Below w.heap.size w w' := by
  have h := of_any (-1) (by decide) w
  rw [show hiW (-1) = -1 from by decide, show loW (-1) = 18446744073709551615 from by decide] at h
  exact h
theorem add_one (w : World) : Calls Try.prog 34 #[.agg #[.int .i64 0, .int .u64 9223372036854775808], .agg #[.int .i64 (-1), .int .u64 18446744073709551615]] w fun e w' => e = .returned (.agg #[.int .i64 0, .int .u64 9223372036854775807]) ∧ Below w.heap.size w w' := by
  have h := add_words 0 9223372036854775808 (-1) 18446744073709551615 (by decide) (by decide) (by decide) (by decide) w
  rw [show hiW (0 * 18446744073709551616 + 9223372036854775808 + (-1 * 18446744073709551616 + 18446744073709551615)) = 0 from by decide, show loW (0 * 18446744073709551616 + 9223372036854775808 + (-1 * 18446744073709551616 + 18446744073709551615)) = 9223372036854775807 from by decide] at h
  exact h

set_option maxRecDepth 100000 in
set_option maxHeartbeats 1000000 in
theorem wideShown_any (w : World) : Calls Try.prog 30 #[] w fun e w' => e = .returned (.bool true) ∧ Below w.heap.size w w' := by
  go_enter Try.func30, Try.ntmps30
  go_wp2_with (first
    | (go_at_call 31; (with_reducible refine (sum_one _).mono ?_); rintro e w1 ⟨rfl, hb1⟩; have hz1 := hb1.size; simp only [World.size_alloc] at hz1)
    | (go_at_call 46; (with_reducible refine (to_one _).mono ?_); rintro e w2 ⟨rfl, hb2⟩; have hz2 := hb2.size; simp only [World.size_alloc] at hz2; have hA := (hb2.block w1.heap.size (by simp)).trans (heap_at rfl); obtain ⟨c0, c1, _, _, _⟩ := two_is hA; have hB2 : Below w.heap.size w w2 := (by (repeat' (first | (with_reducible exact Below.refl _ _) | (with_reducible assumption) | (with_reducible refine Below.new ?_ _) | (with_reducible refine Below.alloc ?_ ?_ _) | (with_reducible refine Below.drew ?_) | (with_reducible refine Below.setCell ?_ ?_ _) | (refine Below.step ?_ (by assumption)) | go_size)))))
  have p0 := World.plus_cell c0; have p1 := World.plus_cell c1
  refine wp_region_plus (by kernel_rfl) (by kernel_rfl) ?_
  repeat (first | go_big_quiet_skip | (go_big_quiet_want; go_big_quiet_op; first | go_big_quiet_on | go_big_quiet_call ((first | (go_at_call 39; exact Calls.plus_of (of_one _)) | (go_at_call 34; exact Calls.plus_of (add_one _)) | (go_at_call 46; exact Calls.plus_of (to_two _))))))
  refine wpQuiet_nil ?_
  rintro _ ⟨xq, rfl⟩
  have kB := World.plus_below w2 xq
  go_wp2
  go_ret
  exact ⟨rfl, by (repeat' (first | (with_reducible exact Below.refl _ _) | (with_reducible assumption) | (with_reducible refine Below.new ?_ _) | (with_reducible refine Below.alloc ?_ ?_ _) | (with_reducible refine Below.drew ?_) | (with_reducible refine Below.setCell ?_ ?_ _) | (refine Below.step ?_ (by assumption)) | go_size))⟩
end Go.Proofs.Ytekmcomddaoljaa
