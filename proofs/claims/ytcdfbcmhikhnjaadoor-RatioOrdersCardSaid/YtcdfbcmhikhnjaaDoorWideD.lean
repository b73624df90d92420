/- Wide numbers: 'Compare' and 'Shift' of either. -/
import Derived.Test.YtcdfbcmhikhnjaaDoorWideC
namespace Go.Proofs.YtcdfbcmhikhnjaaDoor
set_option linter.unusedVariables false
set_option linter.unusedSimpArgs false
open Go.ChangeShapes Go.WideShapes Go.ChangeAt Go.RowKit

def cmpW (a b c d : Int) : Int := if a = c then sgnI b d else sgnI a c
theorem sgn_zero {a b : Int} : sgnI a b = 0 ↔ a = b := by unfold sgnI; split; · omega
                                                          split <;> omega
theorem cmp_words (a b c d : Int) (w : World) :
    Calls Tryd.prog 36 #[.agg #[.int .i64 a, .int .u64 b], .agg #[.int .i64 c, .int .u64 d]] w fun e w' => e = .returned (.int .i64 (cmpW a b c d)) ∧ Below w.heap.size w w' := by
  have hz : (if sgnI a c = 0 then sgnI b d else sgnI a c) = cmpW a b c d := by simp only [sgn_zero, cmpW]
  rw [← hz]
  clear hz
  obtain ⟨p, hp⟩ : ∃ p, sgnI a c = p := ⟨_, rfl⟩
  obtain ⟨q, hq⟩ : ∃ q, sgnI b d = q := ⟨_, rfl⟩
  rw [hp, hq]
  have c1 := hid (fun w => cmp_i a c w); have c2 := hid (fun w => cmp_u b d w)
  rw [hp] at c1; rw [hq] at c2
  clear hp hq
  go_enter Tryd.func36, Tryd.ntmps36
  go_wp2
  have s0 : ((w.alloc (.cells #[.int .i64 a, .int .u64 b] 30)).alloc (.cells #[.int .i64 c, .int .u64 d] 30)).cell? ⟨w.heap.size, 0, none⟩ = some (.int .i64 a) := by go_simp
  have s1 : ((w.alloc (.cells #[.int .i64 a, .int .u64 b] 30)).alloc (.cells #[.int .i64 c, .int .u64 d] 30)).cell? ⟨w.heap.size, 1, none⟩ = some (.int .u64 b) := by go_simp
  have s2 : ((w.alloc (.cells #[.int .i64 a, .int .u64 b] 30)).alloc (.cells #[.int .i64 c, .int .u64 d] 30)).cell? ⟨w.heap.size + 1, 0, none⟩ = some (.int .i64 c) := by go_simp
  have s3 : ((w.alloc (.cells #[.int .i64 a, .int .u64 b] 30)).alloc (.cells #[.int .i64 c, .int .u64 d] 30)).cell? ⟨w.heap.size + 1, 1, none⟩ = some (.int .u64 d) := by go_simp
  have p0 := World.plus_cell s0; have p1 := World.plus_cell s1; have p2 := World.plus_cell s2; have p3 := World.plus_cell s3
  clear s0 s1 s2 s3
  refine wp_region_plus_tail (10) (by kernel_rfl) (by kernel_rfl) ?_
  simp only [List.take_succ_cons, List.take_zero, List.drop_succ_cons, List.drop_zero]
  repeat (first | go_big_quiet_skip | (go_big_quiet_want; go_big_quiet_op; first | go_big_quiet_on | go_big_quiet_call (((first | (go_at_call 66; exact Calls.plus_of_same (c1.out _)) | (go_at_call 67; exact Calls.plus_of_same (c2.out _)))))))
  refine wpQuiet_nil ?_
  rintro _ ⟨xq, rfl⟩
  have kB := World.plus_below ((w.alloc (.cells #[.int .i64 a, .int .u64 b] 30)).alloc (.cells #[.int .i64 c, .int .u64 d] 30)) xq
  go_wp2_with (go_at_call 31; refine (or_two p q _ _ _ (by go_simp) (by go_simp)).mono ?_; rintro e w1 ⟨rfl, rfl⟩)
  all_goals
    go_ret
    exact ⟨rfl, by (repeat' (first | (with_reducible exact Below.refl _ _) | (with_reducible assumption) | (with_reducible refine Below.new ?_ _) | (with_reducible refine Below.alloc ?_ ?_ _) | (with_reducible refine Below.drew ?_) | (with_reducible refine Below.drewN ?_ _) | (with_reducible refine Below.setCell ?_ ?_ _) | (refine Below.step ?_ (by assumption)) | go_size))⟩

/-- A shift's number. -/
def shiftV (n s : Int) : Int := if 0 ≤ s ∧ s ≤ 127 then n * 2 ^ s.toNat else 0

end Go.Proofs.YtcdfbcmhikhnjaaDoor
