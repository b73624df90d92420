/- The statements of grain begin by 'shown': it is true. -/
import Derived.Test.YtekmcomddaoljaaGrainE
import Derived.Test.YtekmcomddaoljaaSame
namespace Go.Proofs.Ytekmcomddaoljaa
set_option linter.unusedVariables false
set_option linter.unusedSimpArgs false
open Go.ChangeShapes Go.WideShapes Go.ChangeAt Go.RowKit

theorem cut_one (w : World) : Calls Try.prog 19 #[.int .i64 125, .int .i64 60] w fun e w' => e = .returned (.tuple #[.int .i64 120, .int .i64 0]) ∧ Below w.heap.size w w' :=
  (cut_any 125 60 w).mono fun e w' ⟨he, hb⟩ => ⟨he.trans (by rw [show cutV 125 60 = 120 from by decide, show cutE 125 60 = 0 from by decide]), hb⟩
theorem cut_two (w : World) : Calls Try.prog 19 #[.int .i64 (-1), .int .i64 60] w fun e w' => e = .returned (.tuple #[.int .i64 0, .int .i64 110]) ∧ Below w.heap.size w w' :=
  (cut_any (-1) 60 w).mono fun e w' ⟨he, hb⟩ => ⟨he.trans (by rw [show cutV (-1) 60 = 0 from by decide, show cutE (-1) 60 = 110 from by decide]), hb⟩
theorem buckets_one (w : World) : Calls Try.prog 24 #[.agg #[.int .i64 60, .int .i64 240], .int .i64 60] w fun e w' => ∃ ao cap, e = .returned (.tuple #[.slice ao 3 cap, .int .i64 0]) ∧ IntsAt w' (.slice ao 3 cap) [60, 120, 180] ∧ Below w.heap.size w w' :=
  (buckets_any 60 240 60 w).mono fun e w' ⟨v, he, ho, _, hb⟩ => by
    rw [show bucketsL 60 240 60 = [60, 120, 180] from by decide] at ho
    have hi := IntsAt.own (xs := [60, 120, 180]) ho
    obtain ⟨ao, cap, rfl⟩ := ho.form
    exact ⟨ao, cap, he.trans (by rw [show bucketsE 60 240 60 = 0 from by decide]; rfl), hi, hb⟩
theorem lit3 (w : World) : IntsAt (w.alloc (.cells #[.int .i64 60, .int .i64 120, .int .i64 180] 2)) (.slice (some ⟨w.heap.size, 0, none⟩) 3 3) [60, 120, 180] := IntsAt.lit w [60, 120, 180] 2 3

set_option maxHeartbeats 1000000 in
theorem grainShown_any (w : World) : Calls Try.prog 18 #[] w fun e w' => e = .returned (.bool true) ∧ Below w.heap.size w w' := by
  go_enter Try.func18, Try.ntmps18
  go_wp2_with (first
    | (go_at_call 19; first | ((with_reducible refine (cut_one _).mono ?_); rintro e w1 ⟨rfl, hb1⟩) | ((with_reducible refine (cut_two _).mono ?_); rintro e w3 ⟨rfl, hb3⟩))
    | (go_at_call 24; ((with_reducible refine (buckets_one _).mono ?_); rintro e w2 ⟨ao, cap, rfl, hi, hb2⟩)))
  refine (same_any _ _ _ _ _ ((hi.below hb3).below ((Below.refl _ _).alloc (Nat.le_refl _) _)) (lit3 _) (by simp) (by simp)).mono ?_
  rintro e w4 ⟨rfl, hb4⟩
  go_wp2
  go_ret
  exact ⟨rfl, by (repeat' (first | (with_reducible exact Below.refl _ _) | (with_reducible assumption) | (with_reducible refine Below.new ?_ _) | (with_reducible refine Below.alloc ?_ ?_ _) | (with_reducible refine Below.drew ?_) | (with_reducible refine Below.setCell ?_ ?_ _) | (refine Below.step ?_ (by assumption)) | go_size))⟩
end Go.Proofs.Ytekmcomddaoljaa
