/- Schemas: the library's slices.Grow at a nil slice. -/
import Derived.Test.YtdgeinipdphoeaaSchC
import Derived.Lib.AppendZeros
namespace Go.Proofs.Ytdgeinipdphoeaa
set_option linter.unusedVariables false
set_option linter.unusedSimpArgs false
set_option maxRecDepth 100000
open Go.ChangeShapes Go.WideShapes Go.ChangeAt Go.RowKit

theorem info_string : (Try.prog.info? 9).map (fun i => (i.zero, i.size, i.bytes)) = some (some (.string { data := #[] }), 1, 16) := by kernel_rfl
theorem grow_zero (w : World) : Calls Try.prog 82 #[.slice none 0 0, .int .i64 0] w fun e w' => e = .returned (.slice none 0 0) ∧ w = w' := by
  go_enter Try.func82, Try.ntmps82
  go_wp2
  go_ret
  exact ⟨rfl, rfl⟩
theorem grow_some (n : Nat) (hn : 0 < n) (hb : n ≤ 1000000) (w : World) : Calls Try.prog 82 #[.slice none 0 0, .int .i64 (n : Int)] w fun e w' => ∃ v, e = .returned v ∧ w'.ownsRow w.heap.size 9 1 v 0 [] ∧ Below w.heap.size w w' := by
  obtain ⟨i0, hi, hiz0, hiz1, hiz2⟩ := info_parts info_string
  have hw : wrap64 ((n : Int) - 0) = (n : Int) := by unfold wrap64; omega
  go_enter Try.func82, Try.ntmps82
  go_wp2_with (at_builtin; go_loud (refine Lib.wpList_append_run _ rfl _ _ _ _ rfl _ _ rfl rfl _ _ (Lib.run_append_nil_zeros _ 22 3 22 9 i0 (.string { data := #[] }) .i64 .i64 Try.underlying22 Try.underlying3 hi hiz0 n hn (by omega) (by omega) (by rw [hiz2]; omega)) ?_))
  go_ret
  have hcap := grownCap_ge w n 0 9
  refine ⟨_, rfl, ⟨rfl, .inr ⟨w.heap.size, grownCap w n 0 9, _, rfl, Nat.le_refl _, (show (w.alloc _).heap[w.heap.size]? = _ from heap_at rfl), Nat.zero_le _, grownCap_le_maxLen w n 0 _ (by unfold maxLen; omega), ?_, by simp⟩⟩, by (repeat' (first | (with_reducible exact Below.refl _ _) | (with_reducible assumption) | (with_reducible refine Below.new ?_ _) | (with_reducible refine Below.alloc ?_ ?_ _) | (with_reducible refine Below.drew ?_) | (with_reducible refine Below.setCell ?_ ?_ _) | (refine Below.step ?_ (by assumption)) | go_size))⟩
  rw [Array.size_append, size_zeroCells, size_zeroCells]
  simp [Value.cells]
  omega
theorem grow_any (n : Nat) (hb : n ≤ 1000000) (w : World) : Calls Try.prog 82 #[.slice none 0 0, .int .i64 (n : Int)] w fun e w' => ∃ v, e = .returned v ∧ w'.ownsRow w.heap.size 9 1 v 0 [] ∧ Below w.heap.size w w' := by
  by_cases h : n = 0
  · subst h
    exact (grow_zero w).mono fun e w' ⟨h1, h2⟩ => ⟨_, h1, World.ownsRow_nil _ _ _ _, h2 ▸ Below.refl _ _⟩
  · exact grow_some n (by omega) hb w
end Go.Proofs.Ytdgeinipdphoeaa
