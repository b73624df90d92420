/- Slices of numbers that lie in memory, read as lists; the reference's 'Same'. -/
import Derived.Test.YtcdfbcmhikhnjaaDoorBase
import Derived.Deep.QuietTactic
import Derived.BigQuiet
namespace Go.Proofs.YtcdfbcmhikhnjaaDoor
set_option linter.unusedVariables false
set_option linter.unusedSimpArgs false
open Go.ChangeShapes Go.WideShapes Go.ChangeAt Go.RowKit

/-- The slice value v holds the numbers xs in the world w. -/
def IntsAt (w : World) (v : Value) (xs : List Int) : Prop :=
  ∃ ao cap, v = .slice ao xs.length cap ∧ (0 < xs.length → ∃ b off, ao = some ⟨b, off, none⟩ ∧ ∀ j, j < xs.length → w.cell? ⟨b, off + j, none⟩ = some (.int .i64 (xs[j]?.getD 0)))

theorem IntsAt.below {w w' : World} {v : Value} {xs : List Int} (h : IntsAt w v xs) (hb : Below w.heap.size w w') : IntsAt w' v xs := by
  obtain ⟨ao, cap, rfl, h⟩ := h
  refine ⟨ao, cap, rfl, fun hl => ?_⟩
  obtain ⟨b, off, rfl, hc⟩ := h hl
  exact ⟨b, off, rfl, fun j hj => (hb.cell (p := ⟨b, off + j, none⟩) (World.block_lt_of_cell? _ _ (hc j hj))).trans (hc j hj)⟩

theorem IntsAt.nil {w : World} (ao : Option Addr) (cap : Nat) : IntsAt w (.slice ao 0 cap) [] := ⟨ao, cap, rfl, fun h => by simp at h⟩

theorem IntsAt.own {w : World} {base : Nat} {e : TypeId} {v : Value} {xs : List Int} (h : w.ownsRow base e 1 v xs.length (xs.map (Value.int .i64))) : IntsAt w v xs := by
  rcases h.2 with ⟨rfl, h0⟩ | ⟨g, cap, cur, rfl, _⟩
  · obtain rfl : xs = [] := List.length_eq_zero_iff.1 h0
    exact IntsAt.nil _ _
  · refine ⟨_, cap, rfl, fun hl => ⟨g, 0, rfl, fun j hj => ?_⟩⟩
    have := h.cellAt j (by omega)
    rw [show (0 : Nat) + j = j from by omega, this]
    simp [hj]

/-- A literal slice of numbers. -/
theorem IntsAt.lit (w : World) (xs : List Int) (T : TypeId) (cap : Nat) : IntsAt (w.alloc (.cells (xs.map (Value.int .i64)).toArray T)) (.slice (some ⟨w.heap.size, 0, none⟩) xs.length cap) xs :=
  ⟨_, cap, rfl, fun _ => ⟨_, 0, rfl, fun j hj => by rw [World.cell?_alloc_at _ _ _ _ rfl]; simp [hj]⟩⟩

theorem take_ne_of {xs ys : List Int} (hlen : xs.length = ys.length) (k : Nat) (hk : k < xs.length) (h : ¬ xs[k]?.getD 0 = ys[k]?.getD 0) : ¬ xs = ys := fun e => h (by rw [e])
theorem take_succ_eq {xs ys : List Int} (hlen : xs.length = ys.length) (k : Nat) (hk : k < xs.length) (ht : xs.take k = ys.take k) (h : xs[k]?.getD 0 = ys[k]?.getD 0) : xs.take (k + 1) = ys.take (k + 1) := by
  have hk2 : k < ys.length := by omega
  rw [List.take_succ_eq_append_getElem hk, List.take_succ_eq_append_getElem hk2, ht]
  simp [hk, hk2] at h
  rw [h]

end Go.Proofs.YtcdfbcmhikhnjaaDoor
