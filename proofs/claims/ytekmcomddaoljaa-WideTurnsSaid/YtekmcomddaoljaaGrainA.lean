/- Contracts of the functions of package grain and of its reference that only compute. -/
import Derived.Test.YtekmcomddaoljaaBase
namespace Go.Proofs.Ytekmcomddaoljaa
set_option linter.unusedVariables false
set_option linter.unusedSimpArgs false
open Go.ChangeShapes Go.WideShapes Go.ChangeAt Go.RowKit

def isTimeB (t : Int) : Bool := decide (0 ≤ t) && decide (t < 1000000000001)
def isGrainB (g : Int) : Bool := decide (1 ≤ g) && decide (g ≤ 1000000000)
def rightB (f t : Int) : Bool := decide (0 ≤ f) && decide (f ≤ t) && decide (t ≤ 1000000000001)

theorem isTime_any (t : Int) (w : World) :
    Calls Try.prog 52 #[.int .i64 t] w fun e w' => e = .returned (.bool (isTimeB t)) ∧ w = w' := by
  go_enter Try.func52, Try.ntmps52
  go_wp2
  all_goals go_ret
  · exact ⟨by simp [isTimeB, *], rfl⟩
  · have h : ¬ 0 ≤ t := by omega
    exact ⟨by simp [isTimeB, h], rfl⟩

theorem refIsTime_any (t : Int) (w : World) :
    Calls Try.prog 55 #[.int .i64 t] w fun e w' => e = .returned (.bool (isTimeB t)) ∧ w = w' := by
  go_enter Try.func55, Try.ntmps55
  go_wp2
  all_goals go_ret
  · exact ⟨by simp [isTimeB, *]; omega, rfl⟩
  · have h : ¬ 0 ≤ t := by omega
    exact ⟨by simp [isTimeB, h], rfl⟩

theorem refIsGrain_any (t : Int) (w : World) :
    Calls Try.prog 56 #[.int .i64 t] w fun e w' => e = .returned (.bool (isGrainB t)) ∧ w = w' := by
  go_enter Try.func56, Try.ntmps56
  go_wp2
  all_goals go_ret
  · exact ⟨by simp [isGrainB, *], rfl⟩
  · have h : ¬ 1 ≤ t := by omega
    exact ⟨by simp [isGrainB, h], rfl⟩

/-- 'areGrains' over a slice of numbers that lie in memory. -/
theorem areGrains_any (zs : List Int) (b off cap : Nat) (w : World) (hlen : zs.length ≤ 1000) (hoff : off ≤ 1000)
    (hc : ∀ j, j < zs.length → w.cell? ⟨b, off + j, none⟩ = some (.int .i64 (zs[j]?.getD 0))) :
    Calls Try.prog 53 #[.slice (some ⟨b, off, none⟩) zs.length cap] w fun e w' => e = .returned (.bool (zs.all isGrainB)) ∧ w = w' := by
  go_enter Try.func53, Try.ntmps53
  go_wp2
  go_loop [4, 7] (fun g i => ∃ k : Nat, k ≤ zs.length ∧ i = .int .i64 k ∧ (zs.take k).all isGrainB = true) (fun _ i => zs.length - (intOf i).toNat)
  case atStart => exact ⟨0, Nat.zero_le _, rfl, rfl⟩
  case round =>
    obtain ⟨k, hk, rfl, hall⟩ := hrel
    have hcell : k < zs.length → w.cell? ⟨b, off + k, none⟩ = some (.int .i64 (zs[k]?.getD 0)) := fun _ => hc k (by omega)
    have HB := hid (fun h => all_take_succ zs isGrainB k h hall)
    have HG := hid (fun h => all_false_of zs isGrainB k h)
    have HA := hid hall
    clear hall
    go_wp2
    · have hlt : k < zs.length := by assumption
      go_ret
      exact ⟨ret_bool (HG.out hlt (by simp [isGrainB]; omega)).symm, rfl⟩
    · have hlt : k < zs.length := by assumption
      go_round
      case rel => exact ⟨k + 1, by omega, by go_num, by rw [HB.out hlt]; simp [isGrainB, *]⟩
      case measure => simp [intOf]; omega
    · have hlt : k < zs.length := by assumption
      go_ret
      exact ⟨ret_bool (HG.out hlt (by simp [isGrainB]; omega)).symm, rfl⟩
    · have hge : ¬ k < zs.length := by assumption
      obtain rfl : k = zs.length := by omega
      go_ret
      exact ⟨ret_bool (by have := HA.out; rw [List.take_length] at this; exact this.symm), rfl⟩

theorem right_any (f t : Int) (w : World) :
    Calls Try.prog 23 #[.agg #[.int .i64 f, .int .i64 t]] w fun e w' => e = .returned (.bool (rightB f t)) ∧ Below w.heap.size w w' := by
  go_enter Try.func23, Try.ntmps23
  go_wp2
  all_goals go_ret
  all_goals refine ⟨ret_bool ?_, by go_grown⟩
  all_goals simp [rightB]
  all_goals omega

end Go.Proofs.Ytekmcomddaoljaa
