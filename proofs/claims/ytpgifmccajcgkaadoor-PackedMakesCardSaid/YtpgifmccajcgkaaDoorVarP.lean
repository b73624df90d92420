/- Varints, plain: what a number's bytes say. -/
import Derived.Test.YtpgifmccajcgkaaDoorVarB
namespace Go.Proofs.YtpgifmccajcgkaaDoor
set_option linter.unusedVariables false

/-- What bytes say: seven binary digits each, the least first. -/
def valB : List UInt8 → Nat
  | [] => 0
  | b :: l => b.toNat % 128 + 128 * valB l
theorem valB_putB (n : Nat) : valB (putB n) = n := by
  induction n using Nat.strongRecOn with
  | _ n ih =>
    rw [putB]
    split
    · simp [valB]; omega
    · rw [valB, ih (n / 128) (by omega)]
      simp
      omega
/-- All bytes but the last bear the mark 'more'; the last does not. -/
theorem putB_marks (n : Nat) : ∃ l b, putB n = l ++ [b] ∧ b.toNat < 128 ∧ (∀ c ∈ l, 128 ≤ c.toNat) ∧ (l ≠ [] → b.toNat ≠ 0) := by
  induction n using Nat.strongRecOn with
  | _ n ih =>
    rw [putB]
    split
    · exact ⟨[], UInt8.ofNat n, rfl, by simp; omega, by simp, by simp⟩
    · obtain ⟨l, b, h1, h2, h3, h4⟩ := ih (n / 128) (by omega)
      refine ⟨UInt8.ofNat (128 + n % 128) :: l, b, by rw [h1]; rfl, h2, fun c hc => ?_, fun _ => ?_⟩
      · rcases List.mem_cons.1 hc with rfl | hc
        · simp; omega
        · exact h3 c hc
      · by_cases hl : l = []
        · subst hl
          intro hb
          have h5 := valB_putB (n / 128)
          rw [h1] at h5
          simp [valB, hb] at h5
          omega
        · exact h4 hl
end Go.Proofs.YtpgifmccajcgkaaDoor
