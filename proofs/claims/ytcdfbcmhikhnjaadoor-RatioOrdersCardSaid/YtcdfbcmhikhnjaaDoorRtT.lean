/- Ratio: the program's 'Text': the tail, behind the words. Plain facts first. -/
import Derived.Test.YtcdfbcmhikhnjaaDoorRtS
import Derived.Test.YtcdfbcmhikhnjaaDoorRtN
import Derived.Laws.FloatArith
namespace Go.Proofs.YtcdfbcmhikhnjaaDoor
set_option linter.unusedVariables false
set_option linter.unusedSimpArgs false
set_option maxRecDepth 100000
open Go.ChangeShapes Go.WideShapes Go.ChangeAt Go.RowKit Go.Fl

/-- 53 digits below 1, times 2^53: the whole number of these digits, as a floating one. -/
theorem whole_53 {m : Nat} (h1 : 2 ^ 52 ≤ m) (h2 : m < 2 ^ 53) : Rep (1021 * 2 ^ 52 + m) 1021 m ∧ Rep (1074 * 2 ^ 52 + m) 1074 m ∧ Same2 m ((1021 : Nat) + 53) 1074 m :=
  ⟨⟨rfl, h2, .inr h1, by omega, by omega⟩, ⟨rfl, h2, .inr h1, by omega, by omega⟩, .inl ⟨0, by omega, by simp⟩⟩
theorem read_53 {m : Nat} (h1 : 2 ^ 52 ≤ m) (h2 : m < 2 ^ 53) : Ieee.double.read (1074 * 2 ^ 52 + m) = .number false m 0 := by
  have h := (whole_53 h1 h2).2.1.read false
  rw [word_false] at h
  exact h
theorem toInt_53 {m : Nat} (h1 : 2 ^ 52 ≤ m) (h2 : m < 2 ^ 53) : floatToIntVal .f64 (1074 * 2 ^ 52 + m) .u64 = some (m : Int) := by
  unfold floatToIntVal FloatKind.decode
  rw [f64_format, read_53 h1 h2]
  have e : Ieee.Datum.toInt .zero (.number false m 0) = some (m : Int) := by
    simp [Ieee.Datum.toInt, Ieee.Datum.integral, Ieee.signed, Ieee.Toward.cut]
  rw [e]
  have b1 : IntKind.u64.min = 0 := rfl
  have b2 : IntKind.u64.max = 18446744073709551615 := rfl
  rw [b1, b2]
  simp only []
  rw [if_pos (by omega)]
end Go.Proofs.YtcdfbcmhikhnjaaDoor
