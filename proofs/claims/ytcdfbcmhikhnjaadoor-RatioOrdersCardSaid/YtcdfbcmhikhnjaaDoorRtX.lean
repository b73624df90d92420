/- Ratio: what the walks of the statements share, plainly. -/
import Derived.Test.YtcdfbcmhikhnjaaDoorRtW
import Derived.Test.YtcdfbcmhikhnjaaDoorOpenA
namespace Go.Proofs.YtcdfbcmhikhnjaaDoor
set_option linter.unusedVariables false
set_option linter.unusedSimpArgs false
set_option maxRecDepth 100000
open Go.ChangeShapes Go.WideShapes Go.ChangeAt Go.RowKit Go.Fl

theorem ofR_top {A n : Nat} (hA : A < 2 ^ 128) (hA0 : 0 < A) (hn : 0 < n) (hn2 : n ≤ 20000000000) : ofR A n < 2 ^ 63 := by
  have := (ofR_lt hA0 hA hn (by omega)).2
  omega
/-- A ratio's word. -/
theorem ofF_main {a n : Int} (h0 : a ≠ 0) (h1 : 0 < n) (h2 : n ≤ 20000000000) : ofF a n = Ieee.double.word (decide (a < 0)) (ofR a.natAbs n.toNat) := by
  unfold ofF
  rw [of_good (by omega) h2, if_neg (by simp), if_neg (by omega), if_neg h0]
theorem ofF_lt {a n : Int} (ha : I128 a) : ofF a n < 2 ^ 64 := by
  by_cases hb : n < 0 ∨ 20000000000 < n
  · unfold ofF; rw [of_bad hb, if_pos rfl]; decide
  · by_cases h0 : n = 0
    · subst h0
      unfold ofF
      rw [of_good (by decide) (by decide), if_neg (by simp), if_pos rfl]
      split
      · decide
      · exact (word_mod _ (by decide)).2.2
    · by_cases ha0 : a = 0
      · unfold ofF
        rw [of_good (by omega) (by omega), if_neg (by simp), if_neg h0, if_pos ha0]
        decide
      · rw [ofF_main ha0 (by omega) (by omega)]
        exact (word_mod _ (ofR_top (by omega) (by omega) (by omega) (by omega))).2.2
theorem self_same (F : Nat) (h : F < 2 ^ 64) (w : World) : Calls Tryd.prog 18 #[.float .f64 F, .float .f64 F] w fun e w' => e = .returned (.bool true) ∧ w = w' := by
  have := rsame_any F F h h w
  rw [show decide (keyI F = keyI F) = true by simp] at this
  exact this.mono fun e w' h => ⟨h.1, h.2.symm⟩
theorem i128_of {a b : Int} (ha : I64 a) (hb : U64 b) : I128 (a * 18446744073709551616 + b) := by
  unfold I64 at ha
  unfold U64 at hb
  constructor <;> omega
end Go.Proofs.YtcdfbcmhikhnjaaDoor
