/- Ratio: the reference's 'bits' and 'Of'. -/
import Derived.Test.YtcdfbcmhikhnjaaDoorRtF
namespace Go.Proofs.YtcdfbcmhikhnjaaDoor
set_option linter.unusedVariables false
set_option linter.unusedSimpArgs false
set_option maxRecDepth 100000
open Go.ChangeShapes Go.WideShapes Go.ChangeAt Go.RowKit Go.Fl
attribute [local go_sem] frombits_lit Int.toNat_natCast

theorem bits_mask (m : Nat) (h : m < 2 ^ 64) : bits .and .u64 (m : Int) 4503599627370495 = ((m % 2 ^ 52 : Nat) : Int) := by
  have := bits_and m 4503599627370495 h (by decide)
  rw [show (4503599627370495 : Nat) = 2 ^ 52 - 1 by decide, Nat.and_two_pow_sub_one_eq_mod] at this
  exact this
theorem bits_join (F m : Nat) (hF : F < 2048) : bits .or .u64 ((F * 2 ^ 52 : Nat) : Int) ((m % 2 ^ 52 : Nat) : Int) = ((F * 2 ^ 52 + m % 2 ^ 52 : Nat) : Int) := by
  have hm : m % 2 ^ 52 < 2 ^ 52 := Nat.mod_lt _ (by decide)
  rw [bits_or _ _ (by omega) (by omega), Nat.mul_comm F, ← Nat.two_pow_add_eq_or_of_lt hm]
theorem bits_sign {r : Nat} (h : r < 2 ^ 63) : bits .or .u64 (r : Int) 9223372036854775808 = ((Ieee.double.word true r : Nat) : Int) := by
  have := bits_or r 9223372036854775808 (by omega) (by decide)
  rw [show (9223372036854775808 : Nat) = (if true then 2 ^ 63 else 0) by decide, or_sign h] at this
  exact this
theorem rbits_any (neg : Bool) (F m : Nat) (h1 : 1 ≤ F) (h2 : F < 2047) (h3 : 2 ^ 52 ≤ m) (h4 : m < 2 ^ 53) (w : World) :
    Calls Tryd.prog 45 #[.bool neg, .int .u64 (m : Int), .int .i64 ((F : Int) - 1075)] w fun e w' => e = .returned (.int .u64 ((Ieee.double.word neg ((F - 1) * 2 ^ 52 + m) : Nat) : Int)) ∧ w' = w := by
  have q1 := bits_mask m (by omega)
  have q2 := bits_join F m (by omega)
  have er : F * 2 ^ 52 + m % 2 ^ 52 = (F - 1) * 2 ^ 52 + m := by omega
  rw [er] at q2
  have q3 := bits_sign (show (F - 1) * 2 ^ 52 + m < 2 ^ 63 by omega)
  obtain ⟨R, hR⟩ : ∃ R, (F - 1) * 2 ^ 52 + m = R := ⟨_, rfl⟩
  rw [hR] at q2 q3 ⊢
  obtain ⟨Z, hZ⟩ : ∃ Z : Int, ((F * 2 ^ 52 : Nat) : Int) = Z := ⟨_, rfl⟩
  have s1 : IntKind.u64.wrap ((F : Int) * 4503599627370496) = Z := by rw [← hZ, IntKind.wrap_u64]; omega
  have s2 : IntKind.i64.wrap ((F : Int) - 1075 + 52) = (F : Int) - 1023 := by simp only [IntKind.wrap_i64];  omega
  have s3 : IntKind.i64.wrap ((F : Int) - 1023 + 1023) = (F : Int) := by simp only [IntKind.wrap_i64];  omega
  have s4 : IntKind.u64.wrap (F : Int) = (F : Int) := by rw [IntKind.wrap_u64]; omega
  rw [hZ, show ((m % 2 ^ 52 : Nat) : Int) = (m : Int) % 4503599627370496 by omega] at q2
  rw [show ((m % 2 ^ 52 : Nat) : Int) = (m : Int) % 4503599627370496 by omega] at q1
  cases neg
  · rw [word_false]
    clear er hR hZ h3 h4 q3
    go_enter Tryd.func45, Tryd.ntmps45
    go_wp2
    go_ret
    exact ⟨rfl, rfl⟩
  · clear er hR hZ h3 h4
    go_enter Tryd.func45, Tryd.ntmps45
    go_wp2
    go_ret
    exact ⟨rfl, rfl⟩
end Go.Proofs.YtcdfbcmhikhnjaaDoor
