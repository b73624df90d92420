/- Wide numbers: the program's 'Shift'. -/
import Derived.Test.YtcdfbcmhikhnjaaDoorWideD
namespace Go.Proofs.YtcdfbcmhikhnjaaDoor
set_option linter.unusedVariables false
set_option linter.unusedSimpArgs false
open Go.ChangeShapes Go.WideShapes Go.ChangeAt Go.RowKit

theorem bits_or_i64 (x y : Int) : bits .or .i64 x y = IntKind.i64.wrap (((BitVec.ofInt 64 x).toNat ||| (BitVec.ofInt 64 y).toNat : Nat) : Int) := by
  show IntKind.i64.wrap ((BitVec.ofInt 64 x ||| BitVec.ofInt 64 y).toNat : Int) = _
  rw [BitVec.toNat_or]
theorem ofInt_nat (x : Int) (X : Nat) (h : x % 18446744073709551616 = (X : Int)) : (BitVec.ofInt 64 x).toNat = X := by
  rw [BitVec.toNat_ofInt]
  have e : ((2 ^ 64 : Nat) : Int) = 18446744073709551616 := by simp
  rw [e, h, Int.toNat_natCast]

theorem wrap_mod (x : Int) : wrap64 x % 18446744073709551616 = x % 18446744073709551616 := by unfold wrap64; omega
theorem wrap_mod_add (x y : Int) : x % 18446744073709551616 + y + 9223372036854775808 = x % 18446744073709551616 + y + 9223372036854775808 ∧ wrap64 (x % 18446744073709551616 + y) = wrap64 (x + y) := by refine ⟨rfl, ?_⟩; unfold wrap64; omega

theorem or_words (a y : Int) (N : Nat) (hN : N < 64) (h0 : 0 ≤ y) (h1 : y < 2 ^ N) : bits .or .i64 (wrap64 (a * 2 ^ N)) (wrap64 y) = wrap64 (a * 2 ^ N + y) := by
  have hP : (0 : Int) < 2 ^ N := Int.pow_pos (by decide)
  have hPQ : (2 : Int) ^ (64 - N) * 2 ^ N = 18446744073709551616 := by
    rw [← Int.pow_add, Nat.sub_add_cancel (by omega)]; simp
  have hle : (2 : Int) ^ N ≤ 18446744073709551616 := by
    rw [← hPQ]
    have h2 : (0 : Int) < 2 ^ (64 - N) := Int.pow_pos (by decide)
    have h3 : (1 : Int) ≤ 2 ^ (64 - N) := h2
    have := Int.mul_le_mul_of_nonneg_right h3 (Int.le_of_lt hP)
    omega
  have hx : a * 2 ^ N % 18446744073709551616 = a % 2 ^ (64 - N) * 2 ^ N := by
    rw [← hPQ, Int.mul_comm a, Int.mul_comm (2 ^ (64 - N)) (2 ^ N), Int.mul_emod_mul_of_pos _ _ hP, Int.mul_comm]
  have hc : 0 ≤ a % 2 ^ (64 - N) := Int.emod_nonneg _ (by have : (0 : Int) < 2 ^ (64 - N) := Int.pow_pos (by decide); omega)
  obtain ⟨c, hc'⟩ := Int.eq_ofNat_of_zero_le hc
  obtain ⟨Y, rfl⟩ := Int.eq_ofNat_of_zero_le h0
  have hY : Y < 2 ^ N := by
    have : ((2 ^ N : Nat) : Int) = 2 ^ N := by simp
    omega
  have e1 : (BitVec.ofInt 64 (wrap64 (a * 2 ^ N))).toNat = 2 ^ N * c := by
    refine ofInt_nat _ _ ?_
    rw [wrap_mod, hx, hc', Int.natCast_mul, Int.mul_comm]
    simp
  have e2 : (BitVec.ofInt 64 (wrap64 (Y : Int))).toNat = Y := by
    refine ofInt_nat _ _ ?_
    rw [wrap_mod]
    exact Int.emod_eq_of_lt h0 (Int.lt_of_lt_of_le h1 hle)
  rw [bits_or_i64, e1, e2, ← Nat.two_pow_add_eq_or_of_lt hY, IntKind.wrap_i64, ← (wrap_mod_add _ _).2, hx, hc']
  have e3 : ((2 ^ N * c + Y : Nat) : Int) = (c : Int) * 2 ^ N + Y := by
    rw [Int.natCast_add, Int.natCast_mul, Int.mul_comm]; simp
  rw [e3, wrap64]

end Go.Proofs.YtcdfbcmhikhnjaaDoor
