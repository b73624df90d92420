/- Varints: numbers turned and turned back, by the program and by the reference. -/
import Derived.Test.YtdgeinipdphoeaaBase
namespace Go.Proofs.Ytdgeinipdphoeaa
set_option linter.unusedVariables false
set_option linter.unusedSimpArgs false
open Go.ChangeShapes Go.WideShapes Go.ChangeAt Go.RowKit

def turnV (n : Int) : Int := if n < 0 then 2 * (-1 - n) + 1 else 2 * n
def backV (n : Int) : Int := if n % 2 = 1 then -1 - n / 2 else n / 2
theorem backV_turnV (n : Int) : backV (turnV n) = n := by unfold backV turnV; (repeat' split) <;> omega
theorem turnV_backV {n : Int} (h : 0 ≤ n) : turnV (backV n) = n := by unfold backV turnV; (repeat' split) <;> omega
theorem turnV_is {n : Int} (h : -9223372036854775808 ≤ n ∧ n ≤ 9223372036854775807) : 0 ≤ turnV n ∧ turnV n ≤ 18446744073709551615 := by unfold turnV; split <;> omega
theorem backV_is {n : Int} (h : 0 ≤ n ∧ n ≤ 18446744073709551615) : -9223372036854775808 ≤ backV n ∧ backV n ≤ 9223372036854775807 := by unfold backV; split <;> omega

theorem ofInt_at (x : Int) (X : Nat) (h : x % 18446744073709551616 = (X : Int)) : (BitVec.ofInt 64 x).toNat = X := by
  rw [BitVec.toNat_ofInt]
  have : x % ((2 : Nat) ^ 64 : Nat) = (X : Int) := by simpa using h
  rw [this]; simp
theorem bits_xor_u64 (x y : Int) : bits .xor .u64 x y = IntKind.u64.wrap (((BitVec.ofInt 64 x).toNat ^^^ (BitVec.ofInt 64 y).toNat : Nat) : Int) := by
  show IntKind.u64.wrap ((BitVec.ofInt 64 x ^^^ BitVec.ofInt 64 y).toNat : Int) = _
  rw [BitVec.toNat_xor]
theorem bits_xor_i64 (x y : Int) : bits .xor .i64 x y = IntKind.i64.wrap (((BitVec.ofInt 64 x).toNat ^^^ (BitVec.ofInt 64 y).toNat : Nat) : Int) := by
  show IntKind.i64.wrap ((BitVec.ofInt 64 x ^^^ BitVec.ofInt 64 y).toNat : Int) = _
  rw [BitVec.toNat_xor]
theorem bits_one (n : Nat) (h : n < 18446744073709551616) : bits .and .u64 (n : Int) 1 = ((n % 2 : Nat) : Int) := by
  have e : bits .and .u64 (n : Int) 1 = IntKind.u64.wrap (((BitVec.ofInt 64 (n : Int)).toNat &&& (BitVec.ofInt 64 1).toNat : Nat) : Int) := by
    show IntKind.u64.wrap ((BitVec.ofInt 64 (n : Int) &&& BitVec.ofInt 64 1).toNat : Int) = _
    rw [BitVec.toNat_and]
  rw [e, ofInt_at (n : Int) n (by omega), ofInt_at 1 1 (by omega), Nat.and_one_is_mod, IntKind.wrap_u64]
  omega
theorem xor_ones {x : Nat} (h : x < 18446744073709551616) : x ^^^ 18446744073709551615 = 18446744073709551615 - x := by
  have h1 : (BitVec.ofNat 64 x ^^^ BitVec.allOnes 64).toNat = (~~~ BitVec.ofNat 64 x).toNat := by rw [BitVec.xor_allOnes]
  rw [BitVec.toNat_xor, BitVec.toNat_not, BitVec.toNat_allOnes, BitVec.toNat_ofNat, Nat.mod_eq_of_lt (by simpa using h)] at h1
  simpa using h1

theorem turn_any (n : Int) (hn : -9223372036854775808 ≤ n ∧ n ≤ 9223372036854775807) (w : World) :
    Calls Try.prog 78 #[.int .i64 n] w fun e w' => e = .returned (.int .u64 (turnV n)) ∧ Below w.heap.size w w' := by
  have hv : bits .xor .u64 (IntKind.u64.wrap (IntKind.u64.wrap n * 2)) (IntKind.u64.wrap (n / 9223372036854775808)) = turnV n := by
    rw [bits_xor_u64]
    by_cases h : n < 0
    · have e2 : (BitVec.ofInt 64 (IntKind.u64.wrap (n / 9223372036854775808))).toNat = 18446744073709551615 := ofInt_at _ _ (by simp only [IntKind.wrap_u64]; omega)
      have e1 : (BitVec.ofInt 64 (IntKind.u64.wrap (IntKind.u64.wrap n * 2))).toNat = (2 * n + 18446744073709551616).toNat := ofInt_at _ _ (by simp only [IntKind.wrap_u64]; omega)
      rw [e1, e2, xor_ones (by omega), IntKind.wrap_u64]
      simp only [turnV, if_pos h]
      omega
    · have e2 : (BitVec.ofInt 64 (IntKind.u64.wrap (n / 9223372036854775808))).toNat = 0 := ofInt_at _ _ (by simp only [IntKind.wrap_u64]; omega)
      have e1 : (BitVec.ofInt 64 (IntKind.u64.wrap (IntKind.u64.wrap n * 2))).toNat = (2 * n).toNat := ofInt_at _ _ (by simp only [IntKind.wrap_u64]; omega)
      rw [e1, e2, Nat.xor_zero, IntKind.wrap_u64]
      simp only [turnV, if_neg h]
      omega
  go_enter Try.func78, Try.ntmps78
  go_wp2
  ((show bodyPost _ _ _ _ _ _); refine bodyPost_ret (by simp only [results, Try.results78]; go_simp; try rfl) rfl ?_)
  exact ⟨rfl, Below.refl _ _⟩
end Go.Proofs.Ytdgeinipdphoeaa
