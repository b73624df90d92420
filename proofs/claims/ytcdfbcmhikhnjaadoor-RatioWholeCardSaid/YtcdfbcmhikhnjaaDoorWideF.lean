/- Wide numbers: 'Mul' of either. -/
import Derived.Test.YtcdfbcmhikhnjaaDoorWideE
import Derived.Lib.Mul64
import Derived.Laws.Bits64b
namespace Go.Proofs.YtcdfbcmhikhnjaaDoor
set_option linter.unusedVariables false
set_option linter.unusedSimpArgs false
open Go.ChangeShapes Go.WideShapes Go.ChangeAt Go.RowKit

theorem mask_nat (a : Nat) (ha : a < 18446744073709551616) : bits .and .u64 (a : Int) 4294967295 = ((a % 4294967296 : Nat) : Int) := by
  have h := bits_and_u64_nat a 4294967295 ha (by omega)
  have e : a &&& 4294967295 = a % 4294967296 := Nat.and_two_pow_sub_one_eq_mod a 32
  rw [e] at h
  exact h
theorem div_nat (a : Nat) : (a : Int) / 4294967296 = ((a / 4294967296 : Nat) : Int) := by omega
theorem mul_nat (a b : Nat) : (a : Int) * (b : Int) = ((a * b : Nat) : Int) := (Int.natCast_mul a b).symm
theorem add_nat (a b : Nat) : (a : Int) + (b : Int) = ((a + b : Nat) : Int) := (Int.natCast_add a b).symm
theorem wrap_nat (a : Nat) (ha : a < 18446744073709551616) : IntKind.u64.wrap (a : Int) = (a : Int) := by rw [IntKind.wrap_u64]; omega
theorem wrap_natM (a : Nat) : IntKind.u64.wrap (a : Int) = ((a % 18446744073709551616 : Nat) : Int) := by rw [IntKind.wrap_u64]; omega

set_option maxHeartbeats 1000000 in
theorem mul64_nat (x y : Nat) (hx : x < 18446744073709551616) (hy : y < 18446744073709551616) (w : World) :
    Calls Tryd.prog 47 #[.int .u64 x, .int .u64 y] w fun e w' => e = .returned (.tuple #[.int .u64 ((x * y / 18446744073709551616 : Nat) : Int), .int .u64 ((x * y % 18446744073709551616 : Nat) : Int)]) ∧ w = w' := by
  obtain ⟨bd, bt, bw, hhi⟩ := Lib.mul64_hi x y hx hy
  have ba := Lib.half_mul_le (a := x / 4294967296) (b := y / 4294967296) (by omega) (by omega)
  have bb := Lib.half_mul_le (a := x / 4294967296) (b := y % 4294967296) (by omega) (by omega)
  have bc := Lib.half_mul_le (a := x % 4294967296) (b := y / 4294967296) (by omega) (by omega)
  have ba' : x / 4294967296 * (y / 4294967296) < 18446744073709551616 := by omega
  have bb' : x / 4294967296 * (y % 4294967296) < 18446744073709551616 := by omega
  have bc' : x % 4294967296 * (y / 4294967296) < 18446744073709551616 := by omega
  have bh1 : x / 4294967296 * (y / 4294967296) + (x / 4294967296 * (y % 4294967296) + x % 4294967296 * (y % 4294967296) / 4294967296) / 4294967296 < 18446744073709551616 := by omega
  have bh : x / 4294967296 * (y / 4294967296) + (x / 4294967296 * (y % 4294967296) + x % 4294967296 * (y % 4294967296) / 4294967296) / 4294967296 + ((x / 4294967296 * (y % 4294967296) + x % 4294967296 * (y % 4294967296) / 4294967296) % 4294967296 + x % 4294967296 * (y / 4294967296)) / 4294967296 < 18446744073709551616 := by omega
  go_enter Tryd.func47, Tryd.ntmps47
  go_wp2
  simp only [mask_nat x hx, mask_nat y hy, div_nat, mul_nat, add_nat, wrap_nat _ bd, wrap_nat _ bb', wrap_nat _ bt, mask_nat _ bt, wrap_nat _ bc', wrap_nat _ bw, wrap_nat _ ba', wrap_nat _ bh1, wrap_nat _ bh, wrap_natM (x * y)]
  rw [hhi]
  go_ret2
  exact ⟨rfl, rfl⟩
theorem mul64_any (x y : Int) (hx : 0 ≤ x ∧ x ≤ 18446744073709551615) (hy : 0 ≤ y ∧ y ≤ 18446744073709551615) (w : World) :
    Calls Tryd.prog 47 #[.int .u64 x, .int .u64 y] w fun e w' => e = .returned (.tuple #[.int .u64 (x * y / 18446744073709551616), .int .u64 (x * y % 18446744073709551616)]) ∧ w = w' := by
  obtain ⟨x, rfl⟩ := Int.eq_ofNat_of_zero_le hx.1
  obtain ⟨y, rfl⟩ := Int.eq_ofNat_of_zero_le hy.1
  have h := mul64_nat x y (by omega) (by omega) w
  rw [show ((x * y / 18446744073709551616 : Nat) : Int) = (x : Int) * y / 18446744073709551616 by simp, show ((x * y % 18446744073709551616 : Nat) : Int) = (x : Int) * y % 18446744073709551616 by simp] at h
  exact h

theorem mul_any (n m : Int) (hn : -9223372036854775808 ≤ n ∧ n ≤ 9223372036854775807) (hm : -9223372036854775808 ≤ m ∧ m ≤ 9223372036854775807) (w : World) :
    Calls Tryd.prog 22 #[.int .i64 n, .int .i64 m] w fun e w' => e = .returned ((Value.agg #[.int .i64 (hiW (n * m)), .int .u64 (loW (n * m))])) ∧ Below w.heap.size w w' := by
  obtain ⟨u, hu⟩ : ∃ u, IntKind.u64.wrap n = u := ⟨_, rfl⟩
  obtain ⟨v, hv⟩ : ∃ v, IntKind.u64.wrap m = v := ⟨_, rfl⟩
  have bu : 0 ≤ u ∧ u ≤ 18446744073709551615 := by rw [IntKind.wrap_u64] at hu; omega
  have bv : 0 ≤ v ∧ v ≤ 18446744073709551615 := by rw [IntKind.wrap_u64] at hv; omega
  have eu : u = if n < 0 then n + 18446744073709551616 else n := by rw [IntKind.wrap_u64] at hu; split <;> omega
  have ev : v = if m < 0 then m + 18446744073709551616 else m := by rw [IntKind.wrap_u64] at hv; split <;> omega
  obtain ⟨p, hp⟩ : ∃ p, n * m = p := ⟨_, rfl⟩
  rw [hp]
  have EU := hid eu; have EV := hid ev; have HP := hid hp
  clear eu ev hp
  have hc : ∀ q, u * v = q → u * v / 18446744073709551616 = q / 18446744073709551616 ∧ u * v % 18446744073709551616 = q % 18446744073709551616 := fun q h => by rw [h]; exact ⟨rfl, rfl⟩
  have HC := hid hc; clear hc
  have hM := hid (mul64_any u v bu bv)
  obtain ⟨Q, hQ⟩ : ∃ Q, u * v = Q := ⟨_, rfl⟩
  rw [hQ] at hM HC
  have HQ := hid hQ
  clear hQ
  by_cases h1 : n < 0 <;> by_cases h2 : m < 0
  all_goals
    first | (have h1' : 0 ≤ n := by omega) | skip
    first | (have h2' : 0 ≤ m := by omega) | skip
    go_enter Tryd.func22, Tryd.ntmps22
    go_wp2_with (go_at_call 47; refine (hM.out _).mono ?_; rintro e w1 ⟨rfl, rfl⟩)
    ((show bodyPost _ _ _ _ _ _); refine bodyPost_ret (by simp only [results, Tryd.results22]; go_simp; try rfl) rfl ?_)
    refine ⟨ret_wide ?_ ?_, by (repeat' (first | (with_reducible exact Below.refl _ _) | (with_reducible assumption) | (with_reducible refine Below.new ?_ _) | (with_reducible refine Below.alloc ?_ ?_ _) | (with_reducible refine Below.drew ?_) | (with_reducible refine Below.drewN ?_ _) | (with_reducible refine Below.setCell ?_ ?_ _) | (refine Below.step ?_ (by assumption)) | go_size))⟩
    · have e1 := EU.out; have e2 := EV.out; have e3 := HQ.out; have e4 := HP.out
      first | rw [if_pos h1] at e1 | rw [if_neg (by omega)] at e1
      first | rw [if_pos h2] at e2 | rw [if_neg (by omega)] at e2
      rw [e1, e2] at e3
      (try simp only [Int.add_mul, Int.mul_add] at e3)
      rw [e4] at e3
      clear e1 e2 e4 hu hv EU EV HQ HP HC hM
      unfold hiW wrap64
      omega
    · have e1 := EU.out; have e2 := EV.out; have e3 := HQ.out; have e4 := HP.out
      first | rw [if_pos h1] at e1 | rw [if_neg (by omega)] at e1
      first | rw [if_pos h2] at e2 | rw [if_neg (by omega)] at e2
      rw [e1, e2] at e3
      (try simp only [Int.add_mul, Int.mul_add] at e3)
      rw [e4] at e3
      clear e1 e2 e4 hu hv EU EV HQ HP HC hM
      unfold loW
      omega
end Go.Proofs.YtcdfbcmhikhnjaaDoor
