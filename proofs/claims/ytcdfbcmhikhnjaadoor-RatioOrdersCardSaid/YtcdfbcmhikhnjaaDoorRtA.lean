/- Go's package math, as far as Ratio calls it: Abs, IsNaN, IsInf, Signbit, Inf, NaN, Copysign. -/
import Derived.Test.YtcdfbcmhikhnjaaDoorBase
import Derived.Test.YtcdfbcmhikhnjaaDoorFlE
import Derived.WalkLawsBesides
namespace Go.Proofs.YtcdfbcmhikhnjaaDoor
set_option linter.unusedVariables false
set_option linter.unusedSimpArgs false
set_option maxRecDepth 100000
open Go.ChangeShapes Go.WideShapes Go.ChangeAt Go.RowKit Go.Fl

theorem f64_format : FloatKind.f64.format = Ieee.double := rfl
/-- Is one below another, as Go's '<' says? -/
def ltB (a b : Nat) : Bool := !isNan a && !isNan b && decide (skey a < skey b)
def eqB (a b : Nat) : Bool := !isNan a && !isNan b && decide (skey a = skey b)
theorem ord_lt (a b : Nat) : (FloatKind.f64.format.order a b == some .lt) = ltB a b := by
  rw [f64_format]
  unfold ltB
  cases h1 : isNan a with
  | true => rw [order_nan (.inl h1)]; simp
  | false =>
    cases h2 : isNan b with
    | true => rw [order_nan (.inr h2)]; simp
    | false =>
      rw [order_num h1 h2]
      rcases Int.lt_trichotomy (skey a) (skey b) with h | h | h
      · rw [Int.compare_eq_lt.2 h]; first | (simp [h]; done) | (simp; omega)
      · rw [Int.compare_eq_eq.2 h]; first | (simp [h]; done) | (simp; omega)
      · rw [Int.compare_eq_gt.2 h]; first | (simp [h]; done) | (simp; omega)
theorem ord_eq (a b : Nat) : (FloatKind.f64.format.order a b == some .eq) = eqB a b := by
  rw [f64_format]
  unfold eqB
  cases h1 : isNan a with
  | true => rw [order_nan (.inl h1)]; simp
  | false =>
    cases h2 : isNan b with
    | true => rw [order_nan (.inr h2)]; simp
    | false =>
      rw [order_num h1 h2]
      rcases Int.lt_trichotomy (skey a) (skey b) with h | h | h
      · rw [Int.compare_eq_lt.2 h]; first | (simp [h]; done) | (simp; omega)
      · rw [Int.compare_eq_eq.2 h]; first | (simp [h]; done) | (simp; omega)
      · rw [Int.compare_eq_gt.2 h]; first | (simp [h]; done) | (simp; omega)
theorem ord_gt (a b : Nat) : (FloatKind.f64.format.order a b == some .gt) = ltB b a := by
  rw [f64_format]
  unfold ltB
  cases h1 : isNan a with
  | true => rw [order_nan (.inl h1)]; simp
  | false =>
    cases h2 : isNan b with
    | true => rw [order_nan (.inr h2)]; simp
    | false =>
      rw [order_num h1 h2]
      rcases Int.lt_trichotomy (skey a) (skey b) with h | h | h
      · rw [Int.compare_eq_lt.2 h]; first | (simp [h]; done) | (simp; omega)
      · rw [Int.compare_eq_eq.2 h]; first | (simp [h]; done) | (simp; omega)
      · rw [Int.compare_eq_gt.2 h]; first | (simp [h]; done) | (simp; omega)
theorem ord_ne (a b : Nat) : (FloatKind.f64.format.order a b != some .eq) = !eqB a b := by rw [← ord_eq]; rfl
theorem eqB_self (a : Nat) : eqB a a = !isNan a := by unfold eqB; cases isNan a <;> simp
theorem bits_andNot (x c : Nat) (hx : x < 2 ^ 64) (hc : c < 2 ^ 64) : bits .andNot .u64 (x : Int) (c : Int) = (((BitVec.ofNat 64 x &&& ~~~ BitVec.ofNat 64 c).toNat : Nat) : Int) := by
  show IntKind.u64.wrap ((BitVec.ofInt 64 (x : Int) &&& ~~~ BitVec.ofInt 64 (c : Int)).toNat : Int) = _
  rw [BitVec.ofInt_natCast, BitVec.ofInt_natCast, IntKind.wrap_u64]
  have := (BitVec.ofNat 64 x &&& ~~~ BitVec.ofNat 64 c).isLt
  omega

theorem fbits_run (b : Nat) (w : World) : (callFunc 30 #[.float .f64 b]).run Tryd.prog w = .ok (.value (.int .u64 (b : Int))) w := by
  rw [@run_callFunc_extern Tryd.prog 30 _ Extern.MathFloatBits.float64bits Tryd.func30 (by kernel_rfl) (by kernel_rfl) (by kernel_rfl) (by kernel_rfl)]
  rfl
theorem frombits_run (b : Nat) (w : World) : (callFunc 11 #[.int .u64 (b : Int)]).run Tryd.prog w = .ok (.value (.float .f64 b)) w := by
  rw [@run_callFunc_extern Tryd.prog 11 _ Extern.MathFloatBits.float64frombits Tryd.func11 (by kernel_rfl) (by kernel_rfl) (by kernel_rfl) (by kernel_rfl)]
  rfl
theorem frombits_lit (b : Int) (w : World) : (callFunc 11 #[.int .u64 b]).run Tryd.prog w = .ok (.value (.float .f64 b.toNat)) w := by
  rw [@run_callFunc_extern Tryd.prog 11 _ Extern.MathFloatBits.float64frombits Tryd.func11 (by kernel_rfl) (by kernel_rfl) (by kernel_rfl) (by kernel_rfl)]
  rfl
attribute [local go_sem] fbits_run frombits_lit Int.toNat_natCast
theorem abs_any (b : Nat) (hb : b < 2 ^ 64) (w : World) : Calls Tryd.prog 43 #[.float .f64 b] w fun e w' => e = .returned (.float .f64 (b % 2 ^ 63)) ∧ w = w' := by
  have H := hid (show bits .andNot .u64 (b : Int) 9223372036854775808 = ((b % 2 ^ 63 : Nat) : Int) from (bits_andNot b 9223372036854775808 hb (by decide)).trans (by rw [andnot_sign hb]))
  obtain ⟨r, hr⟩ : ∃ r, b % 2 ^ 63 = r := ⟨_, rfl⟩
  rw [hr] at H ⊢
  have q := H.out
  clear hr
  go_enter Tryd.func43, Tryd.ntmps43
  go_wp2
  go_ret
  exact ⟨rfl, rfl⟩
theorem skey_pos {r : Nat} (h : r < 2 ^ 63) : skey r = (r : Int) := by
  unfold skey sgn
  rw [Nat.mod_eq_of_lt h, Nat.div_eq_of_lt h]
  simp
theorem nan_pos {r : Nat} (h : r < 2 ^ 63) : isNan r = decide (2047 * 2 ^ 52 < r) := by unfold isNan; rw [Nat.mod_eq_of_lt h]
/-- Is it infinite? -/
def isInfB (b : Nat) : Bool := decide (b % 2 ^ 63 = 2047 * 2 ^ 52)
theorem max_lt {r : Nat} (h : r < 2 ^ 63) : ltB 9218868437227405311 r = decide (r = 2047 * 2 ^ 52) := by
  unfold ltB
  rw [nan_pos h, skey_pos h, skey_pos (show 9218868437227405311 < 2 ^ 63 by decide), nan_pos (show 9218868437227405311 < 2 ^ 63 by decide)]
  rw [Bool.eq_iff_iff]
  simp
  omega
theorem isNaN_any (b : Nat) (w : World) : Calls Tryd.prog 90 #[.float .f64 b] w fun e w' => e = .returned (.bool (isNan b)) ∧ w = w' := by
  have H := ord_ne b b
  rw [eqB_self, Bool.not_not] at H
  go_enter Tryd.func90, Tryd.ntmps90
  go_wp2
  go_ret
  exact ⟨rfl, rfl⟩
theorem isInf_any (b : Nat) (hb : b < 2 ^ 64) (w : World) : Calls Tryd.prog 16 #[.float .f64 b, .int .i64 0] w fun e w' => e = .returned (.bool (isInfB b)) ∧ w = w' := by
  have H := ord_gt (b % 2 ^ 63) 9218868437227405311
  rw [max_lt (by omega)] at H
  have HA := hid (fun W => abs_any b hb W)
  unfold isInfB
  go_enter Tryd.func16, Tryd.ntmps16
  go_wp2_with (go_at_call 43; ((with_reducible refine (HA.out _).mono ?_); rintro e w1 ⟨rfl, rfl⟩))
  go_ret
  exact ⟨rfl, rfl⟩
theorem signbit_any (b : Nat) (hb : b < 2 ^ 64) (w : World) : Calls Tryd.prog 65 #[.float .f64 b] w fun e w' => e = .returned (.bool (sgn b)) ∧ w = w' := by
  have H : Hid (decide (wrap64 (b : Int) < 0) = sgn b) := by
    unfold Hid
    rw [Bool.eq_iff_iff]
    unfold sgn wrap64
    simp
    omega
  go_enter Tryd.func65, Tryd.ntmps65
  go_wp2
  all_goals
    go_ret
    exact ⟨by rw [← H.out]; rfl, rfl⟩
theorem inf_any (n : Int) (w : World) : Calls Tryd.prog 38 #[.int .i64 n] w fun e w' => e = .returned (.float .f64 (Ieee.double.word (decide (n < 0)) (2047 * 2 ^ 52))) ∧ w = w' := by
  by_cases h : n < 0
  · have h2 : ¬ 0 ≤ n := by omega
    rw [show decide (n < 0) = true by simp [h]]
    go_enter Tryd.func38, Tryd.ntmps38
    go_wp2
    go_ret
    exact ⟨rfl, rfl⟩
  · have h2 : 0 ≤ n := by omega
    rw [show decide (n < 0) = false by simp [h2]]
    go_enter Tryd.func38, Tryd.ntmps38
    go_wp2
    go_ret
    exact ⟨rfl, rfl⟩
theorem nan_any (w : World) : Calls Tryd.prog 37 #[] w fun e w' => e = .returned (.float .f64 9221120237041090561) ∧ w = w' := by
  go_enter Tryd.func37, Tryd.ntmps37
  go_wp2
  go_ret
  exact ⟨rfl, rfl⟩
theorem bits_or (x y : Nat) (hx : x < 2 ^ 64) (hy : y < 2 ^ 64) : bits .or .u64 (x : Int) (y : Int) = ((x ||| y : Nat) : Int) := bits_or_u64_nat x y hx hy
theorem bits_and (x y : Nat) (hx : x < 2 ^ 64) (hy : y < 2 ^ 64) : bits .and .u64 (x : Int) (y : Int) = ((x &&& y : Nat) : Int) := bits_and_u64_nat x y hx hy
theorem copysign_any (a b : Nat) (ha : a < 2 ^ 64) (hb : b < 2 ^ 64) (w : World) : Calls Tryd.prog 56 #[.float .f64 a, .float .f64 b] w fun e w' => e = .returned (.float .f64 (Ieee.double.word (sgn b) (a % 2 ^ 63))) ∧ w = w' := by
  have q1 : bits .andNot .u64 (a : Int) 9223372036854775808 = ((a % 2 ^ 63 : Nat) : Int) := (bits_andNot a 9223372036854775808 ha (by decide)).trans (by rw [andnot_sign ha])
  have q2 : bits .and .u64 (b : Int) 9223372036854775808 = (((if sgn b then 2 ^ 63 else 0) : Nat) : Int) := (bits_and b 9223372036854775808 hb (by decide)).trans (by rw [and_sign])
  have q3 : bits .or .u64 ((a % 2 ^ 63 : Nat) : Int) (((if sgn b then 2 ^ 63 else 0) : Nat) : Int) = ((Ieee.double.word (sgn b) (a % 2 ^ 63) : Nat) : Int) := (bits_or _ _ (by omega) (by split <;> decide)).trans (by rw [or_sign (by omega)])
  generalize (if sgn b then 2 ^ 63 else 0 : Nat) = s at *
  generalize Ieee.double.word (sgn b) (a % 2 ^ 63) = z at *
  generalize a % 2 ^ 63 = r at *
  go_enter Tryd.func56, Tryd.ntmps56
  go_wp2
  go_ret
  exact ⟨rfl, rfl⟩
end Go.Proofs.YtcdfbcmhikhnjaaDoor
