/- Wide numbers: their words, and what package wide's small functions give. -/
import Derived.Test.YtcdfbcmhikhnjaaDoorBase
import Derived.Laws.Externs
import Derived.BigQuiet
namespace Go.Proofs.YtcdfbcmhikhnjaaDoor
set_option linter.unusedVariables false
set_option linter.unusedSimpArgs false
open Go.ChangeShapes Go.WideShapes Go.ChangeAt Go.RowKit

/-- The words of a whole number, of which what is beyond 128 bits is left out. -/
def loW (n : Int) : Int := n % 18446744073709551616
def hiW (n : Int) : Int := (n / 18446744073709551616 + 9223372036854775808) % 18446744073709551616 - 9223372036854775808
theorem loW_is (n : Int) : 0 ≤ loW n ∧ loW n ≤ 18446744073709551615 := by unfold loW; omega
theorem hiW_is (n : Int) : -9223372036854775808 ≤ hiW n ∧ hiW n ≤ 9223372036854775807 := by unfold hiW; omega
theorem wv_words {a b : Int} (ha : -9223372036854775808 ≤ a ∧ a ≤ 9223372036854775807) (hb : 0 ≤ b ∧ b ≤ 18446744073709551615) : Value.agg #[.int .i64 a, .int .u64 b] = (Value.agg #[.int .i64 (hiW (a * 18446744073709551616 + b)), .int .u64 (loW (a * 18446744073709551616 + b))]) := by
  have h1 : hiW (a * 18446744073709551616 + b) = a := by unfold hiW; omega
  have h2 : loW (a * 18446744073709551616 + b) = b := by unfold loW; omega
  rw [h1, h2]
theorem wv_eq {n m : Int} (h : (n - m) % 340282366920938463463374607431768211456 = 0) : (Value.agg #[.int .i64 (hiW (n)), .int .u64 (loW (n))]) = (Value.agg #[.int .i64 (hiW (m)), .int .u64 (loW (m))]) := by
  have h1 : hiW n = hiW m := by unfold hiW; omega
  have h2 : loW n = loW m := by unfold loW; omega
  rw [h1, h2]

theorem add64 (x y c : Int) (hx : 0 ≤ x) (hy : 0 ≤ y) (hc0 : 0 ≤ c) (hc : c ≤ 1) (w : World) : (callFunc 87 #[.int .u64 x, .int .u64 y, .int .u64 c]).run Tryd.prog w =
    .ok (.value (.tuple #[.int .u64 ((x + y + c) % 18446744073709551616), .int .u64 ((x + y + c) / 18446744073709551616)])) w := by
  rw [run_callFunc_extern Tryd.func87 (by kernel_rfl) (by kernel_rfl) (by kernel_rfl) (e := add64Entry) (by kernel_rfl), run_add64 x y c hx hy hc0 hc]
  rfl
theorem add64_0 (x y : Int) (hx : 0 ≤ x) (hy : 0 ≤ y) (w : World) : (callFunc 87 #[.int .u64 x, .int .u64 y, .int .u64 0]).run Tryd.prog w =
    .ok (.value (.tuple #[.int .u64 ((x + y) % 18446744073709551616), .int .u64 ((x + y) / 18446744073709551616)])) w := by
  simpa using add64 x y 0 hx hy (Int.le_refl 0) (by decide) w

theorem wrap_pos (n : Int) : 0 ≤ IntKind.u64.wrap n := by rw [IntKind.wrap_u64]; omega
theorem wrap_lt (n : Int) : IntKind.u64.wrap n ≤ 18446744073709551615 := by rw [IntKind.wrap_u64]; omega
theorem ret_wide {a b n : Int} (h1 : a = hiW n) (h2 : b = loW n) : Ending.returned (.agg #[.int .i64 a, .int .u64 b]) = .returned ((Value.agg #[.int .i64 (hiW (n)), .int .u64 (loW (n))])) := by rw [h1, h2]

theorem of_any (n : Int) (hn : -9223372036854775808 ≤ n ∧ n ≤ 9223372036854775807) (w : World) :
    Calls Tryd.prog 21 #[.int .i64 n] w fun e w' => e = .returned ((Value.agg #[.int .i64 (hiW (n)), .int .u64 (loW (n))])) ∧ Below w.heap.size w w' := by
  go_enter Tryd.func21, Tryd.ntmps21
  go_wp2
  ((show bodyPost _ _ _ _ _ _); refine bodyPost_ret (by simp only [results, Tryd.results21]; go_simp; try rfl) rfl ?_)
  exact ⟨ret_wide (by unfold hiW; omega) (by rw [IntKind.wrap_u64]; rfl), by (repeat' (first | (with_reducible exact Below.refl _ _) | (with_reducible assumption) | (with_reducible refine Below.new ?_ _) | (with_reducible refine Below.alloc ?_ ?_ _) | (with_reducible refine Below.drew ?_) | (with_reducible refine Below.drewN ?_ _) | (with_reducible refine Below.setCell ?_ ?_ _) | (refine Below.step ?_ (by assumption)) | go_size))⟩

theorem add_words (a b c d : Int) (ha : -9223372036854775808 ≤ a ∧ a ≤ 9223372036854775807) (hb : 0 ≤ b ∧ b ≤ 18446744073709551615) (hc : -9223372036854775808 ≤ c ∧ c ≤ 9223372036854775807) (hd : 0 ≤ d ∧ d ≤ 18446744073709551615) (w : World) :
    Calls Tryd.prog 74 #[.agg #[.int .i64 a, .int .u64 b], .agg #[.int .i64 c, .int .u64 d]] w fun e w' => e = .returned ((Value.agg #[.int .i64 (hiW (a * 18446744073709551616 + b + (c * 18446744073709551616 + d))), .int .u64 (loW (a * 18446744073709551616 + b + (c * 18446744073709551616 + d)))])) ∧ Below w.heap.size w w' := by
  have k0 : 0 ≤ (b + d) / 18446744073709551616 := by omega
  have k1 : (b + d) / 18446744073709551616 ≤ 1 := by omega
  go_enter Tryd.func74, Tryd.ntmps74
  go_wp2_with (first | simp only [add64_0 b d hb.1 hd.1] | simp only [add64 (IntKind.u64.wrap a) (IntKind.u64.wrap c) _ (wrap_pos a) (wrap_pos c) k0 k1])
  ((show bodyPost _ _ _ _ _ _); refine bodyPost_ret (by simp only [results, Tryd.results74]; go_simp; try rfl) rfl ?_)
  exact ⟨ret_wide (by simp only [IntKind.wrap_u64, IntKind.wrap_i64, wrap64]; unfold hiW; omega) (by unfold loW; omega), by (repeat' (first | (with_reducible exact Below.refl _ _) | (with_reducible assumption) | (with_reducible refine Below.new ?_ _) | (with_reducible refine Below.alloc ?_ ?_ _) | (with_reducible refine Below.drew ?_) | (with_reducible refine Below.drewN ?_ _) | (with_reducible refine Below.setCell ?_ ?_ _) | (refine Below.step ?_ (by assumption)) | go_size))⟩
theorem words (n : Int) : (hiW n * 18446744073709551616 + loW n - n) % 340282366920938463463374607431768211456 = 0 := by unfold hiW loW; omega
theorem add_any (n m : Int) (w : World) : Calls Tryd.prog 74 #[(Value.agg #[.int .i64 (hiW (n)), .int .u64 (loW (n))]), (Value.agg #[.int .i64 (hiW (m)), .int .u64 (loW (m))])] w fun e w' => e = .returned ((Value.agg #[.int .i64 (hiW (n + m)), .int .u64 (loW (n + m))])) ∧ Below w.heap.size w w' := by
  have h := add_words (hiW n) (loW n) (hiW m) (loW m) (hiW_is n) (loW_is n) (hiW_is m) (loW_is m) w
  rw [wv_eq (n := hiW n * 18446744073709551616 + loW n + (hiW m * 18446744073709551616 + loW m)) (m := n + m) (by have := words n; have := words m; omega)] at h
  exact h

def bor (x y : Int) : Int := if x < y then 1 else 0
theorem bor_is (x y : Int) : 0 ≤ bor x y ∧ bor x y ≤ 1 := by unfold bor; split <;> decide
def subEntry : Array Value → Sem Value := fun args => do
  let (x, y, b) ← Extern.MathBitsCarry.three "Sub64" args
  pure (Extern.MathBitsCarry.pair ((x + Extern.MathBitsCarry.m64 - y - b) % Extern.MathBitsCarry.m64) (if x < y + b then 1 else 0))
theorem run_subEntry (x y b : Nat) (hb : b ≤ 1) (w : World) :
    (subEntry #[.int .u64 x, .int .u64 y, .int .u64 b]).run Tryd.prog w =
      .ok (.tuple #[.int .u64 (((x + 18446744073709551616 - y - b) % 18446744073709551616 : Nat) : Int), .int .u64 ((if x < y + b then 1 else 0 : Nat) : Int)]) w := by
  have : b = 0 ∨ b = 1 := by omega
  rcases this with rfl | rfl <;> rfl
theorem sub64 (x y b : Int) (hx : 0 ≤ x) (hy : 0 ≤ y) (hy' : y ≤ 18446744073709551615) (hb0 : 0 ≤ b) (hb : b ≤ 1) (w : World) : (callFunc 70 #[.int .u64 x, .int .u64 y, .int .u64 b]).run Tryd.prog w =
    .ok (.value (.tuple #[.int .u64 ((x - y - b) % 18446744073709551616), .int .u64 (bor x (y + b))])) w := by
  obtain ⟨x, rfl⟩ := Int.eq_ofNat_of_zero_le hx
  obtain ⟨y, rfl⟩ := Int.eq_ofNat_of_zero_le hy
  obtain ⟨b, rfl⟩ := Int.eq_ofNat_of_zero_le hb0
  rw [run_callFunc_extern Tryd.func70 (by kernel_rfl) (by kernel_rfl) (by kernel_rfl) (e := subEntry) (by kernel_rfl), run_subEntry x y b (by omega)]
  have e1 : (((x + 18446744073709551616 - y - b) % 18446744073709551616 : Nat) : Int) = ((x : Int) - y - b) % 18446744073709551616 := by omega
  have e2 : ((if x < y + b then 1 else 0 : Nat) : Int) = bor x (y + b) := by unfold bor; split <;> split <;> omega
  rw [e1, e2]
  rfl
theorem sub64_0 (y : Int) (hy : 0 ≤ y) (hy' : y ≤ 18446744073709551615) (w : World) : (callFunc 70 #[.int .u64 0, .int .u64 y, .int .u64 0]).run Tryd.prog w =
    .ok (.value (.tuple #[.int .u64 ((-y) % 18446744073709551616), .int .u64 (bor 0 y)])) w := by
  simpa using sub64 0 y 0 (Int.le_refl 0) hy hy' (Int.le_refl 0) (by decide) w
theorem sub64_1 (y b : Int) (hy : 0 ≤ y) (hy' : y ≤ 18446744073709551615) (hb0 : 0 ≤ b) (hb : b ≤ 1) (w : World) : (callFunc 70 #[.int .u64 0, .int .u64 y, .int .u64 b]).run Tryd.prog w =
    .ok (.value (.tuple #[.int .u64 ((-y - b) % 18446744073709551616), .int .u64 (bor 0 (y + b))])) w := by
  simpa using sub64 0 y b (Int.le_refl 0) hy hy' hb0 hb w

theorem neg_words (a b : Int) (ha : -9223372036854775808 ≤ a ∧ a ≤ 9223372036854775807) (hb : 0 ≤ b ∧ b ≤ 18446744073709551615) (w : World) :
    Calls Tryd.prog 40 #[.agg #[.int .i64 a, .int .u64 b]] w fun e w' => e = .returned ((Value.agg #[.int .i64 (hiW (-(a * 18446744073709551616 + b))), .int .u64 (loW (-(a * 18446744073709551616 + b)))])) ∧ Below w.heap.size w w' := by
  go_enter Tryd.func40, Tryd.ntmps40
  go_wp2_with (first | simp only [sub64_0 b hb.1 hb.2] | simp only [sub64_1 (IntKind.u64.wrap a) (bor 0 b) (wrap_pos a) (wrap_lt a) (bor_is _ _).1 (bor_is _ _).2])
  ((show bodyPost _ _ _ _ _ _); refine bodyPost_ret (by simp only [results, Tryd.results40]; go_simp; try rfl) rfl ?_)
  exact ⟨ret_wide (by simp only [IntKind.wrap_u64, IntKind.wrap_i64, wrap64]; unfold hiW bor; split <;> omega) (by unfold loW; omega), by (repeat' (first | (with_reducible exact Below.refl _ _) | (with_reducible assumption) | (with_reducible refine Below.new ?_ _) | (with_reducible refine Below.alloc ?_ ?_ _) | (with_reducible refine Below.drew ?_) | (with_reducible refine Below.drewN ?_ _) | (with_reducible refine Below.setCell ?_ ?_ _) | (refine Below.step ?_ (by assumption)) | go_size))⟩
theorem neg_any (n : Int) (w : World) : Calls Tryd.prog 40 #[(Value.agg #[.int .i64 (hiW (n)), .int .u64 (loW (n))])] w fun e w' => e = .returned ((Value.agg #[.int .i64 (hiW (-n)), .int .u64 (loW (-n))])) ∧ Below w.heap.size w w' := by
  have h := neg_words (hiW n) (loW n) (hiW_is n) (loW_is n) w
  rw [wv_eq (n := -(hiW n * 18446744073709551616 + loW n)) (m := -n) (by have := words n; omega)] at h
  exact h
end Go.Proofs.YtcdfbcmhikhnjaaDoor
