/- Ratio: math/bits.TrailingZeros64. -/
import Derived.Test.YtcdfbcmhikhnjaaDoorRtO
import Derived.Test.YtcdfbcmhikhnjaaDoorFlT
import Derived.Shelf.Spec.TrailingZeros
namespace Go.Proofs.YtcdfbcmhikhnjaaDoor
set_option linter.unusedVariables false
set_option linter.unusedSimpArgs false
set_option maxRecDepth 100000
open Go.ChangeShapes Go.WideShapes Go.ChangeAt Go.RowKit Go.Fl

theorem tz_core (x k idx : Nat) (w : World) (hx0 : ((x : Int) == 0) = false)
    (key : IntKind.u64.wrap (bits BinOp.and IntKind.u64 (x : Int) (IntKind.u64.wrap (-(x : Int))) * 285870213051353865) / 288230376151711744 = (idx : Int))
    (hi : idx < 64) (hk : k < 64) (hcell : w.cell? ⟨1, idx, none⟩ = some (.int .u8 k)) :
    Calls Tryd.prog 59 #[.int .u64 (x : Int)] w fun e w' => e = .returned (.int .i64 (k : Int)) ∧ w' = w := by
  go_enter Tryd.func59, Tryd.ntmps59
  go_wp2_with (simp only [key])
  go_ret
  exact ⟨rfl, rfl⟩
theorem tz_any (x : Nat) (hx : x < 18446744073709551616) (hx0 : x ≠ 0) (w : World) (hT : TabAt 1 Lib.deBruijn64tab w) :
    Calls Tryd.prog 59 #[.int .u64 (x : Int)] w fun e w' => e = .returned (.int .i64 (Lib.ctz 64 x : Nat)) ∧ w' = w := by
  obtain ⟨hlow, hk⟩ := Lib.lowest_bit 64 x hx0 hx
  obtain ⟨hi, htab⟩ := Lib.deBruijn64_at _ hk
  have hcell := hT _ hi
  rw [htab] at hcell
  exact tz_core x _ _ w (by simp; omega) (tz64_key x _ hx hx0 hlow) hi hk hcell
theorem ctz_tz : ∀ (f x : Nat), 0 < x → x < 2 ^ f → Lib.ctzFrom f x = tz x
  | 0, x, h0, h => by simp at h; omega
  | f + 1, x, h0, h => by
    unfold Lib.ctzFrom
    split
    · rename_i h1
      rw [tz_odd h1]
    · rename_i h1
      rw [tz_even h0 (by omega), ctz_tz f (x / 2) (by omega) (by rw [Nat.pow_succ] at h; omega)]
      omega
theorem tz_is (x : Nat) (hx : x < 18446744073709551616) (hx0 : x ≠ 0) (w : World) (hT : TabAt 1 Lib.deBruijn64tab w) :
    Calls Tryd.prog 59 #[.int .u64 (x : Int)] w fun e w' => e = .returned (.int .i64 (tz x : Nat)) ∧ w' = w := by
  have := tz_any x hx hx0 w hT
  have e : Lib.ctz 64 x = tz x := by unfold Lib.ctz; rw [if_neg hx0]; exact ctz_tz 64 x (by omega) hx
  rw [e] at this
  exact this
/-- A number moved up has the same odd part, more zeros. -/
theorem tz_up : ∀ (s M : Nat), 0 < M → tz (M * 2 ^ s) = tz M + s ∧ oddM (M * 2 ^ s) = oddM M
  | 0, M, h => by simp
  | s + 1, M, h => by
    have hp : 0 < 2 ^ s := Nat.pow_pos (by decide)
    have h2 : M * 2 ^ (s + 1) = 2 * (M * 2 ^ s) := by rw [Nat.pow_succ, Nat.mul_comm (2 ^ s), Nat.mul_left_comm]
    obtain ⟨i1, i2⟩ := tz_up s M h
    have h3 : 0 < M * 2 ^ s := Nat.mul_pos h hp
    generalize M * 2 ^ s = y at *
    have h4 := tz_even (m := 2 * y) (by omega) (by omega)
    have h5 : 2 * y / 2 = y := by omega
    rw [h5] at h4
    rw [h2]
    refine ⟨by omega, ?_⟩
    rw [← i2]
    unfold oddM
    rw [h4, Nat.pow_succ', ← Nat.div_div_eq_div_mul, h5]
end Go.Proofs.YtcdfbcmhikhnjaaDoor
