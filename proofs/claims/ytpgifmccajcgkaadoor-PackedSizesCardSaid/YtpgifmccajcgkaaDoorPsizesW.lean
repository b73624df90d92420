/- Packed lists: the walk of PackedSizes. -/
import Derived.Test.YtpgifmccajcgkaaDoorPkM
import Derived.Test.YtpgifmccajcgkaaDoorOpenA
namespace Go.Proofs.YtpgifmccajcgkaaDoor
set_option linter.unusedVariables false
set_option linter.unusedSimpArgs false
open Go.ChangeShapes Go.WideShapes Go.ChangeAt Go.RowKit Go.Joins

set_option maxRecDepth 100000 in
set_option maxHeartbeats 2000000 in
theorem PackedSizes_walk (n : Int) (hn : I64 n) (k : Int) (hk : I64 k) (W : World) (am an : Addr) (hS : Sent am an W) :
    Calls Tryd.prog 9 #[.int .i64 n, .int .i64 k] W fun e w' => e = .returned (.bool true) ∧ Below W.heap.size W w' := by
  have HSH := hid (pshown_any am an W hS)
  clear hS
  by_cases h1 : 1000000 < n
  · go_enter Tryd.func9, Tryd.ntmps9
    go_wp2_with (go_at_call 30; ((with_reducible refine (HSH.out).mono ?_); rintro e w1 ⟨rfl, hb1⟩))
    go_ret
    exact ⟨rfl, hb1⟩
  · by_cases h2 : 1000 < k
    · go_enter Tryd.func9, Tryd.ntmps9
      go_wp2_with (go_at_call 30; ((with_reducible refine (HSH.out).mono ?_); rintro e w1 ⟨rfl, hb1⟩))
      go_ret
      exact ⟨rfl, hb1⟩
    · have hm : (0 ≤ n ∧ 0 ≤ k) → n * k ≤ 1000000000 := fun ⟨a, b⟩ => by
        have h3 : n * k ≤ 1000000 * k := Int.mul_le_mul_of_nonneg_right (by omega) b
        omega
      have HA := hid (fun w => size_any n k w hm)
      have HB := hid (fun w => refSize_any n k w hm)
      generalize sizeV n k = z at HA HB
      clear hm
      go_enter Tryd.func9, Tryd.ntmps9
      go_wp2_with (first
        | (go_at_call 30; ((with_reducible refine (HSH.out).mono ?_); rintro e w1 ⟨rfl, hb1⟩))
        | (go_at_call 41; ((with_reducible refine (HA.out _).mono ?_); rintro e w2 ⟨rfl, rfl⟩))
        | (go_at_call 42; ((with_reducible refine (HB.out _).mono ?_); rintro e w2 ⟨rfl, rfl⟩)))
      go_ret
      exact ⟨rfl, hb1⟩
end Go.Proofs.YtpgifmccajcgkaaDoor
