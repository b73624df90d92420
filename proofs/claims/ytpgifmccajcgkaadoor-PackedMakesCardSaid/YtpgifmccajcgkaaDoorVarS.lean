/- Varints: the law's 'shown'. -/
import Derived.Test.YtpgifmccajcgkaaDoorVarN
import Derived.Test.YtpgifmccajcgkaaDoorVarE
namespace Go.Proofs.YtpgifmccajcgkaaDoor
set_option linter.unusedVariables false
set_option linter.unusedSimpArgs false
open Go.ChangeShapes Go.WideShapes Go.ChangeAt Go.RowKit

theorem pack_53 : packB [5, 3] = [2, 10, 3] := by
  simp [packB, putsB, diffs, turnV, wrap64, putB]
theorem put_300 : putB 300 = [172, 2] := by
  rw [putB_big (by omega), putB_small (by omega)]; rfl
theorem next_80 : nextV (bytesOf { data := #[128] }) = (21, 0, 0) := by decide
theorem next_8000 : nextV (bytesOf { data := #[128, 0] }) = (20, 0, 0) := by decide

set_option maxRecDepth 100000 in
set_option maxHeartbeats 1000000 in
theorem shown_any (am an : Addr) (w : World) (hsent : Sent am an w) :
    Calls Tryd.prog 16 #[] w fun e w' => e = .returned (.bool true) ∧ Below w.heap.size w w' := by
  have HS := hid hsent
  have HP : Hid (∀ W : World, Calls Tryd.prog 17 #[.int .u64 300] W fun e w' => e = .returned (.string { data := #[172, 2] }) ∧ Below W.heap.size W w') := fun W => by
    have := put1_any 300 (by omega) W
    rw [put_300] at this
    exact this
  have HG := hid (fun W h => get_is am an { data := #[128, 0] } (by decide) next_8000 W h)
  have HG2 := hid (fun W h => get_is am an { data := #[128] } (by decide) next_80 W h)
  have HK := hid (fun W => pack_short (.slice (some ⟨W.heap.size, 0, none⟩) 2 2) [5, 3] (W.alloc (.cells #[.int .i64 5, .int .i64 3] 2)) (IntsAt.lit W [5, 3] _ 2) (by unfold inI; intro n hn; simp at hn; omega) (by decide))
  rw [pack_53] at HK
  clear hsent
  go_enter Tryd.func16, Tryd.ntmps16
  go_wp2_with (first
    | (go_at_call 26; ((with_reducible refine (HK.out _).mono ?_); rintro e w1 ⟨rfl, hb1⟩; have HB1 : Hid (Below w.heap.size w w1) := (show Below w.heap.size w w1 by (repeat' (first | (with_reducible exact Below.refl _ _) | (with_reducible assumption) | (with_reducible refine Below.new ?_ _) | (with_reducible refine Below.alloc ?_ ?_ _) | (with_reducible refine Below.drew ?_) | (with_reducible refine Below.setCell ?_ ?_ _) | (refine Below.step ?_ (by assumption)) | go_size))); have HS1 := hid (HS.out.below HB1.out); clear hb1))
    | (go_at_call 18; first
      | ((with_reducible refine (HG.out _ HS1.out).mono ?_); rintro e w2 ⟨rfl, hb2⟩; have HB2 := hid (HB1.out.step hb2); have HS2 := hid (HS.out.below HB2.out); clear hb2)
      | ((with_reducible refine (HG2.out _ HS2.out).mono ?_); rintro e w3 ⟨rfl, hb3⟩; have HB3 := hid (HB2.out.step hb3); clear hb3))
    | (go_at_call 17; ((with_reducible refine (HP.out _).mono ?_); rintro e w4 ⟨rfl, hb4⟩; have HB4 := hid (HB3.out.step hb4); clear hb4)))
  go_ret
  exact ⟨rfl, HB4.out⟩
end Go.Proofs.YtpgifmccajcgkaaDoor
