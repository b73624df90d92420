/- Packed lists: the law's 'shown'. -/
import Derived.Test.YtpgifmccajcgkaaDoorPkK
import Derived.Test.YtpgifmccajcgkaaDoorPkF
namespace Go.Proofs.YtpgifmccajcgkaaDoor
set_option linter.unusedVariables false
set_option linter.unusedSimpArgs false
open Go.ChangeShapes Go.WideShapes Go.ChangeAt Go.RowKit

theorem putB_3 : putB 3 = [3] := by rw [putB_small (by omega)]; rfl
theorem wid_503 : widN [5, 0, 3] = 3 := by decide +kernel
theorem pack_503 : packBy [5, 0, 3] = [3, 3, 161, 128] := by
  have h : packD 3 [5, 0, 3] = [161, 128] := by decide +kernel
  unfold packBy
  rw [wid_503, h]
  show putB 3 ++ _ = _
  rw [putB_3]; rfl
theorem pun_503 : punV (bytesOf { data := #[3, 3, 161, 128] }) = (0, [5, 0, 3], 4) := by
  have h := pun_pack (ns := [5, 0, 3]) (by decide) (by intro x hx; simp at hx; omega) []
  rw [List.append_nil, pack_503] at h
  exact h
theorem pun_bad1 : punV (bytesOf { data := #[1, 1, 192] }) = (40, [], 0) := by decide +kernel

set_option maxRecDepth 100000 in
set_option maxHeartbeats 1000000 in
theorem pshown_any (am an : Addr) (w : World) (hsent : Sent am an w) :
    Calls Tryd.prog 30 #[] w fun e w' => e = .returned (.bool true) ∧ Below w.heap.size w w' := by
  have HS := hid hsent
  have HA := hid (fun W h => at_is am an { data := #[3, 3, 161, 128] } (by decide) pun_503 2 W h 3 0 rfl)
  have HU := hid (fun W h => punpack_is am an { data := #[1, 1, 192] } (by decide) pun_bad1 W h)
  have HK := hid (fun (W : World) => ppack_ok (.slice (some ⟨W.heap.size, 0, none⟩) 3 3) [5, 0, 3] (W.alloc (.cells #[.int .i64 5, .int .i64 0, .int .i64 3] 3))
    ⟨_, 3, rfl, by decide, by decide, fun h => (by cases h), fun _ => ⟨_, 0, rfl, fun j hj => by rw [World.cell?_alloc_at _ _ _ _ rfl]; have : j = 0 ∨ j = 1 ∨ j = 2 := (by simp at hj; omega); rcases this with rfl | rfl | rfl <;> rfl⟩⟩ (by decide) (by simp))
  rw [show natsOf [5, 0, 3] = [5, 0, 3] from rfl, pack_503] at HK
  clear hsent
  go_enter Tryd.func30, Tryd.ntmps30
  go_wp2_with (first
    | (go_at_call 31; ((with_reducible refine (HK.out _).mono ?_); rintro e w1 ⟨rfl, hb1⟩; have HB1 : Hid (Below w.heap.size w w1) := (show Below w.heap.size w w1 by (repeat' (first | (with_reducible exact Below.refl _ _) | (with_reducible assumption) | (with_reducible refine Below.new ?_ _) | (with_reducible refine Below.alloc ?_ ?_ _) | (with_reducible refine Below.drew ?_) | (with_reducible refine Below.setCell ?_ ?_ _) | (refine Below.step ?_ (by assumption)) | go_size))); have HS1 := hid (HS.out.below HB1.out); clear hb1))
    | (go_at_call 39; ((with_reducible refine (HA.out _ HS1.out).mono ?_); rintro e w2 ⟨rfl, hb2⟩; have HB2 := hid (HB1.out.step hb2); have HS2 := hid (HS.out.below HB2.out); clear hb2))
    | (go_at_call 36; ((with_reducible refine (HU.out _ HS2.out).mono ?_); rintro e w3 ⟨v, rfl, -, -, hb3⟩; have HB3 := hid (HB2.out.step hb3); clear hb3)))
  go_ret
  exact ⟨rfl, HB3.out⟩
end Go.Proofs.YtpgifmccajcgkaaDoor
