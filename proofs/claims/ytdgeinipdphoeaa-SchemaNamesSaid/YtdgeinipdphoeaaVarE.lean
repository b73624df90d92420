/- Varints: the program's 'Put'. -/
import Derived.Test.YtdgeinipdphoeaaVarD
namespace Go.Proofs.Ytdgeinipdphoeaa
set_option linter.unusedVariables false
set_option linter.unusedSimpArgs false
open Go.ChangeShapes Go.WideShapes Go.ChangeAt Go.RowKit Go.Shelf

set_option maxRecDepth 100000 in
theorem put1_any (n : Nat) (hn : n ≤ 18446744073709551615) (w : World) :
    Calls Try.prog 77 #[.int .u64 (n : Int)] w fun e w' => e = .returned (strV (putB n)) ∧ Below w.heap.size w w' := by
  have HP := hid (fun (W : World) (h : NumsAt W (some ⟨w.heap.size, 0, none⟩) [n]) => put_any [n] (fun m hm => by simp at hm; omega) (by simp) (some ⟨w.heap.size, 0, none⟩) 1 1 rfl W h)
  have he := hid (show putsB [n] = putB n by simp [putsB])
  have hnum : NumsAt (w.alloc (.cells #[.int .u64 (n : Int)] 56)) (some ⟨w.heap.size, 0, none⟩) [n] := fun _ => ⟨w.heap.size, 0, rfl, fun j hj => by
    simp at hj
    subst hj
    simp⟩
  go_enter Try.func77, Try.ntmps77
  go_wp2_with (go_at_call 106; (refine (HP.out _ hnum).mono ?_); rintro e w1 ⟨rfl, hb1⟩)
  rw [he.out]
  ((show bodyPost _ _ _ _ _ _); refine bodyPost_ret (by simp only [results, Try.results77]; go_simp; try rfl) rfl ?_)
  exact ⟨rfl, by (repeat' (first | (with_reducible exact Below.refl _ _) | (with_reducible assumption) | (with_reducible refine Below.new ?_ _) | (with_reducible refine Below.alloc ?_ ?_ _) | (with_reducible refine Below.drew ?_) | (with_reducible refine Below.setCell ?_ ?_ _) | (refine Below.step ?_ (by assumption)) | go_size))⟩
end Go.Proofs.Ytdgeinipdphoeaa
