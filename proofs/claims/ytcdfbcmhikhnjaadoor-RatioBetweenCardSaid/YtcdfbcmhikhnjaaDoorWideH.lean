/- Wide numbers: the verifier's 'Sum'; the program's 'all'. -/
import Derived.Test.YtcdfbcmhikhnjaaDoorWideE
import Derived.Test.YtcdfbcmhikhnjaaDoorSame
namespace Go
theorem World.heap_mid (w : World) (o1 o2 o3 : Obj) : (((w.alloc o1).alloc o2).alloc o3).heap[w.heap.size + 1]? = some o2 := by
  show (((w.heap.push o1).push o2).push o3)[w.heap.size + 1]? = some o2
  rw [Array.getElem?_push, if_neg (by simp), Array.getElem?_push, if_pos (by simp)]
theorem World.heap_low (w : World) (o1 o2 o3 : Obj) : (((w.alloc o1).alloc o2).alloc o3).heap[w.heap.size]? = some o1 := by
  show (((w.heap.push o1).push o2).push o3)[w.heap.size]? = some o1
  rw [Array.getElem?_push, if_neg (by simp; omega), Array.getElem?_push, if_neg (by simp), Array.getElem?_push, if_pos rfl]
end Go
namespace Go.Proofs.YtcdfbcmhikhnjaaDoor
set_option linter.unusedVariables false
set_option linter.unusedSimpArgs false
open Go.ChangeShapes Go.WideShapes Go.ChangeAt Go.RowKit

def sumI : List Int → Int
  | [] => 0
  | x :: l => x + sumI l
theorem sumI_append (l m : List Int) : sumI (l ++ m) = sumI l + sumI m := by
  induction l with
  | nil => simp [sumI]
  | cons x l ih => simp only [List.cons_append, sumI, ih]; omega
theorem sumI_take {xs : List Int} {k : Nat} (h : k < xs.length) : sumI (xs.take (k + 1)) = sumI (xs.take k) + xs[k]?.getD 0 := by
  rw [List.take_succ_eq_append_getElem h, sumI_append]
  simp [sumI, h]
abbrev Ints64 (xs : List Int) : Prop := ∀ k, k < xs.length → -9223372036854775808 ≤ xs[k]?.getD 0 ∧ xs[k]?.getD 0 ≤ 9223372036854775807

/-- 'all' of two, the slice of which lies in one block. -/
theorem all_two (n m : Int) (b cap : Nat) (w : World) (h0 : w.cell? ⟨b, 0, none⟩ = some (.int .i64 (hiW n))) (h1 : w.cell? ⟨b, 1, none⟩ = some (.int .u64 (loW n)))
    (h2 : w.cell? ⟨b, 2, none⟩ = some (.int .i64 (hiW m))) (h3 : w.cell? ⟨b, 3, none⟩ = some (.int .u64 (loW m))) :
    Calls Tryd.prog 49 #[.slice (some ⟨b, 0, none⟩) 2 cap] w fun e w' => e = .returned ((Value.agg #[.int .i64 (hiW (n + m)), .int .u64 (loW (n + m))])) ∧ Below w.heap.size w w' := by
  have hbl : b < w.heap.size := World.block_lt_of_cell? _ _ h0
  have hz : ∀ x : Int, 0 + x = x := fun x => by omega
  have A1 := hid (fun w => add_any 0 n w)
  rw [hz] at A1
  have A2 := hid (fun w => add_any n m w)
  have z0 : hiW 0 = 0 := by decide
  have z1 : loW 0 = 0 := by decide
  rw [z0, z1] at A1
  clear hz z0 z1
  go_enter Tryd.func49, Tryd.ntmps49
  go_wp2
  refine wp_loop_rounds 3 ?_
  rw [rounds_succ]
  go_wp2_with (go_at_call 74; refine (A1.out _).mono ?_; rintro e w1 ⟨rfl, hb1⟩; obtain ⟨hc1, hf1, hk1, hz1⟩ := bcell3 hb1; (try simp only [World.size_alloc, World.size_drew] at hz1); have : w.heap.size < w1.heap.size := (by omega); have : w.heap.size + 1 < w1.heap.size := (by omega); have : w.heap.size + 1 + 1 < w1.heap.size := (by omega); have hbl1 : b < w1.heap.size := (by omega); have hBB : Below w.heap.size w w1 := (by (repeat' (first | (with_reducible exact Below.refl _ _) | (with_reducible assumption) | (with_reducible refine Below.new ?_ _) | (with_reducible refine Below.alloc ?_ ?_ _) | (with_reducible refine Below.drew ?_) | (with_reducible refine Below.drewN ?_ _) | (with_reducible refine Below.setCell ?_ ?_ _) | (refine Below.step ?_ (by assumption)) | go_size))); have h2' := cell_step h2 hBB; have h3' := cell_step h3 hBB; have hO1 := (hb1.block (w.heap.size + 1) (by simp)).trans (World.heap_mid w _ _ _); have hR1 := (hb1.block w.heap.size (by simp; omega)).trans (World.heap_low w _ _ _); obtain ⟨c0, c1, g0, g1, b1⟩ := two_is hO1; clear hc1 hf1 hk1)
  rw [rounds_succ]
  go_wp2_with (go_at_call 74; refine (A2.out _).mono ?_; rintro e w2 ⟨rfl, hb2⟩; have hO2 := (hb2.block (w.heap.size + 1) (by simp; omega)).trans ((heap_past (by simp; omega)).trans (two_set hO1)); have hR2 := (hb2.block w.heap.size (by simp; omega)).trans ((heap_past (by simp; omega)).trans ((heap_set_other (by simp)).trans ((heap_set_other (by simp)).trans hR1))); obtain ⟨d0, d1, f0, f1, b2⟩ := two_is hO2; obtain ⟨x0, x1, y0, y1, b3⟩ := two_is hR2)
  rw [rounds_succ]
  go_wp2
  ((show bodyPost _ _ _ _ _ _); refine bodyPost_ret (by simp only [results, Tryd.results49]; go_simp; try rfl) rfl ?_)
  exact ⟨rfl, by (repeat' (first | (with_reducible exact Below.refl _ _) | (with_reducible assumption) | (with_reducible refine Below.new ?_ _) | (with_reducible refine Below.alloc ?_ ?_ _) | (with_reducible refine Below.drew ?_) | (with_reducible refine Below.drewN ?_ _) | (with_reducible refine Below.setCell ?_ ?_ _) | (refine Below.step ?_ (by assumption)) | go_size))⟩
end Go.Proofs.YtcdfbcmhikhnjaaDoor
