/- Schemas: the library's slices.Concat of two slices of strings. -/
import Derived.Test.YtdgeinipdphoeaaSchD
import Derived.Test.YtdgeinipdphoeaaMem
import Derived.Laws.AppendOwnNone
namespace Go.Proofs.Ytdgeinipdphoeaa
set_option linter.unusedVariables false
set_option linter.unusedSimpArgs false
set_option maxRecDepth 100000
open Go.ChangeShapes Go.WideShapes Go.ChangeAt Go.RowKit

set_option maxHeartbeats 2000000 in
theorem concat_ss (a1 a2 : Addr) (c1 c2 : Nat) (s1 s2 : List ByteArray) (b : Nat) (w : World) (h1 : ∀ j u, (strsV s1)[j]? = some u → w.cell? (a1.add j) = some u) (h2 : ∀ j u, (strsV s2)[j]? = some u → w.cell? (a2.add j) = some u)
    (l1 : s1.length ≤ 1000) (l2 : s2.length ≤ 1000) (e1 : w.cell? ⟨b, 0, none⟩ = some (.slice (some a1) s1.length c1)) (e2 : w.cell? ⟨b, 1, none⟩ = some (.slice (some a2) s2.length c2)) :
    Calls Try.prog 49 #[.slice (some ⟨b, 0, none⟩) 2 2] w fun e w' => ∃ v, e = .returned v ∧ w'.ownsRow w.heap.size 9 1 v (s1.length + s2.length) (strsV s1 ++ strsV s2) ∧ Below w.heap.size w w' := by
  obtain ⟨i0, hi, hiz0, hiz1, hiz2⟩ := info_parts info_string
  have HG := hid (fun w => grow_any (s1.length + s2.length) (by omega) w)
  have H1 := hid h1; have H2 := hid h2
  clear h1 h2
  obtain ⟨n1, hn1⟩ : ∃ n1, s1.length = n1 := ⟨_, rfl⟩
  obtain ⟨n2, hn2⟩ : ∃ n2, s2.length = n2 := ⟨_, rfl⟩
  have HN1 := hid hn1; have HN2 := hid hn2
  rw [hn1] at HG l1 e1 ⊢
  rw [hn2] at HG l2 e2 ⊢
  clear hn1 hn2
  obtain ⟨N, hN⟩ : ∃ N, n1 + n2 = N := ⟨_, rfl⟩
  rw [hN] at HG ⊢
  have hsum : ((n1 : Int) + (n2 : Int)) = (N : Int) := by omega
  go_enter Try.func49, Try.ntmps49
  go_wp2
  refine wp_loop_rounds 3 ?_
  rw [rounds_succ]
  go_wp2
  rw [rounds_succ]
  go_wp2
  rw [rounds_succ]
  go_wp2_with (go_at_call 82; go_loud ((with_reducible refine (HG.out _).mono ?_); rintro e w1 ⟨v, rfl, hown, hb1⟩; have d1 := cell_step e1 hb1; have d2 := cell_step e2 hb1; have hz1 := hb1.size))
  refine wp_loop_rounds 3 ?_
  rw [rounds_succ]
  go_wp2_with (at_builtin; go_loud (refine wpList_append_own _ rfl _ _ 22 rfl w.heap.size 9 i0 (.string { data := #[] }) 1 16 Try.underlying22 hi hiz0 hiz1 hiz2 rfl (by decide) _ _ _ rfl hown a1 n1 c1 (strsV s1) rfl (by simp [HN1.out]) (fun j u h => cell_step (H1.out j u h) hb1) (strs_one _) (by unfold maxLen; omega) (by omega) (by omega) ?_); intro v2 w2 hown2 hgr2 hnil2)
  have hB2 : Below w.heap.size w w2 := hb1.grown hgr2 (by omega) (fun r e => (hown.lt r e).1)
  have f2 := cell_step e2 hB2
  have hz2 := hB2.size
  rw [rounds_succ]
  go_wp2_with (at_builtin; go_loud (refine wpList_append_own _ rfl _ _ 22 rfl w.heap.size 9 i0 (.string { data := #[] }) 1 16 Try.underlying22 hi hiz0 hiz1 hiz2 rfl (by decide) _ _ _ rfl hown2 a2 n2 c2 (strsV s2) rfl (by simp [HN2.out]) (fun j u h => cell_step (H2.out j u h) hB2) (strs_one _) (by unfold maxLen; omega) (by omega) (by omega) ?_); intro v3 w3 hown3 hgr3 hnil3)
  have hB3 : Below w.heap.size w w3 := hB2.grown hgr3 (by omega) (fun r e => (hown2.lt r e).1)
  rw [rounds_succ]
  go_wp2
  go_ret
  exact ⟨v3, rfl, by rw [← hN]; simpa using hown3, hB3⟩
set_option maxHeartbeats 2000000 in
theorem concat_ns (a2 : Addr) (c2 : Nat) (s2 : List ByteArray) (b : Nat) (w : World) (h2 : ∀ j u, (strsV s2)[j]? = some u → w.cell? (a2.add j) = some u)
    (l2 : s2.length ≤ 1000) (e1 : w.cell? ⟨b, 0, none⟩ = some (.slice none 0 0)) (e2 : w.cell? ⟨b, 1, none⟩ = some (.slice (some a2) s2.length c2)) :
    Calls Try.prog 49 #[.slice (some ⟨b, 0, none⟩) 2 2] w fun e w' => ∃ v, e = .returned v ∧ w'.ownsRow w.heap.size 9 1 v s2.length (strsV s2) ∧ Below w.heap.size w w' := by
  obtain ⟨i0, hi, hiz0, hiz1, hiz2⟩ := info_parts info_string
  have HG := hid (fun w => grow_any s2.length (by omega) w)
  have H2 := hid h2
  clear h2
  obtain ⟨n2, hn2⟩ : ∃ n2, s2.length = n2 := ⟨_, rfl⟩
  have HN2 := hid hn2
  rw [hn2] at HG l2 e2 ⊢
  clear hn2
  go_enter Try.func49, Try.ntmps49
  go_wp2
  refine wp_loop_rounds 3 ?_
  rw [rounds_succ]
  go_wp2
  rw [rounds_succ]
  go_wp2
  rw [rounds_succ]
  go_wp2_with (go_at_call 82; go_loud ((with_reducible refine (HG.out _).mono ?_); rintro e w1 ⟨v, rfl, hown, hb1⟩; have d1 := cell_step e1 hb1; have d2 := cell_step e2 hb1; have hz1 := hb1.size))
  refine wp_loop_rounds 3 ?_
  rw [rounds_succ]
  go_wp2_with (at_builtin; go_loud (refine wpList_append_own_none rfl _ _ 22 rfl w.heap.size 9 i0 1 Try.underlying22 hi _ _ _ rfl hown rfl ?_))
  have hB2 := hb1
  have hown2 := hown
  have f2 := cell_step e2 hB2
  have hz2 := hB2.size
  rw [rounds_succ]
  go_wp2_with (at_builtin; go_loud (refine wpList_append_own _ rfl _ _ 22 rfl w.heap.size 9 i0 (.string { data := #[] }) 1 16 Try.underlying22 hi hiz0 hiz1 hiz2 rfl (by decide) _ _ _ rfl hown2 a2 n2 c2 (strsV s2) rfl (by simp [HN2.out]) (fun j u h => cell_step (H2.out j u h) hB2) (strs_one _) (by unfold maxLen; omega) (by omega) (by omega) ?_); intro v3 w3 hown3 hgr3 hnil3)
  have hB3 : Below w.heap.size w w3 := hB2.grown hgr3 (by omega) (fun r e => (hown2.lt r e).1)
  rw [rounds_succ]
  go_wp2
  go_ret
  exact ⟨v3, rfl, by simpa using hown3, hB3⟩
set_option maxHeartbeats 2000000 in
theorem concat_sn (a1 : Addr) (c1 : Nat) (s1 : List ByteArray) (b : Nat) (w : World) (h1 : ∀ j u, (strsV s1)[j]? = some u → w.cell? (a1.add j) = some u)
    (l1 : s1.length ≤ 1000) (e1 : w.cell? ⟨b, 0, none⟩ = some (.slice (some a1) s1.length c1)) (e2 : w.cell? ⟨b, 1, none⟩ = some (.slice none 0 0)) :
    Calls Try.prog 49 #[.slice (some ⟨b, 0, none⟩) 2 2] w fun e w' => ∃ v, e = .returned v ∧ w'.ownsRow w.heap.size 9 1 v s1.length (strsV s1) ∧ Below w.heap.size w w' := by
  obtain ⟨i0, hi, hiz0, hiz1, hiz2⟩ := info_parts info_string
  have HG := hid (fun w => grow_any s1.length (by omega) w)
  have H1 := hid h1
  clear h1
  obtain ⟨n1, hn1⟩ : ∃ n1, s1.length = n1 := ⟨_, rfl⟩
  have HN1 := hid hn1
  rw [hn1] at HG l1 e1 ⊢
  clear hn1
  go_enter Try.func49, Try.ntmps49
  go_wp2
  refine wp_loop_rounds 3 ?_
  rw [rounds_succ]
  go_wp2
  rw [rounds_succ]
  go_wp2
  rw [rounds_succ]
  go_wp2_with (go_at_call 82; go_loud ((with_reducible refine (HG.out _).mono ?_); rintro e w1 ⟨v, rfl, hown, hb1⟩; have d1 := cell_step e1 hb1; have d2 := cell_step e2 hb1; have hz1 := hb1.size))
  refine wp_loop_rounds 3 ?_
  rw [rounds_succ]
  go_wp2_with (at_builtin; go_loud (refine wpList_append_own _ rfl _ _ 22 rfl w.heap.size 9 i0 (.string { data := #[] }) 1 16 Try.underlying22 hi hiz0 hiz1 hiz2 rfl (by decide) _ _ _ rfl hown a1 n1 c1 (strsV s1) rfl (by simp [HN1.out]) (fun j u h => cell_step (H1.out j u h) hb1) (strs_one _) (by unfold maxLen; omega) (by omega) (by omega) ?_); intro v2 w2 hown2 hgr2 hnil2)
  have hB2 : Below w.heap.size w w2 := hb1.grown hgr2 (by omega) (fun r e => (hown.lt r e).1)
  have f2 := cell_step e2 hB2
  have hz2 := hB2.size
  rw [rounds_succ]
  go_wp2_with (at_builtin; go_loud (refine wpList_append_own_none rfl _ _ 22 rfl w.heap.size 9 i0 1 Try.underlying22 hi _ _ _ rfl hown2 rfl ?_))
  rw [rounds_succ]
  go_wp2
  go_ret
  exact ⟨v2, rfl, by simpa using hown2, hB2⟩

set_option maxHeartbeats 2000000 in
theorem concat_nn (b : Nat) (w : World) (e1 : w.cell? ⟨b, 0, none⟩ = some (.slice none 0 0)) (e2 : w.cell? ⟨b, 1, none⟩ = some (.slice none 0 0)) :
    Calls Try.prog 49 #[.slice (some ⟨b, 0, none⟩) 2 2] w fun e w' => ∃ v, e = .returned v ∧ w'.ownsRow w.heap.size 9 1 v 0 [] ∧ Below w.heap.size w w' := by
  have HG : Hid (∀ w, Calls Try.prog 82 #[.slice none 0 0, .int .i64 0] w fun e w' => e = .returned (.slice none 0 0) ∧ w = w') := fun w => grow_zero w
  go_enter Try.func49, Try.ntmps49
  go_wp2
  refine wp_loop_rounds 3 ?_
  rw [rounds_succ]
  go_wp2
  rw [rounds_succ]
  go_wp2
  rw [rounds_succ]
  go_wp2_with (go_at_call 82; go_loud ((with_reducible refine (HG.out _).mono ?_); rintro e w1 ⟨rfl, rfl⟩))
  refine wp_loop_rounds 3 ?_
  rw [rounds_succ]
  go_wp2
  rw [rounds_succ]
  go_wp2
  rw [rounds_succ]
  go_wp2
  go_ret
  exact ⟨_, rfl, World.ownsRow_nil _ _ _ _, by (repeat' (first | (with_reducible exact Below.refl _ _) | (with_reducible assumption) | (with_reducible refine Below.new ?_ _) | (with_reducible refine Below.alloc ?_ ?_ _) | (with_reducible refine Below.drew ?_) | (with_reducible refine Below.drewN ?_ _) | (with_reducible refine Below.setCell ?_ ?_ _) | (refine Below.step ?_ (by assumption)) | go_size))⟩

end Go.Proofs.Ytdgeinipdphoeaa
