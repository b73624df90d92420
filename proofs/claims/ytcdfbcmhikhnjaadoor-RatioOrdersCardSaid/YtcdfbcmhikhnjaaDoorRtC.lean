/- Ratio: the program's iterator over the digits of a quotient. -/
import Derived.Test.YtcdfbcmhikhnjaaDoorRtA
import Derived.Test.YtcdfbcmhikhnjaaDoorSeqF
import Derived.Test.YtcdfbcmhikhnjaaDoorFlQ
import Derived.Test.YtcdfbcmhikhnjaaDoorBlk
import Derived.Stop.RegionWithIn
import Derived.Sort.QuietIn
import Derived.Sort.LoopGhostIn
namespace Go.Proofs.YtcdfbcmhikhnjaaDoor
set_option linter.unusedVariables false
set_option linter.unusedSimpArgs false
set_option maxRecDepth 100000
open Go.ChangeShapes Go.WideShapes Go.ChangeAt Go.RowKit Go.Fl
attribute [local go_sem] Oper.semAt_some

theorem quotient_any (h l n : Int) (w : World) :
    Calls Tryd.prog 68 #[.agg #[.int .i64 h, .int .u64 l], .int .u64 n] w fun e w' => e = .returned (.func (.func 85) #[] #[.pointer (some ⟨w.heap.size, 0, none⟩), .pointer (some ⟨w.heap.size + 1, 0, none⟩)]) ∧
      w' = (w.alloc (.cells #[.int .i64 h, .int .u64 l] 30)).alloc (.cells #[.int .u64 n] 22) := by
  go_enter Tryd.func68, Tryd.ntmps68
  go_wp2
  go_ret
  exact ⟨rfl, rfl⟩
theorem yield_bb {e : Ending} {A B C : Prop} (h : (e = .returned (.bool true) ∧ A ∧ B) ∨ (e = .returned (.bool false) ∧ C)) : ∃ bb : Bool, e = .returned (.bool bb) ∧ ((bb = true ∧ A ∧ B) ∨ (bb = false ∧ C)) := by
  rcases h with ⟨h1, h2⟩ | ⟨h1, h2⟩
  · exact ⟨true, h1, .inl ⟨rfl, h2⟩⟩
  · exact ⟨false, h1, .inr ⟨rfl, h2⟩⟩
theorem two_at {w : World} {b : Nat} {x y : Value} {t : TypeId} (h : w.heap[b]? = some (.cells #[x, y] t (0, 0))) : w.cell? ⟨b, 0, none⟩ = some x ∧ w.cell? ⟨b, 1, none⟩ = some y ∧ w.frozen? ⟨b, 0, none⟩ = false ∧ w.frozen? ⟨b, 1, none⟩ = false := by
  unfold World.cell? World.frozen?
  rw [h]
  simp
theorem ne_zero (x : Nat) : (!decide (x = 0)) = ((x : Int) != 0) := by rw [Bool.eq_iff_iff]; simp
set_option maxHeartbeats 4000000 in
theorem quotient_seq (A n : Nat) (hA : A < 2 ^ 128) (hn : 0 < n) (hn2 : n ≤ 20000000000) (h : Int) (hh : IntKind.u64.wrap h = ((A / 2 ^ 64 : Nat) : Int)) (ab nb N : Nat) (n₀ lo hi : Nat) (w : World)
    (ha : w.heap[ab]? = some (.cells #[.int .i64 h, .int .u64 ((A % 2 ^ 64 : Nat) : Int)] 30 (0, 0))) (hb : w.heap[nb]? = some (.cells #[.int .u64 (n : Int)] 22 (0, 0))) (pa : ab < n₀ ∨ lo ≤ ab ∧ ab < hi) (pb : nb < n₀ ∨ lo ≤ nb ∧ nb < hi) :
    SeqF Tryd.prog 85 #[.pointer (some ⟨ab, 0, none⟩), .pointer (some ⟨nb, 0, none⟩)] (fun k : Nat => #[.int .u64 ((quo A n (k + 1) % 2 : Nat) : Int), .bool (moreB A n (k + 1))]) n₀ lo hi N w := by
  intro m0 lp J Jx W hm0 hW hJ hJx hY hNF h0
  obtain ⟨m1, rfl⟩ : ∃ m1, m0 = m1 + 1 := ⟨m0 - 1, by omega⟩
  have hzW := hW.size
  have da := (hW.block ab (blk_lt ha)).trans ha
  have db := (hW.block nb (blk_lt hb)).trans hb
  obtain ⟨a0, a1, _, _⟩ := two_at da
  have b0 := cell_of_one db
  clear ha hb hW
  refine callsIn_of_wp Tryd.func85 rfl trivial ?_ rfl
  simp only [Tryd.ntmps85, List.size_toArray, List.length_cons, List.length_nil, Nat.reduceAdd, Nat.reduceSub, Array.replicate_succ, Array.replicate_zero, List.push_toArray, List.append_toArray, List.nil_append, List.cons_append]
  gi_wp2
  gi_quiet (fail)
  gi_wp2
  have hJd : J 0 (W.drewN nq) := hJ 0 W _ none h0 ⟨rfl, rfl, rfl, Nat.le_refl _, fun _ _ _ => rfl⟩ (fun r e => by cases e)
  have hda : (W.drewN nq).heap[ab]? = some (.cells #[.int .i64 h, .int .u64 ((A % 2 ^ 64 : Nat) : Int)] 30 (0, 0)) := da
  have hdb : (W.drewN nq).heap[nb]? = some (.cells #[.int .u64 (n : Int)] 22 (0, 0)) := db
  clear a0 a1 b0 hh
  gi_loopg [4, 5, 6, 7] N (fun m hi lo rest dg wr => ∃ k, k + m = N ∧ hi = .int .u64 ((hiA A k : Nat) : Int) ∧ lo = .int .u64 ((loA A k : Nat) : Int) ∧ rest = .int .u64 ((tA A k % n : Nat) : Int) ∧ J k wr ∧ wr.heap[nb]? = some (.cells #[.int .u64 (n : Int)] 22 (0, 0)))
  case atStart => exact ⟨0, by omega, by rw [hi_zero hA]; simp, by rw [lo_zero hA]; simp, by rw [tA_zero hA]; simp, hJd, hdb⟩
  case round =>
    obtain ⟨k, hk, rfl, rfl, rfl, hJk, hbn⟩ := hrel
    by_cases hm : gk = 0
    · subst hm
      obtain rfl : k = N := by omega
      exact (hNF _ hJk).elim
    · have b0 := cell_of_one hbn
      have hkN : k < N := by omega
      have HY := hid (hY k hkN)
      have HREL := hid (fun (W5 : World) (a : J (k + 1) W5) (b : W5.heap[nb]? = some (.cells #[.int .u64 (n : Int)] 22 (0, 0))) =>
        (show ∃ k', k' + (gk - 1) = N ∧ Value.int .u64 ((hiA A (k + 1) : Nat) : Int) = .int .u64 ((hiA A k' : Nat) : Int) ∧ Value.int .u64 ((loA A (k + 1) : Nat) : Int) = .int .u64 ((loA A k' : Nat) : Int) ∧ Value.int .u64 ((tA A (k + 1) % n : Nat) : Int) = .int .u64 ((tA A k' % n : Nat) : Int) ∧ J k' W5 ∧ W5.heap[nb]? = some (.cells #[.int .u64 (n : Int)] 22 (0, 0)) from ⟨k + 1, by omega, rfl, rfl, rfl, a, b⟩))
      have x1 := hi_lt A k; have x2 := lo_lt A k
      have x3 : tA A k % n < n := Nat.mod_lt _ hn
      have x4 := top_le A k
      have y1 := hi_succ A k; have y2 := lo_succ A k; have y3 := rest_succ A n k; have y4 := digit_succ A n k hn; have y5 := moreB_eq A n (k + 1)
      have z1 := hi_lt A (k + 1); have z2 := lo_lt A (k + 1)
      have z3 : tA A (k + 1) % n < n := Nat.mod_lt _ hn
      generalize hiA A k = H at *
      generalize loA A k = L at *
      generalize tA A k % n = T at *
      generalize hiA A (k + 1) = H' at *
      generalize loA A (k + 1) = L' at *
      generalize tA A (k + 1) % n = T' at *
      have v8 : quo A n (k + 1) % 2 ≤ 1 := by omega
      generalize quo A n (k + 1) % 2 = dg at *
      generalize moreB A n (k + 1) = mo at *
      obtain ⟨t, ht⟩ : ∃ t, 2 * T + H / 2 ^ 63 = t := ⟨_, rfl⟩
      rw [ht] at y3 y4
      have r1 : bits .or .u64 ((T : Int) * 2) ((H : Int) / 9223372036854775808) = (t : Int) := by
        rw [show (T : Int) * 2 = ((2 * T : Nat) : Int) by omega, show (H : Int) / 9223372036854775808 = ((H / 2 ^ 63 : Nat) : Int) by omega, bits_or _ _ (by omega) (by omega), or_bit _ _ x4, ht]
      have r2 : bits .or .u64 (IntKind.u64.wrap ((H : Int) * 2)) ((L : Int) / 9223372036854775808) = (H' : Int) := by
        have e1 : IntKind.u64.wrap ((H : Int) * 2) = ((2 * (H % 2 ^ 63) : Nat) : Int) := by rw [IntKind.wrap_u64]; omega
        rw [e1, show (L : Int) / 9223372036854775808 = ((L / 2 ^ 63 : Nat) : Int) by omega, bits_or _ _ (by omega) (by omega), or_bit _ _ (by omega), y1]
        congr 1
        omega
      have r3 : IntKind.u64.wrap ((L : Int) * 2) = (L' : Int) := by rw [IntKind.wrap_u64]; omega
      have r4 : (t : Int) / (n : Int) = (dg : Int) := by rw [← y4]; simp
      have r5 : (t : Int) % (n : Int) = (T' : Int) := by rw [y3]; simp
      have v1 : (H : Int) ≤ 18446744073709551615 := by omega
      have v2 : (L : Int) ≤ 18446744073709551615 := by omega
      have v3 : (T : Int) ≤ 20000000000 := by omega
      have v4 : (t : Int) ≤ 40000000001 := by omega
      have v5 : (0 : Int) < (n : Int) := by omega
      have v6 : ¬ (n : Int) = 0 := by omega
      have v7 : (dg : Int) ≤ 1 := by omega
      have HJ := hid hJk; have HBN := hid hbn
      clear y1 y2 y3 ht x1 x2 x3 x4 z1 z2 z3 hJk hbn hA hJd hda hdb da db
      have hcase : (∃ b1 b2 b3 : Bool, ((T' : Int) != 0) = b1 ∧ ((H' : Int) != 0) = b2 ∧ ((L' : Int) != 0) = b3 ∧ mo = (b1 || (b2 || b3))) :=
        ⟨_, _, _, rfl, rfl, rfl, by rw [y5, ne_zero, ne_zero, ne_zero]⟩
      obtain ⟨b1, b2, b3, f1, f2, f3, rfl⟩ := hcase
      clear y5
      obtain ⟨fn, tmps, assign, body, hy, hR4⟩ := HY.out wr HJ.out
      (try dsimp only at hy)
      cases b1
      case' false => cases b2
      case' false.false => cases b3
      all_goals
        simp only [Bool.true_or, Bool.false_or, Bool.or_true, Bool.or_false] at hy
        gi_wp2_with ((refine (hR4.mono (fun _ _ h => yield_bb h)).mono ?_); rintro e W5 ⟨bb, rfl, h5'⟩; have h5 := hid h5'; clear h5')
        all_goals
          rcases h5.out with ⟨rfl, hJ5, hP5⟩ | ⟨rfl, hJx5⟩
          · first
              | contradiction
              | (gi_roundg (gk - 1)
                 case rel => exact HREL.out _ hJ5 ((pb.elim (fun q => hP5.low _ q) (fun q => hP5.mid _ q.1 q.2)).trans HBN.out)
                 case measure => omega)
              | (exfalso; simp_all; done)
          · first
              | contradiction
              | (refine bodyPost_ret (results_none rfl _ _ _) rfl ?_
                 exact ⟨⟨_, rfl⟩, k, hkN, hJx5⟩)
              | (exfalso; simp_all; done)
end Go.Proofs.YtcdfbcmhikhnjaaDoor
