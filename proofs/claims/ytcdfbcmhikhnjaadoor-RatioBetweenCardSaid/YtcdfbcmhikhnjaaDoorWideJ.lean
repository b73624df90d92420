/- Wide numbers: the program's 'Sum'. -/
import Derived.Test.YtcdfbcmhikhnjaaDoorWideI
namespace Go.Proofs.YtcdfbcmhikhnjaaDoor
set_option linter.unusedVariables false
set_option linter.unusedSimpArgs false
open Go.ChangeShapes Go.WideShapes Go.ChangeAt Go.RowKit Go.Shelf
attribute [local go_sem] Oper.semAt_some

theorem ProtN.below {n₀ lo hi B : Nat} {X Y : World} (hb : Below X.heap.size X Y) (h1 : n₀ ≤ X.heap.size) (h2 : hi ≤ X.heap.size) : ProtN n₀ lo hi B X Y :=
  ⟨hb.size, fun k hk => hb.block k (by omega), fun k a b => hb.block k (by omega), fun k a b => hb.block k b⟩
theorem ProtN.setCell {n₀ lo hi B : Nat} {X Y : World} (h : ProtN n₀ lo hi B X Y) {p : Addr} (h1 : n₀ ≤ p.block) (h2 : p.block < lo ∨ hi ≤ p.block) (h3 : p.block < B) (u : Value) : ProtN n₀ lo hi B X (Y.setCell p u) :=
  h.trans ⟨by simp [World.setCell], fun k hk => Below.heap_setCell Y p u k (by omega), fun k a b => Below.heap_setCell Y p u k (by omega), fun k a b => Below.heap_setCell Y p u k (by omega)⟩

def sumJ (xs : List Int) (w : World) (k : Nat) (X : World) : Prop :=
  X.heap[w.heap.size + 1]? = some (.cells #[.int .i64 (hiW (sumI (xs.take k))), .int .u64 (loW (sumI (xs.take k)))] 30 (0, 0)) ∧ X.heap[w.heap.size]? = some (.cells #[.int .i64 0, .int .u64 0] 30 (0, 0)) ∧ Below w.heap.size w X

set_option maxRecDepth 100000 in
set_option maxHeartbeats 1000000 in
theorem sum_any (v : Value) (xs : List Int) (w : World) (hv : IntsAt w v xs) (hl : xs.length ≤ 1000000000) (hx : Ints64 xs) :
    Calls Tryd.prog 23 #[v] w fun e w' => e = .returned ((Value.agg #[.int .i64 (hiW (sumI xs)), .int .u64 (loW (sumI xs))])) ∧ Below w.heap.size w w' := by
  obtain ⟨ao, cap, rfl, hA⟩ := hv
  obtain ⟨N, hN⟩ : ∃ N, xs.length = N := ⟨_, rfl⟩
  rw [hN] at hA hl ⊢
  have HA : Hid (∀ o1 o2 o3 : Obj, 0 < N → ∃ a o, ao = some ⟨a, o, none⟩ ∧ a < w.heap.size ∧ ∀ k, k < N → (((w.alloc o1).alloc o2).alloc o3).cell? ⟨a, o + k, none⟩ = some (.int .i64 (xs[k]?.getD 0))) := hid fun o1 o2 o3 h => by
    obtain ⟨a, o, e, hc⟩ := hA h
    exact ⟨a, o, e, World.block_lt_of_cell? _ _ (hc 0 h), fun k hk => cell_step (hc k hk) ((((Below.refl _ w).new _).new _).new _)⟩
  clear hA
  refine calls_marks Tryd.func23 rfl ?_
  simp only [Tryd.ntmps23, List.size_toArray, List.length_cons, List.length_nil, Nat.reduceAdd, Nat.reduceSub, Array.replicate_succ, Array.replicate_zero, List.push_toArray, List.append_toArray, List.nil_append, List.cons_append]
  go_wp2_with (go_at_call 48; ((with_reducible refine (numbers_any _ _ _ _).mono ?_); rintro e w1 ⟨rfl, rfl⟩))
  refine wp_rangeN (gf := 72) (lb := #[.pointer (some ⟨w.heap.size + 1 + 1, 0, none⟩)]) rfl (enters_of Tryd.func72 (by kernel_rfl) rfl)
    (numbers_seq xs hx N hN ao cap (w.heap.size + 1 + 1) w.heap.size (w.heap.size + 1 + 1) (w.heap.size + 1 + 1 + 1) _ (by omega) (by simp) (by simp; omega) hl (by go_simp) (HA.out _ _ _))
    (by simp; omega) (fun _ => rfl) (sumJ xs w) (fun _ _ _ => False) ?stab ?stabx ?start ?round ?done ?stop
  case stab => exact fun k => Stab.and Stab.block (Stab.and Stab.block (Stab.below (Nat.le_refl _) (by simp; omega)))
  case stabx => exact fun c k => Stab.pure _
  case start => exact ⟨by (simp (disch := first | omega | (simp only [World.size_alloc, World.size_setCell, World.size_drew]; done) | (simp only [World.size_alloc, World.size_setCell, World.size_drew]; omega)) only [heap_at, heap_past, heap_set_other, heap_set_same]); rfl, by (simp (disch := first | omega | (simp only [World.size_alloc, World.size_setCell, World.size_drew]; done) | (simp only [World.size_alloc, World.size_setCell, World.size_drew]; omega)) only [heap_at, heap_past, heap_set_other, heap_set_same]), by (repeat' (first | (with_reducible exact Below.refl _ _) | (with_reducible assumption) | (with_reducible refine Below.new ?_ _) | (with_reducible refine Below.alloc ?_ ?_ _) | (with_reducible refine Below.drew ?_) | (with_reducible refine Below.drewN ?_ _) | (with_reducible refine Below.setCell ?_ ?_ _) | (refine Below.step ?_ (by assumption)) | go_size))⟩
  case done =>
    intro D X hD hI hK
    obtain ⟨hB, hR, hbel⟩ := hI
    have ht : xs.take N = xs := by rw [← hN, List.take_length]
    rw [ht] at hB
    obtain ⟨c0, c1, g0, g1, b1⟩ := two_is hB
    obtain ⟨r0, r1, q0, q1, b2⟩ := two_is hR
    simp only [World.size_alloc] at hD
    go_wp2
    have hK' : ((X.setCell ⟨w.heap.size, 0, none⟩ (.int .i64 (hiW (sumI xs)))).setCell ⟨w.heap.size, 1, none⟩ (.int .u64 (loW (sumI xs)))).heap[D]? = some (.deferred (some [])) := by
      rw [heap_set_other (by omega), heap_set_other (by omega)]; exact hK
    have hR' := two_set (u := .int .i64 (hiW (sumI xs))) (v := .int .u64 (loW (sumI xs))) hR
    refine ret_mark (.inl rfl) hK' fun w' hT => ?_
    obtain ⟨y0, y1, _, _, _⟩ := two_is ((hT.block (lt_of_block hR') (by omega)).trans hR')
    refine ⟨_, by simp only [results, Tryd.results23]; go_simp; try rfl, rfl, ?_⟩
    exact (Stab.below (Nat.le_refl _) (Nat.le_refl _)).turn ((hbel.setCell (by simp) _).setCell (by simp) _) hT (by omega)
  case stop =>
    intro D c k X hD hk hX hK
    exact hX.elim
  case round =>
    intro l' k X hkN hI hl2 hlt hX
    obtain ⟨hB, hR, hbel⟩ := hI
    simp only [World.size_alloc] at hl2 hX
    gi_wp2
    refine ⟨ProtN.below ((Below.refl _ X).new _) (by omega) (by omega), fun W2 hT => ?_⟩
    have hkl : k < xs.length := by omega
    have hg : xs[k]?.getD 0 = xs[k] := by simp [hkl]
    have hsk : sumI (xs.take (k + 1)) = sumI (xs.take k) + xs[k] := by rw [sumI_take hkl, hg]
    have HS := hid hsk
    clear hsk
    have hT2 := hT.size
    simp only [World.size_alloc] at hT2
    have hB2 := (hT.block (by simp; omega) (by omega)).trans ((heap_past (by omega)).trans hB)
    have hR2 := (hT.block (by simp; omega) (by omega)).trans ((heap_past (by omega)).trans hR)
    have hV2 := (hT.block (k := X.heap.size) (by simp) (by omega)).trans (heap_at rfl)
    have hbel2 : Below w.heap.size w W2 := (Stab.below (Nat.le_refl _) (Nat.le_refl _)).turn (hbel.new _) hT (by omega)
    obtain ⟨c0, c1, g0, g1, b1⟩ := two_is hB2
    obtain ⟨v0, v1, _, _, b2⟩ := two_is hV2
    gi_wp2
    refine ⟨trivial, (callsIn_any (all_two (sumI (xs.take k)) xs[k] (X.heap.size + 1) 2 _ (by go_simp) (by go_simp) (by go_simp) (by go_simp))).mono ?_⟩
    rintro e w3 ⟨rfl, hb3⟩
    have hz3 := hb3.size
    simp only [World.size_alloc] at hz3
    have hB3 := (hb3.block (w.heap.size + 1) (by simp; omega)).trans ((heap_past (by omega)).trans hB2)
    have hR3 := (hb3.block w.heap.size (by simp; omega)).trans ((heap_past (by omega)).trans hR2)
    have hbel3 : Below w.heap.size w w3 := (hbel2.new _).step hb3
    have hP3 : ProtN w.heap.size (w.heap.size + 1 + 1) (w.heap.size + 1 + 1 + 1) (w.heap.size + 1 + 1 + 1) W2 w3 := ProtN.below (((Below.refl _ W2).new _).step hb3) (by omega) (by omega)
    obtain ⟨d0, d1, f0, f1, b3⟩ := two_is hB3
    gi_wp2
    refine ⟨((hP3.setCell (p := ⟨w.heap.size + 1, 0, none⟩) (by simp) (by simp) (by simp) _).setCell (p := ⟨w.heap.size + 1, 1, none⟩) (by simp) (by simp) (by simp) _).weaken (by simp), ?_, ?_, (hbel3.setCell (by simp) _).setCell (by simp) _⟩
    · rw [HS.out]; exact two_set hB3
    · rw [heap_set_other (by simp), heap_set_other (by simp)]; exact hR3
end Go.Proofs.YtcdfbcmhikhnjaaDoor
