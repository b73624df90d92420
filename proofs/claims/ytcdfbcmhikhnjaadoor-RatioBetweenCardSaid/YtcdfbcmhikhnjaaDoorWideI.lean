/- Wide numbers: the iterators under the program's 'Sum'. -/
import Derived.Test.YtcdfbcmhikhnjaaDoorSeqN
import Derived.Test.YtcdfbcmhikhnjaaDoorWideH
namespace Go.Proofs.YtcdfbcmhikhnjaaDoor
set_option linter.unusedVariables false
set_option linter.unusedSimpArgs false
open Go.ChangeShapes Go.WideShapes Go.ChangeAt Go.RowKit Go.Shelf
attribute [local go_sem] Oper.semAt_some

theorem roundIn_any {n m : Nat} {P : Program} {l l' : Nat} {f : FuncId} {tmps : Array Value} {assign body : Code} {w : World} {R : Ending → World → Prop} (h : RoundIn Fence.wide n P l f tmps assign body w R) : RoundIn (Fence.wide.inRound l') m P l f tmps assign body w R :=
  ⟨h.1, fun c cs _ => h.2 c cs (room_wide _)⟩
theorem callsIn_any {n : Nat} {P : Program} {l' : Nat} {f : FuncId} {args : Array Value} {w : World} {R : Ending → World → Prop} (h : Calls P f args w R) : CallsIn (Fence.wide.inRound l') n P f args w R :=
  ⟨trivial, (callsIn_wide (n := n)).2 h |>.2⟩
theorem Stab.below_step {B : Nat} {p : World → Prop} (h : Stab B p) {X Y : World} (hs : p X) (hb : Below X.heap.size X Y) : p Y :=
  h X Y none hs ⟨hb.os, hb.tape, hb.output, hb.size, fun i hi _ => hb.block i hi⟩ (fun r e => by cases e)

theorem values_any (ao : Option Addr) (N cap : Nat) (w : World) :
    Calls Tryd.prog 73 #[.slice ao N cap] w fun e w' => e = .returned (.func (.func 86) #[] #[.pointer (some ⟨w.heap.size, 0, none⟩)]) ∧ w' = w.alloc (.cells #[.slice ao N cap] 42) := by
  go_enter Tryd.func73, Tryd.ntmps73
  go_wp2
  go_ret
  exact ⟨rfl, rfl⟩
theorem numbers_any (ao : Option Addr) (N cap : Nat) (w : World) :
    Calls Tryd.prog 48 #[.slice ao N cap] w fun e w' => e = .returned (.func (.func 72) #[] #[.pointer (some ⟨w.heap.size, 0, none⟩)]) ∧ w' = w.alloc (.cells #[.slice ao N cap] 42) := by
  go_enter Tryd.func48, Tryd.ntmps48
  go_wp2
  go_ret
  exact ⟨rfl, rfl⟩

set_option maxRecDepth 100000 in
set_option maxHeartbeats 1000000 in
theorem values_seq (xs : List Int) (N : Nat) (ao : Option Addr) (cap b1 n₀ lo hi : Nat) (w : World) (hb1 : lo ≤ b1 ∧ b1 < hi) (hw : hi ≤ w.heap.size) (hN : N ≤ 1000000000)
    (c0 : w.cell? ⟨b1, 0, none⟩ = some (.slice ao N cap)) (hel : 0 < N → ∃ a o, ao = some ⟨a, o, none⟩ ∧ a < n₀ ∧ ∀ k, k < N → w.cell? ⟨a, o + k, none⟩ = some (.int .i64 (xs[k]?.getD 0))) :
    SeqN Tryd.prog 86 #[.pointer (some ⟨b1, 0, none⟩)] (fun k : Nat => #[Value.int .i64 (xs[k]?.getD 0)]) n₀ lo hi N w := by
  intro n l J Jx W hW hJ hJx hY h0
  have d0 := (hW.cell (p := ⟨b1, 0, none⟩) (by simp; omega)).trans c0
  have HE := hid hel
  clear c0 hel
  refine (callsIn_wide (n := n + 1)).1 (callsIn_of_wp Tryd.func86 rfl trivial ?_ rfl)
  simp only [Tryd.ntmps86, List.size_toArray, List.length_cons, List.length_nil, Nat.reduceAdd, Nat.reduceSub, Array.replicate_succ, Array.replicate_zero, List.push_toArray, List.append_toArray, List.nil_append, List.cons_append]
  gi_wp2
  gi_loopw [7] (fun tt wr => ∃ k : Nat, k ≤ N ∧ tt = .int .i64 k ∧ J k wr ∧ Prot n₀ lo hi W wr) (fun tt _ => N - (intOf tt).toNat)
  case atStart => exact ⟨0, Nat.zero_le _, rfl, h0, Prot.refl _ _ _ _⟩
  case round =>
    obtain ⟨k, hk, rfl, hJs, hP⟩ := hrel
    by_cases hlt : k < N
    · obtain ⟨a, o, rfl, ha, hc⟩ := HE.out (by omega)
      have e0 := hc k hlt
      have e1 := (hP.cell (b := a) (o := o + k) (.inl ha)).trans ((hW.cell (p := ⟨a, o + k, none⟩) (World.block_lt_of_cell? _ _ e0)).trans e0)
      obtain ⟨fn, tmps, assign, body, hy, hR⟩ := hY k hlt wr hP.size hJs
      (try dsimp only at hy)
      obtain ⟨y, hyy⟩ : ∃ y, xs[k]?.getD 0 = y := ⟨_, rfl⟩
      rw [hyy] at e1 hy
      clear hY hJ hJx hc e0 hyy
      gi_wp2
      refine hR.mono ?_
      rintro e W3 (⟨rfl, hJ3, hP3⟩ | ⟨rfl, hJx3, hP3⟩)
      · gi_wp2
        go_roundw
        case rel => exact ⟨k + 1, hlt, by go_num, hJ3, hP.trans hP3.prot⟩
        case measure => simp [intOf]; omega
      · gi_wp2
        refine bodyPost_ret (results_none rfl _ _ _) rfl ?_
        exact ⟨⟨_, rfl⟩, .inr ⟨k, hlt, hJx3⟩⟩
    · obtain rfl : k = N := by omega
      clear hY hJ hJx
      gi_wp2
      go_end0
      exact ⟨⟨_, rfl⟩, .inl hJs⟩

theorem w_wide : (Value.agg #[.int .i64 (hiW (0)), .int .u64 (loW (0))]) = Value.agg #[.int .i64 0, .int .u64 0] := by rfl

theorem Stab.mono {B B' : Nat} {p : World → Prop} (h : Stab B p) (hB : B ≤ B') : Stab B' p := fun X Y row hs hg hr => h X Y row hs hg fun r e => ⟨Nat.le_trans hB (hr r e).1, (hr r e).2⟩
theorem Stab.prot {n₀ lo hi B : Nat} {W : World} (h1 : n₀ ≤ B ∧ hi ≤ B) (h2 : n₀ ≤ W.heap.size) (h3 : hi ≤ W.heap.size) : Stab B (Prot n₀ lo hi W) := fun X Y row hs hg hr =>
  ⟨Nat.le_trans hs.size hg.size, fun k hk => (hg.block k (by have := hs.size; omega) (fun e => by have := (hr _ e.symm).1; omega)).trans (hs.low k hk),
    fun k a b => (hg.block k (by have := hs.size; omega) (fun e => by have := (hr _ e.symm).1; omega)).trans (hs.mid k a b)⟩

theorem ProtN.inner {n₀ lo hi B lo' hi' B' : Nat} {X Y Z : World} (hb : Below X.heap.size X Y) (h : ProtN n₀ lo hi B Y Z) (hl : n₀ ≤ X.heap.size) (h1 : B ≤ lo') (h2 : hi' ≤ X.heap.size) (h3 : B ≤ B') : ProtN n₀ lo' hi' B' X Z :=
  ⟨Nat.le_trans hb.size h.size, fun k hk => (h.low k hk).trans (hb.block k (by omega)), fun k a b => (h.high k (by omega) (by have := hb.size; omega)).trans (hb.block k (by omega)), fun k a b => (h.high k (by omega) (by have := hb.size; omega)).trans (hb.block k b)⟩
theorem Prot.outer {n₀ lo hi B : Nat} {W X Y Z : World} (h0 : Prot n₀ lo hi W X) (hb : Below X.heap.size X Y) (h : ProtN n₀ lo hi B Y Z) (hl : n₀ ≤ X.heap.size) (h2 : hi ≤ X.heap.size) : Prot n₀ lo hi W Z :=
  ⟨Nat.le_trans h0.size (Nat.le_trans hb.size h.size), fun k hk => (h.low k hk).trans ((hb.block k (by omega)).trans (h0.low k hk)), fun k a b => (h.mid k a b).trans ((hb.block k (by omega)).trans (h0.mid k a b))⟩

/-- What the inner loop keeps of the iterator's own. -/
def numI (J : Nat → World → Prop) (n₀ lo hi l : Nat) (W : World) (k : Nat) (X : World) : Prop :=
  J k X ∧ Prot n₀ lo hi W X ∧ ∃ T, X.heap[W.heap.size]? = some (.cells #[.func (.yield l) #[] #[]] T (0, 0))
def numX (Jx : Nat → World → Prop) (c : Code) (k : Nat) (X : World) : Prop := c = .exit 0 ∧ Jx k X

set_option maxRecDepth 100000 in
set_option maxHeartbeats 1000000 in
theorem numbers_seq (xs : List Int) (hx : Ints64 xs) (N : Nat) (hlen : xs.length = N) (ao : Option Addr) (cap b1 n₀ lo hi : Nat) (w : World) (hb1 : lo ≤ b1 ∧ b1 < hi) (hw : hi ≤ w.heap.size) (hn₀ : n₀ ≤ w.heap.size) (hN : N ≤ 1000000000)
    (c0 : w.cell? ⟨b1, 0, none⟩ = some (.slice ao N cap)) (hel : 0 < N → ∃ a o, ao = some ⟨a, o, none⟩ ∧ a < n₀ ∧ ∀ k, k < N → w.cell? ⟨a, o + k, none⟩ = some (.int .i64 (xs[k]?.getD 0))) :
    SeqN Tryd.prog 72 #[.pointer (some ⟨b1, 0, none⟩)] (fun k : Nat => #[(Value.agg #[.int .i64 (hiW (xs[k]?.getD 0)), .int .u64 (loW (xs[k]?.getD 0))])]) n₀ lo hi N w := by
  intro n l J Jx W hW hJ hJx hY h0
  have hsz := hW.size
  have d0 := (hW.cell (p := ⟨b1, 0, none⟩) (by simp; omega)).trans c0
  have hbW : b1 < W.heap.size := by omega
  have HE : Hid (0 < N → ∃ a o, ao = some ⟨a, o, none⟩ ∧ a < n₀ ∧ ∀ k, k < N → W.cell? ⟨a, o + k, none⟩ = some (.int .i64 (xs[k]?.getD 0))) := hid fun h => by
    obtain ⟨a, o, e, ha, hc⟩ := hel h
    exact ⟨a, o, e, ha, fun k hk => (hW.cell (p := ⟨a, o + k, none⟩) (World.block_lt_of_cell? _ _ (hc k hk))).trans (hc k hk)⟩
  clear c0 hel
  refine calls_marks Tryd.func72 rfl ?_
  simp only [Tryd.ntmps72, List.size_toArray, List.length_cons, List.length_nil, Nat.reduceAdd, Nat.reduceSub, Array.replicate_succ, Array.replicate_zero, List.push_toArray, List.append_toArray, List.nil_append, List.cons_append]
  go_wp2
  refine wp_scope_fwd ?_
  go_wp2
  refine wp_label ?_
  go_wp2_with (go_at_call 73; ((with_reducible refine (values_any _ _ _ _).mono ?_); rintro e w1 ⟨rfl, rfl⟩))
  refine wp_rangeN (gf := 86) (lb := #[.pointer (some ⟨W.heap.size + 1, 0, none⟩)]) rfl (enters_of Tryd.func86 (by kernel_rfl) rfl)
    (values_seq xs N ao cap (W.heap.size + 1) n₀ (W.heap.size + 1) (W.heap.size + 1 + 1) _ (by omega) (by simp) hN (by go_simp) ?hel)
    (by simp; omega) (fun _ => rfl) (numI J n₀ lo hi l W) (numX Jx) ?stab ?stabx ?start ?round ?done ?stop
  case hel =>
    intro h
    obtain ⟨a, o, e, ha, hc⟩ := HE.out h
    exact ⟨a, o, e, ha, fun k hk => ((((Below.refl _ W).new _).new _).cell (p := ⟨a, o + k, none⟩) (World.block_lt_of_cell? _ _ (hc k hk))).trans (hc k hk)⟩
  case stab => exact fun k => Stab.and ((hJ k).mono (by simp; omega)) (Stab.and (Stab.prot (by simp; omega) (by omega) (by omega)) (Stab.ex fun T => Stab.block))
  case stabx => exact fun c k => Stab.and (Stab.pure _) ((hJx k).mono (by simp; omega))
  case start =>
    refine ⟨(hJ 0).alloc _ ((hJ 0).alloc _ h0), ⟨by simp; omega, fun k hk => ?_, fun k h1 h2 => ?_⟩, _, by (simp (disch := first | omega | (simp only [World.size_alloc, World.size_setCell, World.size_drew]; done) | (simp only [World.size_alloc, World.size_setCell, World.size_drew]; omega)) only [heap_at, heap_past, heap_set_other, heap_set_same]); rfl⟩
    · (simp (disch := first | omega | (simp only [World.size_alloc, World.size_setCell, World.size_drew]; done) | (simp only [World.size_alloc, World.size_setCell, World.size_drew]; omega)) only [heap_at, heap_past, heap_set_other, heap_set_same])
    · (simp (disch := first | omega | (simp only [World.size_alloc, World.size_setCell, World.size_drew]; done) | (simp only [World.size_alloc, World.size_setCell, World.size_drew]; omega)) only [heap_at, heap_past, heap_set_other, heap_set_same])
  case done =>
    intro D X hD hI hK
    go_wp2
    simp only [World.size_alloc] at hD
    refine ret_mark (.inr rfl) hK fun w' hT => ?_
    exact ⟨_, by simp only [results, Tryd.results72]; go_simp; try rfl, ⟨_, rfl⟩, .inl ((hJ N).turn hI.1 hT (by omega))⟩
  case stop =>
    intro D c k X hD hk hX hK
    obtain ⟨rfl, hX⟩ := hX
    go_wp2
    simp only [World.size_alloc] at hD
    refine ret_mark (.inr rfl) hK fun w' hT => ?_
    exact ⟨_, by simp only [results, Tryd.results72]; go_simp; try rfl, ⟨_, rfl⟩, .inr ⟨k, hk, (hJx k).turn hX hT (by omega)⟩⟩
  case round =>
    intro l' k X hkN hI hl hlt hX
    obtain ⟨hJs, hP, T, hbox⟩ := hI
    gi_wp2
    refine ⟨ProtN.refl _ _ _ _ _, fun W2 hT => ?_⟩
    simp only [World.size_alloc] at hl hX
    have hJ2 := (hJ k).turn hJs hT (by omega)
    have hbox2 := (hT.block (lt_of_block hbox) (by omega)).trans hbox
    have hP2 : Prot n₀ lo hi W W2 := ⟨by rw [hT.size]; omega, fun j hj => (hT.block (by omega) (by omega)).trans (hP.low j hj), fun j h1 h2 => (hT.block (by omega) (by omega)).trans (hP.mid j h1 h2)⟩
    have hcb := cell_of_one hbox2
    have hkl : k < xs.length := by omega
    have hg : xs[k]?.getD 0 = xs[k] := by simp [hkl]
    have HO := hid (fun w => of_any xs[k] (by rw [← hg]; exact hx k hkl) w)
    have hT2 := hT.size
    gi_wp2
    have hm : Tryd.prog.follows .mixedOrders = true := by kernel_rfl
    refine wpIn_region_any hm ?_
    change wpAnyIn _ _ _ _ _ _ _ _ _ (World.drew _)
    refine wpAnyIn_ready (rs := [0, 1]) (by kernel_rfl) (by simp) (AllReadyIn.cons rfl (fun K hK => ?_) (AllReadyIn.cons rfl (fun K hK => ?_) (AllReadyIn.nil)))
    · go_simp
      refine hK _ _ ?_
      clear hK K
      refine wpAnyIn_ready (rs := [1]) (by kernel_rfl) (by simp) (AllReadyIn.cons rfl (fun K hK => ?_) (AllReadyIn.nil))
      go_simp
      refine hK _ _ ?_
      clear hK K
      refine wpAnyIn_ready (rs := [2]) (by kernel_rfl) (by simp) (AllReadyIn.cons rfl (fun K hK => ?_) (AllReadyIn.nil))
      go_simp
      refine ⟨trivial, (callsIn_any (HO.out _)).mono ?_⟩
      rintro e w3 ⟨rfl, hb3⟩
      refine hK _ _ ?_
      clear hK K
      have hB := ((Below.refl W2.heap.size W2).drew).step hb3
      refine wpAnyIn_ready (rs := [3]) (by kernel_rfl) (by simp) (AllReadyIn.cons rfl (fun K hK => ?_) (AllReadyIn.nil))
      have hJ3 := (hJ k).below_step hJ2 hB
      obtain ⟨fn, tmps, assign, body, hy, hR⟩ := hY k hkN w3 (by have := hP2.size; have := hB.size; omega) hJ3
      (try dsimp only at hy)
      rw [hg] at hy
      go_simp
      refine roundIn_any (hR.mono ?_)
      rintro e W4 (⟨rfl, hJ4, hP4⟩ | ⟨rfl, hJx4, hP4⟩)
      · have hS4 := hP4.size; have hS3 := hB.size
        refine hK _ _ ?_
        clear hK K
        refine wpAnyIn_ready (rs := [4]) (by kernel_rfl) (by simp) (AllReadyIn.cons rfl (fun K hK => ?_) (AllReadyIn.nil))
        go_simp
        refine hK _ _ ?_
        clear hK K
        refine wpAnyIn_done (by kernel_rfl) ?_ _
        gi_wp2
        exact ⟨(ProtN.inner hB hP4 (by omega) (by omega) (by omega) (by simp only [World.size_alloc]; omega)), hJ4, Prot.outer hP2 hB hP4 (by omega) (by omega), T, (hP4.high _ (Nat.le_refl _) (by omega)).trans ((hB.block _ (by omega)).trans hbox2)⟩
      · have hS4 := hP4.size; have hS3 := hB.size
        refine hK _ _ ?_
        clear hK K
        refine wpAnyIn_ready (rs := [4]) (by kernel_rfl) (by simp) (AllReadyIn.cons rfl (fun K hK => ?_) (AllReadyIn.nil))
        go_simp
        refine hK _ _ ?_
        clear hK K
        refine wpAnyIn_done (by kernel_rfl) ?_ _
        gi_wp2
        exact ⟨(ProtN.inner hB hP4 (by omega) (by omega) (by omega) (by simp only [World.size_alloc]; omega)), rfl, hJx4⟩
    · go_simp
      refine hK _ _ ?_
      clear hK K
      refine wpAnyIn_ready (rs := [0, 2]) (by kernel_rfl) (by simp) (AllReadyIn.cons rfl (fun K hK => ?_) (AllReadyIn.cons rfl (fun K hK => ?_) (AllReadyIn.nil)))
      · go_simp
        refine hK _ _ ?_
        clear hK K
        refine wpAnyIn_ready (rs := [2]) (by kernel_rfl) (by simp) (AllReadyIn.cons rfl (fun K hK => ?_) (AllReadyIn.nil))
        go_simp
        refine ⟨trivial, (callsIn_any (HO.out _)).mono ?_⟩
        rintro e w3 ⟨rfl, hb3⟩
        refine hK _ _ ?_
        clear hK K
        have hB := ((Below.refl W2.heap.size W2).drew).step hb3
        refine wpAnyIn_ready (rs := [3]) (by kernel_rfl) (by simp) (AllReadyIn.cons rfl (fun K hK => ?_) (AllReadyIn.nil))
        have hJ3 := (hJ k).below_step hJ2 hB
        obtain ⟨fn, tmps, assign, body, hy, hR⟩ := hY k hkN w3 (by have := hP2.size; have := hB.size; omega) hJ3
        (try dsimp only at hy)
        rw [hg] at hy
        go_simp
        refine roundIn_any (hR.mono ?_)
        rintro e W4 (⟨rfl, hJ4, hP4⟩ | ⟨rfl, hJx4, hP4⟩)
        · have hS4 := hP4.size; have hS3 := hB.size
          refine hK _ _ ?_
          clear hK K
          refine wpAnyIn_ready (rs := [4]) (by kernel_rfl) (by simp) (AllReadyIn.cons rfl (fun K hK => ?_) (AllReadyIn.nil))
          go_simp
          refine hK _ _ ?_
          clear hK K
          refine wpAnyIn_done (by kernel_rfl) ?_ _
          gi_wp2
          exact ⟨(ProtN.inner hB hP4 (by omega) (by omega) (by omega) (by simp only [World.size_alloc]; omega)), hJ4, Prot.outer hP2 hB hP4 (by omega) (by omega), T, (hP4.high _ (Nat.le_refl _) (by omega)).trans ((hB.block _ (by omega)).trans hbox2)⟩
        · have hS4 := hP4.size; have hS3 := hB.size
          refine hK _ _ ?_
          clear hK K
          refine wpAnyIn_ready (rs := [4]) (by kernel_rfl) (by simp) (AllReadyIn.cons rfl (fun K hK => ?_) (AllReadyIn.nil))
          go_simp
          refine hK _ _ ?_
          clear hK K
          refine wpAnyIn_done (by kernel_rfl) ?_ _
          gi_wp2
          exact ⟨(ProtN.inner hB hP4 (by omega) (by omega) (by omega) (by simp only [World.size_alloc]; omega)), rfl, hJx4⟩
      · go_simp
        refine ⟨trivial, (callsIn_any (HO.out _)).mono ?_⟩
        rintro e w3 ⟨rfl, hb3⟩
        refine hK _ _ ?_
        clear hK K
        have hB := ((Below.refl W2.heap.size W2).drew).step hb3
        refine wpAnyIn_ready (rs := [0]) (by kernel_rfl) (by simp) (AllReadyIn.cons rfl (fun K hK => ?_) (AllReadyIn.nil))
        have hc3 := cell_step hcb hB
        go_simp
        refine hK _ _ ?_
        clear hK K
        refine wpAnyIn_ready (rs := [3]) (by kernel_rfl) (by simp) (AllReadyIn.cons rfl (fun K hK => ?_) (AllReadyIn.nil))
        have hJ3 := (hJ k).below_step hJ2 hB
        obtain ⟨fn, tmps, assign, body, hy, hR⟩ := hY k hkN w3 (by have := hP2.size; have := hB.size; omega) hJ3
        (try dsimp only at hy)
        rw [hg] at hy
        go_simp
        refine roundIn_any (hR.mono ?_)
        rintro e W4 (⟨rfl, hJ4, hP4⟩ | ⟨rfl, hJx4, hP4⟩)
        · have hS4 := hP4.size; have hS3 := hB.size
          refine hK _ _ ?_
          clear hK K
          refine wpAnyIn_ready (rs := [4]) (by kernel_rfl) (by simp) (AllReadyIn.cons rfl (fun K hK => ?_) (AllReadyIn.nil))
          go_simp
          refine hK _ _ ?_
          clear hK K
          refine wpAnyIn_done (by kernel_rfl) ?_ _
          gi_wp2
          exact ⟨(ProtN.inner hB hP4 (by omega) (by omega) (by omega) (by simp only [World.size_alloc]; omega)), hJ4, Prot.outer hP2 hB hP4 (by omega) (by omega), T, (hP4.high _ (Nat.le_refl _) (by omega)).trans ((hB.block _ (by omega)).trans hbox2)⟩
        · have hS4 := hP4.size; have hS3 := hB.size
          refine hK _ _ ?_
          clear hK K
          refine wpAnyIn_ready (rs := [4]) (by kernel_rfl) (by simp) (AllReadyIn.cons rfl (fun K hK => ?_) (AllReadyIn.nil))
          go_simp
          refine hK _ _ ?_
          clear hK K
          refine wpAnyIn_done (by kernel_rfl) ?_ _
          gi_wp2
          exact ⟨(ProtN.inner hB hP4 (by omega) (by omega) (by omega) (by simp only [World.size_alloc]; omega)), rfl, hJx4⟩
end Go.Proofs.YtcdfbcmhikhnjaaDoor
