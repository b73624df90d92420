/- Varints: the program's 'put' and 'Put'. -/
import Derived.Test.YtdgeinipdphoeaaVarC
import Derived.Test.YtdgeinipdphoeaaMarks
import Derived.Test.YtdgeinipdphoeaaShelf
import Derived.Deep.LoopGhost
namespace Go.Proofs.Ytdgeinipdphoeaa
set_option linter.unusedVariables false
set_option linter.unusedSimpArgs false
open Go.ChangeShapes Go.WideShapes Go.ChangeAt Go.RowKit Go.Shelf
attribute [local go_sem] Oper.semAt_some

theorem callsIn_any {n : Nat} {P : Program} {l' : Nat} {f : FuncId} {args : Array Value} {w : World} {R : Ending → World → Prop} (h : Calls P f args w R) : CallsIn (Fence.wide.inRound l') n P f args w R :=
  ⟨trivial, (callsIn_wide (n := n)).2 h |>.2⟩

/-- Numbers' bytes, one behind the other. -/
def putsB : List Nat → List UInt8
  | [] => []
  | n :: l => putB n ++ putsB l
theorem putsB_append (l m : List Nat) : putsB (l ++ m) = putsB l ++ putsB m := by
  induction l with
  | nil => rfl
  | cons a l ih => rw [List.cons_append, putsB, putsB, ih, List.append_assoc]
theorem putsB_take {l : List Nat} {k : Nat} (h : k < l.length) : putsB (l.take (k + 1)) = putsB (l.take k) ++ putB (l[k]?.getD 0) := by
  rw [List.take_succ_eq_append_getElem h, putsB_append, List.getElem?_eq_getElem h]
  simp [putsB]
theorem putsB_length {l : List Nat} (h : ∀ n ∈ l, n ≤ 18446744073709551615) : (putsB l).length ≤ 10 * l.length := by
  induction l with
  | nil => simp [putsB]
  | cons a l ih =>
    have h1 := putB_ten (h a (by simp))
    have h2 := ih fun n hn => h n (by simp [hn])
    simp only [putsB, List.length_append, List.length_cons]
    omega
/-- A row of numbers lies at an address. -/
def NumsAt (w : World) (ao : Option Addr) (l : List Nat) : Prop :=
  0 < l.length → ∃ b off, ao = some ⟨b, off, none⟩ ∧ ∀ j, j < l.length → w.cell? ⟨b, off + j, none⟩ = some (.int .u64 ((l[j]?.getD 0 : Nat) : Int))

/-- What a round over the bytes of n keeps: the builder, with j of them behind the others; the box of n; the marks. -/
def putI (w : World) (Ds : List Nat) (P : List UInt8) (n : Nat) (d : Nat) (j : Nat) (X : World) : Prop :=
  Bld w.heap.size w.heap.size (Lib.byteCells (P ++ (putB n).take j)) X ∧ Below w.heap.size w X ∧ Marked (w.heap.size + 1) Ds X ∧ ∃ z, X.heap[d]? = some (.cells #[z] 56 (0, 0))
theorem putI_stab {w : World} {Ds : List Nat} {P : List UInt8} {n d B : Nat} (hB : w.heap.size ≤ B) (h : ∀ D ∈ Ds, D < B) (j : Nat) : Stab B (putI w Ds P n d j) :=
  Stab.and Stab.bld (Stab.and (Stab.below (Nat.le_refl _) hB) (Stab.and (Stab.marked h) (Stab.ex fun z => Stab.block)))
theorem putI_own {w : World} {Ds : List Nat} {P : List UInt8} {n d : Nat} (hd : w.heap.size < d) (hD : ∀ D ∈ Ds, D ≠ d) (j : Nat) : Own d (d + 1) (putI w Ds P n d j) := fun W b v h1 h2 ⟨h3, h4, h5, z, h6⟩ => by
  obtain rfl : b = d := by omega
  exact ⟨Bld.box h3 h6 (by decide) (by omega), h4.setCell (by simp; omega) _, ⟨h5.nodup, h5.low, fun D hm => (heap_set_other (hD D hm)).trans (h5.at_ D hm)⟩, v, heap_set_same h6⟩

theorem byteCells_step (P l : List UInt8) (j : Nat) (hj : j < l.length) : Lib.byteCells (P ++ l.take (j + 1)) = Lib.byteCells (P ++ l.take j) ++ [.int .u8 ((l[j]?.getD 0).toNat : Int)] := by
  rw [List.take_succ_eq_append_getElem hj, List.getElem?_eq_getElem hj]
  simp only [Lib.byteCells, List.map_append, List.map_cons, List.map_nil, List.append_assoc, Option.getD_some]

set_option maxRecDepth 100000 in
set_option maxHeartbeats 4000000 in
theorem put_any (l : List Nat) (hl : ∀ n ∈ l, n ≤ 18446744073709551615) (hlen : l.length ≤ 2000) (ao : Option Addr) (N cap : Nat) (hN : l.length = N) (w : World) (hr : NumsAt w ao l) :
    Calls Try.prog 106 #[.slice ao N cap] w fun e w' => e = .returned (strV (putsB l)) ∧ Below w.heap.size w w' := by
  have HR := hid hr; have HL := hid hl; have HN := hid hN
  rw [hN] at hlen
  clear hr hl hN
  refine calls_marks Try.func106 rfl ?_
  simp only [Try.ntmps106, List.size_toArray, List.length_cons, List.length_nil, Nat.reduceAdd, Nat.reduceSub, Array.replicate_succ, Array.replicate_zero, List.push_toArray, List.append_toArray, List.nil_append, List.cons_append]
  go_wp2
  refine wp_loop_ghost_k (fun n a W => ∃ k, k ≤ N ∧ n = N - k ∧ ∃ (Ds : List Nat) (u5 u6 u10 u11 u12 u13 u14 u15 u16 u17 u18 : Value), a = { tmps := #[.slice ao N cap, undef, .string { data := #[] }, .pointer (some ⟨w.heap.size, 0, none⟩), undef, u5, u6, .slice ao N cap, .int .i64 (N : Int), .int .i64 (k : Int), u10, u11, u12, u13, u14, u15, u16, u17, u18, undef], defers := Ds.map mark } ∧
    Bld w.heap.size w.heap.size (Lib.byteCells (putsB (l.take k))) W ∧ Below w.heap.size w W ∧ Marked (w.heap.size + 1) Ds W) N ?start ?round
  case start =>
    refine ⟨0, Nat.zero_le _, by omega, [], _, _, _, _, _, _, _, _, _, _, _, rfl, Lib.fresh_isBuilder _ _ w, by (repeat' (first | (with_reducible exact Below.refl _ _) | (with_reducible assumption) | (with_reducible refine Below.new ?_ _) | (with_reducible refine Below.alloc ?_ ?_ _) | (with_reducible refine Below.drew ?_) | (with_reducible refine Below.setCell ?_ ?_ _) | (refine Below.step ?_ (by assumption)) | go_size)), Marked.nil _ _⟩
  case round =>
    rintro n a W ⟨k, hk, rfl, Ds, u5, u6, u10, u11, u12, u13, u14, u15, u16, u17, u18, rfl, hbld, hB, hM⟩ J K hJ hK
    by_cases hlt : k < N
    · obtain ⟨b, o, rfl, hc⟩ := HR.out (by rw [HN.out]; omega)
      have e0 := cell_step (hc k (by rw [HN.out]; exact hlt)) hB
      have hpt := hid (putsB_take (l := l) (k := k) (by rw [HN.out]; exact hlt))
      have hy64 : l[k]?.getD 0 ≤ 18446744073709551615 := by
        rw [List.getElem?_eq_getElem (by rw [HN.out]; exact hlt)]
        exact HL.out _ (by simp)
      obtain ⟨y, hy⟩ : ∃ y, l[k]?.getD 0 = y := ⟨_, rfl⟩
      rw [hy] at e0 hpt hy64
      clear hc hy
      have hHJ := hid hJ; have hHK := hid hK; clear hJ hK
      go_wp2_with (go_at_call 118; (with_reducible refine (bytes_any _ _).mono ?_); rintro e w1 ⟨rfl, rfl⟩)
      have hwz := hB.size
      have hbl : w.heap.size < W.heap.size := hbld.elim (fun h => h.lt) (fun h => h.lt)
      refine wp_rangeW (gf := 129) (lb := #[.pointer (some ⟨W.heap.size, 0, none⟩)]) rfl (enters_of Try.func129 (by kernel_rfl) rfl)
        (bytes_seq y hy64 W.heap.size 0 W.heap.size (W.heap.size + 1) _ ⟨Nat.le_refl _, by omega⟩ (by simp) (heap_at rfl))
        ⟨Nat.zero_le _, by simp⟩ (fun _ => rfl) (putI w Ds (putsB (l.take k)) y W.heap.size) (fun _ _ _ => False) (putI_stab (by simp; omega) (fun D hD => by have := hM.lt D hD; simp; omega)) (fun _ _ => Stab.pure _)
        (putI_own hbl (fun D hD => by have := hM.lt D hD; omega)) ?pstart ?pround ?pdone ?pstop
      case pstart =>
        refine ⟨?_, hB.alloc hwz _, (Stab.marked (B := W.heap.size) hM.lt).alloc _ hM, _, heap_at rfl⟩
        rw [List.take_zero, List.append_nil]
        exact (Stab.bld (B := 0)).alloc _ hbld
      case pstop => intro D c j X _ _ h; exact h.elim
      case pround =>
        intro ln j X hj hI hl hlt2 hX
        gi_wp2
        refine ⟨Kept.refl _ _ _ _ _, fun X2 hT => ?_⟩
        have hI2 := (putI_stab (w := w) (Ds := Ds) (P := putsB (l.take k)) (n := y) (d := W.heap.size) (B := (W.alloc (.cells #[.int .u64 (y : Int)] 56)).heap.size) (by simp; omega) (fun D hD => by have := hM.lt D hD; simp; omega) j).turn hI hT hl
        obtain ⟨g1, g2, g3, z, g4⟩ := hI2
        have hz2 := g2.size
        have hlen1 : (Lib.byteCells (putsB (l.take k) ++ (putB y).take j)).length + 1 ≤ 140737488355328 := by
          have q1 := putsB_length (l := l.take k) (fun n hn => HL.out n (List.mem_of_mem_take hn))
          have q2 : (l.take k).length ≤ k := by rw [List.length_take]; exact Nat.min_le_left _ _
          have q3 := putB_ten hy64
          simp only [Lib.byteCells_length, List.length_append, List.length_take]
          omega
        have hst := hid (byteCells_step (putsB (l.take k)) (putB y) j hj)
        have WB := hid (fun W' (h : Bld w.heap.size w.heap.size (Lib.byteCells (putsB (l.take k) ++ (putB y).take j)) W') (hs : w.heap.size ≤ W'.heap.size) => writeByte_any w.heap.size w.heap.size _ (((putB y)[j]?.getD 0).toNat : Int) W' h hlen1 hs)
        clear hlen1 hI hHJ hHK e0
        gi_wp2
        refine ⟨trivial, (callsIn_any (WB.out _ g1 hz2)).mono ?_⟩
        rintro e X3 ⟨rfl, f1, f2, f3⟩
        gi_wp2
        have hold : ∀ q o', X2.heap[q]? = some o' → q ≠ w.heap.size → (∀ c fz, o' ≠ .cells c 5 fz) → X3.heap[q]? = some o' := fun q o' h1 h2 h3 => f3 q o' h1 (by simpa using h2) h3
        refine ⟨⟨⟨f2.size, fun q o' _ h1 h2 => ?_⟩, f2.size, fun q hq => absurd hq (by omega), fun q h1 h2 => ?_⟩, ?_⟩
        · refine hold q o' h1 (fun e => ?_) (fun c fz e => by subst e; cases h2)
          subst e
          rcases g1 with ⟨_, v, hbk, _⟩ | ⟨_, v, hbk, _⟩ <;> (rw [hbk] at h1; cases h1; cases h2)
        · obtain rfl : q = W.heap.size := by omega
          rw [g4]
          exact hold _ _ g4 (by omega) (fun c fz e => by cases e)
        · refine ⟨.inr ?_, g2.trans f2, ⟨g3.nodup, g3.low, fun D hD => hold _ _ (g3.at_ D hD) (by have := g3.low D hD; omega) (fun c fz e => by cases e)⟩, z, hold _ _ g4 (by omega) (fun c fz e => by cases e)⟩
          rw [hst.out]
          exact f1
      case pdone =>
        intro D X hD hI hKD
        obtain ⟨g1, g2, g3, z, g4⟩ := hI
        rw [List.take_length, ← hpt.out] at g1
        have hDs : D ∉ Ds := fun h => by have := hM.lt D h; simp at hD; omega
        go_wp2
        refine hHK.out _ _ ⟨N - (k + 1), by omega, hHJ.out _ _ _ ⟨k + 1, hlt, rfl, D :: Ds, _, _, _, _, _, _, _, _, _, _, _, rfl, g1, g2, g3.cons (by simp at hD; omega) hDs hKD⟩⟩
    · obtain rfl : k = N := by omega
      clear hJ hK
      have ht : l.take k = l := by rw [← HN.out, List.take_length]
      rw [ht] at hbld
      have hS := hid (fun W' (h : Lib.IsBuilder 105 5 w.heap.size w.heap.size (Lib.byteCells (putsB l)) W') (hs : w.heap.size ≤ W'.heap.size) => Try.Builder_String_any_k w.heap.size w.heap.size (putsB l) W' (Lib.IsBuilderF.of h) hs)
      go_wp2_with (go_at_call 79; (refine (hS.out _ hbld hB.size).mono ?_); rintro e X3 ⟨rfl, f1, f2, f3⟩)
      have hM3 : Marked (w.heap.size + 1) Ds X3 := ⟨hM.nodup, hM.low, fun D hD => f3 D _ (hM.at_ D hD) (by have := hM.low D hD; simp; omega) (fun c fz e => by cases e)⟩
      refine ret_marks (.inl rfl) hM3 fun w' hT => ⟨by simp only [results, Try.results106]; go_simp; try rfl, rfl, hT.below (hB.trans f2) (by omega)⟩
end Go.Proofs.Ytdgeinipdphoeaa
