/- Texts joined: Bld, Marks, VarD, VarH, VarK, SchR, SchA, MapB. -/
import Derived.Test.YtdgeinipdphoeaaDoorHa
import Derived.Lib.Builder
import Derived.Lib.OthersKept
import Derived.Laws.Externs
import Derived.Laws.BitsLemmas
import Derived.Test.YtdgeinipdphoeaaDoorHb
import Derived.Test.YtdgeinipdphoeaaDoorShelf
import Derived.Deep.LoopGhost
import Derived.Lib.Hide
import Derived.Laws.RangeAny
import Derived.Maps.Own
import Derived.Maps.OwnOps
/- strings.Builder, as this program has it: copyCheck, WriteByte, WriteString. -/
namespace Go.Proofs.YtdgeinipdphoeaaDoor
set_option linter.unusedVariables false
set_option linter.unusedSimpArgs false
open Go.ChangeShapes Go.WideShapes Go.ChangeAt Go.RowKit

theorem bld_info : ∃ j, Tryd.prog.info? 47 = some j ∧ j.size ≠ 0 := by
  have h : (Tryd.prog.info? 47).map (fun j => decide (j.size ≠ 0)) = some true := by kernel_rfl
  obtain ⟨j, h1, h2⟩ := Option.map_eq_some_iff.1 h
  exact ⟨j, h1, by simpa using h2⟩
set_option maxHeartbeats 1000000 in
set_option maxRecDepth 100000 in
theorem bld_used (b : Nat) (w : World) (h0 : w.cell? ⟨b, 0, none⟩ = some (.pointer (some ⟨b, 0, none⟩))) :
    Calls Tryd.prog 36 #[.pointer (some ⟨b, 0, none⟩)] w fun e w' => e = .returned (.tuple #[]) ∧ w' = w := by
  obtain ⟨j, hj, _⟩ := bld_info
  go_enter Tryd.func36, Tryd.ntmps36
  go_wp2
  rw [Lib.run_neq_ptr_same w _ Tryd.underlying44 hj]
  go_wp2
  go_end0
  exact ⟨rfl, rfl⟩
set_option maxHeartbeats 1000000 in
set_option maxRecDepth 100000 in
theorem bld_fresh (b : Nat) (w : World) (h0 : w.cell? ⟨b, 0, none⟩ = some (.pointer none)) (hsh : w.shape? b = some (47, 2)) (hfz : w.frozen? ⟨b, 0, none⟩ = false) :
    Calls Tryd.prog 36 #[.pointer (some ⟨b, 0, none⟩)] w fun e w' => e = .returned (.tuple #[]) ∧ w' = w.setCell ⟨b, 0, none⟩ (.pointer (some ⟨b, 0, none⟩)) := by
  obtain ⟨j, hj, hjs⟩ := bld_info
  go_enter Tryd.func36, Tryd.ntmps36
  go_wp2
  rw [Lib.run_to_unsafe w ⟨b, 0, none⟩ Tryd.underlying44 Tryd.underlying91 hj hjs hsh (Nat.zero_lt_succ 1)]
  simp only [Result.andThen]
  rw [Oper.upon_value]
  go_wp2
  rw [run_callFunc_extern Tryd.func47 (by kernel_rfl) (by kernel_rfl) (by kernel_rfl) (e := Extern.AbiNoEscape.same) (by kernel_rfl)]
  rw [Lib.run_noEscape]
  simp only [Result.andThen]
  rw [Oper.upon_value]
  go_wp2
  rw [Lib.run_from_unsafe w ⟨b, 0, none⟩ Tryd.underlying91 Tryd.underlying44 hj hsh (by kernel_rfl)]
  simp only [Result.andThen]
  rw [Oper.upon_value]
  go_wp2
  go_end0
  exact ⟨rfl, rfl⟩

abbrev BldAt (B b : Nat) (p : Value) (bs : List Value) (w : World) : Prop := Lib.BuilderAt 47 5 B b p bs w
abbrev Bld (B b : Nat) (bs : List Value) (w : World) : Prop := Lib.IsBuilder 47 5 B b bs w
abbrev Others (b : Nat) (w w' : World) : Prop := Lib.OthersKept 5 (some b) w w'

theorem copyCheck_any (B b : Nat) (bs : List Value) (w : World) (h : Bld B b bs w) :
    Calls Tryd.prog 36 #[.pointer (some ⟨b, 0, none⟩)] w fun e w' => e = .returned (.tuple #[]) ∧ BldAt B b (.pointer (some ⟨b, 0, none⟩)) bs w' ∧ Below B w w' ∧ Others b w w' := by
  rcases h with h | h
  · refine (bld_fresh b w h.cell0 h.shape h.frozen0).mono ?_
    rintro e w' ⟨rfl, rfl⟩
    exact ⟨rfl, h.used _, (Below.refl B w).setCell (p := ⟨b, 0, none⟩) h.1 _, (Lib.OthersKept.refl _ _ w).setCell ⟨b, 0, none⟩ rfl _⟩
  · refine (bld_used b w h.cell0).mono ?_
    rintro e w' ⟨rfl, rfl⟩
    exact ⟨rfl, h, Below.refl B _, Lib.OthersKept.refl _ _ _⟩

theorem info_u8 : (Tryd.prog.info? 5).map (fun i => (i.zero, i.size, i.bytes)) = some (some (.int .u8 0), 1, 1) := by kernel_rfl
theorem row_is {w : World} {B : Nat} {e : TypeId} {v : Value} {n : Nat} {xs : List Value} (h : w.ownsRow B e 1 v n xs) : ∀ g, v.ownBlock = some g → ∃ c fz, w.heap[g]? = some (.cells c e fz) := by
  intro g hg
  rcases h.2 with ⟨rfl, _⟩ | ⟨g', cap, cur, rfl, _, hh, _⟩
  · cases hg
  · cases hg; exact ⟨_, _, hh⟩

set_option maxHeartbeats 1000000 in
set_option maxRecDepth 100000 in
theorem writeByte_any (B b : Nat) (bs : List Value) (c : Int) (w : World) (h : Bld B b bs w) (hlen : bs.length + 1 ≤ 140737488355328) (hBw : B ≤ w.heap.size) :
    Calls Tryd.prog 49 #[.pointer (some ⟨b, 0, none⟩), .int .u8 c] w fun e w' => e = .returned .nilIface ∧ BldAt B b (.pointer (some ⟨b, 0, none⟩)) (bs ++ [.int .u8 c]) w' ∧ Below B w w' ∧ Others b w w' := by
  obtain ⟨i0, hi, hz0, hz1, hz2⟩ := info_parts info_u8
  go_enter Tryd.func49, Tryd.ntmps49
  go_wp2_with (go_at_call 36; refine (copyCheck_any B b bs _ h).mono ?_)
  rintro e w1 ⟨rfl, h1, hb1, hk1⟩
  obtain ⟨hB, v, hbk, hown, hne⟩ := h1
  have c0 : w1.cell? ⟨b, 0, none⟩ = some (.pointer (some ⟨b, 0, none⟩)) := by rw [Lib.cell_of_heap hbk]; rfl
  have c1 : w1.cell? ⟨b, 1, none⟩ = some v := by rw [Lib.cell_of_heap hbk]; rfl
  have hz := hb1.size
  have hlt : b < w1.heap.size := lt_of_block hbk
  go_wp2_with (at_builtin; refine wpList_append_own _ rfl _ _ 45 rfl B 5 i0 (.int .u8 0) 1 1 Tryd.underlying45 hi hz0 hz1 hz2 rfl (by decide) _ _ _ rfl (hown.alloc _) ⟨w1.heap.size, 0, none⟩ 1 1 [.int .u8 c] rfl rfl ?c1 ?c2 ?c3 ?c4 ?c5 ?_)
  case c1 =>
    intro j u hj
    match j, hj with
    | 0, hj => simp at hj; subst hj; simp [Addr.add]
  case c2 => intro u hu; simp at hu; subst hu; rfl
  case c3 => unfold maxLen; omega
  case c4 => omega
  case c5 => simp; omega
  intro v' w2 hown' hgrow hnil
  have hb2 : w2.heap[b]? = some (.cells #[.pointer (some ⟨b, 0, none⟩), v] 47 (0, 0)) := by
    rw [hgrow.block b (by simp; omega) (fun e => hne e.symm), Lib.alloc_old w1 _ b hlt]
    exact hbk
  have d0 : w2.cell? ⟨b, 0, none⟩ = some (.pointer (some ⟨b, 0, none⟩)) := by rw [Lib.cell_of_heap hb2]; rfl
  have d1 : w2.cell? ⟨b, 1, none⟩ = some v := by rw [Lib.cell_of_heap hb2]; rfl
  have f1 : w2.frozen? ⟨b, 1, none⟩ = false := Lib.frozen_of_heap hb2 1
  have hk2 : Others b w w2 := (hk1.alloc _).grown hgrow (row_is (hown.alloc _))
  have hbB : Below B w w2 := (hb1.alloc (by omega) _).grown hgrow (by simp; omega) (fun r e => (hown.lt r e).1)
  have hbl : (bs ++ [Value.int .u8 c]).length = bs.length + 1 := by simp
  have hown2 : w2.ownsRow B 5 1 v' (bs ++ [Value.int .u8 c]).length (bs ++ [Value.int .u8 c]) := by rw [hbl]; exact hown'
  obtain ⟨g, cap, rfl⟩ : ∃ g cap, v' = .slice (some ⟨g, 0, none⟩) (bs.length + 1) cap := by
    rcases hown'.2 with ⟨_, h0⟩ | ⟨g, cap, cur, hv, _⟩
    · omega
    · exact ⟨g, cap, hv⟩
  clear hown hown' hbk hbl h hgrow hnil
  go_wp2
  go_ret
  exact ⟨rfl, Lib.BuilderAt.put hB hb2 hown2 (by decide), hbB.setCell hB _, hk2.setCell _ rfl _⟩
end Go.Proofs.YtdgeinipdphoeaaDoor
/- A function that holds a range over a function within a loop: it leaves with one mark for each round. And what a round that writes into a strings.Builder keeps. -/
namespace Go.Proofs.YtdgeinipdphoeaaDoor
set_option linter.unusedVariables false
set_option linter.unusedSimpArgs false
open Go.RowKit

/-- Blocks of collected calls, none of them taken. -/
structure Marked (lo : Nat) (Ds : List Nat) (w : World) : Prop where
  nodup : Ds.Nodup
  low : ∀ D ∈ Ds, lo ≤ D
  at_ : ∀ D ∈ Ds, w.heap[D]? = some (.deferred (some []))
theorem Marked.nil (lo : Nat) (w : World) : Marked lo [] w := ⟨List.nodup_nil, fun _ h => (by cases h), fun _ h => (by cases h)⟩
theorem Marked.lt {lo : Nat} {Ds : List Nat} {w : World} (h : Marked lo Ds w) : ∀ D ∈ Ds, D < w.heap.size := fun D hD => (Array.getElem?_eq_some_iff.1 (h.at_ D hD)).1
theorem Marked.cons {lo D : Nat} {Ds : List Nat} {w : World} (h : Marked lo Ds w) (hl : lo ≤ D) (hn : D ∉ Ds) (hD : w.heap[D]? = some (.deferred (some []))) : Marked lo (D :: Ds) w :=
  ⟨List.nodup_cons.2 ⟨hn, h.nodup⟩, fun x hx => by rcases List.mem_cons.1 hx with rfl | hx; exact hl; exact h.low x hx, fun x hx => by rcases List.mem_cons.1 hx with rfl | hx; exact hD; exact h.at_ x hx⟩

/-- The world behind the taking of all marks. -/
structure Turns (lo : Nat) (w w' : World) : Prop where
  os : w'.os = w.os
  tape : w'.tape = w.tape
  output : w'.output = w.output
  size : w'.heap.size = w.heap.size
  low : ∀ k, k < lo → w'.heap[k]? = w.heap[k]?
theorem Turns.refl (lo : Nat) (w : World) : Turns lo w w := ⟨rfl, rfl, rfl, rfl, fun _ _ => rfl⟩
theorem Turns.below {n₀ lo : Nat} {w₀ w w' : World} (h : Turns lo w w') (hb : Below n₀ w₀ w) (hl : n₀ ≤ lo) : Below n₀ w₀ w' :=
  ⟨h.os.trans hb.os, h.tape.trans hb.tape, h.output.trans hb.output, by rw [h.size]; exact hb.size, fun k hk => (h.low k (by omega)).trans (hb.block k hk)⟩

theorem leaves_marks {P : Program} {fn : Func} {tmps : Array Value} {R : Ending → World → Prop} {lo : Nat} {v : Value} : ∀ (Ds : List Nat) (w : World), Marked lo Ds w →
    (∀ w', Turns lo w w' → (results fn tmps).run P w' = .ok v w' ∧ R (.returned v) w') → LeavesInM Fence.wide 10 P fn tmps R (Ds.map mark) .returning w
  | [], w, _, h => by
    obtain ⟨hr, hR⟩ := h w (Turns.refl _ _)
    exact ⟨v, hr, hR⟩
  | D :: Ds, w, hm, h => by
    have hD := hm.at_ D (by simp)
    have hlo := hm.low D (by simp)
    obtain ⟨hn, hnd⟩ := List.nodup_cons.1 hm.nodup
    refine ⟨by simp, .inl ⟨_, _, rfl, run_takeDeferred hD, leaves_marks Ds _ ⟨hnd, fun x hx => hm.low x (by simp [hx]), fun x hx => (World.putObj_heap_other (fun e => hn (by subst e; exact hx))).trans (hm.at_ x (by simp [hx]))⟩ fun w' hT => h w' ?_⟩⟩
    exact ⟨hT.os, hT.tape, hT.output, by rw [hT.size]; simp, fun k hk => (hT.low k hk).trans (World.putObj_heap_other (by omega))⟩
/-- Its return behind many such loops. -/
theorem ret_marks {P : Program} {fn : Func} {R : Ending → World → Prop} {tmps : Array Value} {w : World} {lo : Nat} {Ds : List Nat} {v : Value} {e : Exit} (he : e = .ret ∨ e = .normal) (hm : Marked lo Ds w)
    (h : ∀ w', Turns lo w w' → (results fn tmps).run P w' = .ok v w' ∧ R (.returned v) w') : bodyPostM Fence.wide 10 P fn R e { tmps, defers := Ds.map mark } w := by
  rcases he with rfl | rfl
  · exact leaves_marks Ds w hm h
  · exact leaves_marks Ds w hm h

theorem Stab.marked {B lo : Nat} {Ds : List Nat} (h : ∀ D ∈ Ds, D < B) : Stab B (Marked lo Ds) := fun W W' row hs hg hr =>
  ⟨hs.nodup, hs.low, fun D hD => (hg.block D (hs.lt D hD) (fun e => by have := (hr D e.symm).1; have := h D hD; omega)).trans (hs.at_ D hD)⟩
theorem Stab.or {B : Nat} {p q : World → Prop} (hp : Stab B p) (hq : Stab B q) : Stab B (fun W => p W ∨ q W) := fun W W' row hs hg hr => hs.imp (fun h => hp W W' row h hg hr) (fun h => hq W W' row h hg hr)
theorem Stab.bld {B base b : Nat} {bs : List Value} : Stab B (Bld base b bs) :=
  Stab.or (Stab.and (Stab.pure _) (Stab.ex fun v => Stab.and Stab.block (Stab.and Stab.row (Stab.pure _)))) (Stab.and (Stab.pure _) (Stab.ex fun v => Stab.and Stab.block (Stab.and Stab.row (Stab.pure _))))
/-- A store into a box of another type leaves a builder as it was. -/
theorem Bld.box {base b d : Nat} {bs : List Value} {w : World} {z u : Value} {t : TypeId} (h : Bld base b bs w) (hd : w.heap[d]? = some (.cells #[z] t (0, 0))) (ht : t ≠ 5) (hbd : d ≠ b) : Bld base b bs (w.setCell ⟨d, 0, none⟩ u) := by
  have key : ∀ p, BldAt base b p bs w → BldAt base b p bs (w.setCell ⟨d, 0, none⟩ u) := fun p ⟨h1, v, h2, h3, h4⟩ =>
    ⟨h1, v, (heap_set_other (fun e => hbd e.symm)).trans h2, ownsRow_setCell_other h3 (Lib.ownBlock_ne h3 hd ht) _, h4⟩
  exact h.imp (key _) (key _)
end Go.Proofs.YtdgeinipdphoeaaDoor
/- Varints: the program's 'put' and 'Put'. -/
namespace Go.Proofs.YtdgeinipdphoeaaDoor
set_option linter.unusedVariables false
set_option linter.unusedSimpArgs false
open Go.ChangeShapes Go.WideShapes Go.ChangeAt Go.RowKit Go.Shelf
attribute [local go_sem] Oper.semAt_some

theorem callsIn_any {n : Nat} {P : Program} {l' : Nat} {f : FuncId} {args : Array Value} {w : World} {R : Ending → World → Prop} (h : Calls P f args w R) : CallsIn (Fence.wide.inRound l') n P f args w R :=
  ⟨trivial, (callsIn_wide (n := n)).2 h |>.2⟩

/-- Numbers' bytes, one behind the other. -/
def putsB : List Nat → List UInt8
  | [] => []
  | n :: l => putB n ++ putsB l
theorem putsB_append (l m : List Nat) : putsB (l ++ m) = putsB l ++ putsB m := by
  induction l with
  | nil => rfl
  | cons a l ih => rw [List.cons_append, putsB, putsB, ih, List.append_assoc]
theorem putsB_take {l : List Nat} {k : Nat} (h : k < l.length) : putsB (l.take (k + 1)) = putsB (l.take k) ++ putB (l[k]?.getD 0) := by
  rw [List.take_succ_eq_append_getElem h, putsB_append, List.getElem?_eq_getElem h]
  simp [putsB]
theorem putsB_length {l : List Nat} (h : ∀ n ∈ l, n ≤ 18446744073709551615) : (putsB l).length ≤ 10 * l.length := by
  induction l with
  | nil => simp [putsB]
  | cons a l ih =>
    have h1 := putB_ten (h a (by simp))
    have h2 := ih fun n hn => h n (by simp [hn])
    simp only [putsB, List.length_append, List.length_cons]
    omega
/-- A row of numbers lies at an address. -/
def NumsAt (w : World) (ao : Option Addr) (l : List Nat) : Prop :=
  0 < l.length → ∃ b off, ao = some ⟨b, off, none⟩ ∧ ∀ j, j < l.length → w.cell? ⟨b, off + j, none⟩ = some (.int .u64 ((l[j]?.getD 0 : Nat) : Int))

/-- What a round over the bytes of n keeps: the builder, with j of them behind the others; the box of n; the marks. -/
def putI (w : World) (Ds : List Nat) (P : List UInt8) (n : Nat) (d : Nat) (j : Nat) (X : World) : Prop :=
  Bld w.heap.size w.heap.size (Lib.byteCells (P ++ (putB n).take j)) X ∧ Below w.heap.size w X ∧ Marked (w.heap.size + 1) Ds X ∧ ∃ z, X.heap[d]? = some (.cells #[z] 53 (0, 0))
theorem putI_stab {w : World} {Ds : List Nat} {P : List UInt8} {n d B : Nat} (hB : w.heap.size ≤ B) (h : ∀ D ∈ Ds, D < B) (j : Nat) : Stab B (putI w Ds P n d j) :=
  Stab.and Stab.bld (Stab.and (Stab.below (Nat.le_refl _) hB) (Stab.and (Stab.marked h) (Stab.ex fun z => Stab.block)))
theorem putI_own {w : World} {Ds : List Nat} {P : List UInt8} {n d : Nat} (hd : w.heap.size < d) (hD : ∀ D ∈ Ds, D ≠ d) (j : Nat) : Own d (d + 1) (putI w Ds P n d j) := fun W b v h1 h2 ⟨h3, h4, h5, z, h6⟩ => by
  obtain rfl : b = d := by omega
  exact ⟨Bld.box h3 h6 (by decide) (by omega), h4.setCell (by simp; omega) _, ⟨h5.nodup, h5.low, fun D hm => (heap_set_other (hD D hm)).trans (h5.at_ D hm)⟩, v, heap_set_same h6⟩

theorem byteCells_step (P l : List UInt8) (j : Nat) (hj : j < l.length) : Lib.byteCells (P ++ l.take (j + 1)) = Lib.byteCells (P ++ l.take j) ++ [.int .u8 ((l[j]?.getD 0).toNat : Int)] := by
  rw [List.take_succ_eq_append_getElem hj, List.getElem?_eq_getElem hj]
  simp only [Lib.byteCells, List.map_append, List.map_cons, List.map_nil, List.append_assoc, Option.getD_some]

set_option maxRecDepth 100000 in
set_option maxHeartbeats 4000000 in
theorem put_any (l : List Nat) (hl : ∀ n ∈ l, n ≤ 18446744073709551615) (hlen : l.length ≤ 2000) (ao : Option Addr) (N cap : Nat) (hN : l.length = N) (w : World) (hr : NumsAt w ao l) :
    Calls Tryd.prog 37 #[.slice ao N cap] w fun e w' => e = .returned (strV (putsB l)) ∧ Below w.heap.size w w' := by
  have HR := hid hr; have HL := hid hl; have HN := hid hN
  rw [hN] at hlen
  clear hr hl hN
  refine calls_marks Tryd.func37 rfl ?_
  simp only [Tryd.ntmps37, List.size_toArray, List.length_cons, List.length_nil, Nat.reduceAdd, Nat.reduceSub, Array.replicate_succ, Array.replicate_zero, List.push_toArray, List.append_toArray, List.nil_append, List.cons_append]
  go_wp2
  refine wp_loop_ghost_k (fun n a W => ∃ k, k ≤ N ∧ n = N - k ∧ ∃ (Ds : List Nat) (u5 u6 u10 u11 u12 u13 u14 u15 u16 u17 u18 : Value), a = { tmps := #[.slice ao N cap, undef, .string { data := #[] }, .pointer (some ⟨w.heap.size, 0, none⟩), undef, u5, u6, .slice ao N cap, .int .i64 (N : Int), .int .i64 (k : Int), u10, u11, u12, u13, u14, u15, u16, u17, u18, undef], defers := Ds.map mark } ∧
    Bld w.heap.size w.heap.size (Lib.byteCells (putsB (l.take k))) W ∧ Below w.heap.size w W ∧ Marked (w.heap.size + 1) Ds W) N ?start ?round
  case start =>
    refine ⟨0, Nat.zero_le _, by omega, [], _, _, _, _, _, _, _, _, _, _, _, rfl, Lib.fresh_isBuilder _ _ w, by (repeat' (first | (with_reducible exact Below.refl _ _) | (with_reducible assumption) | (with_reducible refine Below.new ?_ _) | (with_reducible refine Below.alloc ?_ ?_ _) | (with_reducible refine Below.drew ?_) | (with_reducible refine Below.drewN ?_ _) | (with_reducible refine Below.setCell ?_ ?_ _) | (refine Below.step ?_ (by assumption)) | go_size)), Marked.nil _ _⟩
  case round =>
    rintro n a W ⟨k, hk, rfl, Ds, u5, u6, u10, u11, u12, u13, u14, u15, u16, u17, u18, rfl, hbld, hB, hM⟩ J K hJ hK
    by_cases hlt : k < N
    · obtain ⟨b, o, rfl, hc⟩ := HR.out (by rw [HN.out]; omega)
      have e0 := cell_step (hc k (by rw [HN.out]; exact hlt)) hB
      have hpt := hid (putsB_take (l := l) (k := k) (by rw [HN.out]; exact hlt))
      have hy64 : l[k]?.getD 0 ≤ 18446744073709551615 := by
        rw [List.getElem?_eq_getElem (by rw [HN.out]; exact hlt)]
        exact HL.out _ (by simp)
      obtain ⟨y, hy⟩ : ∃ y, l[k]?.getD 0 = y := ⟨_, rfl⟩
      rw [hy] at e0 hpt hy64
      clear hc hy
      have hHJ := hid hJ; have hHK := hid hK; clear hJ hK
      go_wp2_with (go_at_call 48; (with_reducible refine (bytes_any _ _).mono ?_); rintro e w1 ⟨rfl, rfl⟩)
      have hwz := hB.size
      have hbl : w.heap.size < W.heap.size := hbld.elim (fun h => h.lt) (fun h => h.lt)
      refine wp_rangeW (gf := 57) (lb := #[.pointer (some ⟨W.heap.size, 0, none⟩)]) rfl (enters_of Tryd.func57 (by kernel_rfl) rfl)
        (bytes_seq y hy64 W.heap.size 0 W.heap.size (W.heap.size + 1) _ ⟨Nat.le_refl _, by omega⟩ (by simp) (heap_at rfl))
        ⟨Nat.zero_le _, by simp⟩ (fun _ => rfl) (putI w Ds (putsB (l.take k)) y W.heap.size) (fun _ _ _ => False) (putI_stab (by simp; omega) (fun D hD => by have := hM.lt D hD; simp; omega)) (fun _ _ => Stab.pure _)
        (putI_own hbl (fun D hD => by have := hM.lt D hD; omega)) ?pstart ?pround ?pdone ?pstop
      case pstart =>
        refine ⟨?_, hB.alloc hwz _, (Stab.marked (B := W.heap.size) hM.lt).alloc _ hM, _, heap_at rfl⟩
        rw [List.take_zero, List.append_nil]
        exact (Stab.bld (B := 0)).alloc _ hbld
      case pstop => intro D c j X _ _ h; exact h.elim
      case pround =>
        intro ln j X hj hI hl hlt2 hX
        gi_wp2
        refine ⟨Kept.refl _ _ _ _ _, fun X2 hT => ?_⟩
        have hI2 := (putI_stab (w := w) (Ds := Ds) (P := putsB (l.take k)) (n := y) (d := W.heap.size) (B := (W.alloc (.cells #[.int .u64 (y : Int)] 53)).heap.size) (by simp; omega) (fun D hD => by have := hM.lt D hD; simp; omega) j).turn hI hT hl
        obtain ⟨g1, g2, g3, z, g4⟩ := hI2
        have hz2 := g2.size
        have hlen1 : (Lib.byteCells (putsB (l.take k) ++ (putB y).take j)).length + 1 ≤ 140737488355328 := by
          have q1 := putsB_length (l := l.take k) (fun n hn => HL.out n (List.mem_of_mem_take hn))
          have q2 : (l.take k).length ≤ k := by rw [List.length_take]; exact Nat.min_le_left _ _
          have q3 := putB_ten hy64
          simp only [Lib.byteCells_length, List.length_append, List.length_take]
          omega
        have hst := hid (byteCells_step (putsB (l.take k)) (putB y) j hj)
        have WB := hid (fun W' (h : Bld w.heap.size w.heap.size (Lib.byteCells (putsB (l.take k) ++ (putB y).take j)) W') (hs : w.heap.size ≤ W'.heap.size) => writeByte_any w.heap.size w.heap.size _ (((putB y)[j]?.getD 0).toNat : Int) W' h hlen1 hs)
        clear hlen1 hI hHJ hHK e0
        gi_wp2
        refine ⟨trivial, (callsIn_any (WB.out _ g1 hz2)).mono ?_⟩
        rintro e X3 ⟨rfl, f1, f2, f3⟩
        gi_wp2
        have hold : ∀ q o', X2.heap[q]? = some o' → q ≠ w.heap.size → (∀ c fz, o' ≠ .cells c 5 fz) → X3.heap[q]? = some o' := fun q o' h1 h2 h3 => f3 q o' h1 (by simpa using h2) h3
        refine ⟨⟨⟨f2.size, fun q o' _ h1 h2 => ?_⟩, f2.size, fun q hq => absurd hq (by omega), fun q h1 h2 => ?_⟩, ?_⟩
        · refine hold q o' h1 (fun e => ?_) (fun c fz e => by subst e; cases h2)
          subst e
          rcases g1 with ⟨_, v, hbk, _⟩ | ⟨_, v, hbk, _⟩ <;> (rw [hbk] at h1; cases h1; cases h2)
        · obtain rfl : q = W.heap.size := by omega
          rw [g4]
          exact hold _ _ g4 (by omega) (fun c fz e => by cases e)
        · refine ⟨.inr ?_, g2.trans f2, ⟨g3.nodup, g3.low, fun D hD => hold _ _ (g3.at_ D hD) (by have := g3.low D hD; omega) (fun c fz e => by cases e)⟩, z, hold _ _ g4 (by omega) (fun c fz e => by cases e)⟩
          rw [hst.out]
          exact f1
      case pdone =>
        intro D X hD hI hKD
        obtain ⟨g1, g2, g3, z, g4⟩ := hI
        rw [List.take_length, ← hpt.out] at g1
        have hDs : D ∉ Ds := fun h => by have := hM.lt D h; simp at hD; omega
        go_wp2
        refine hHK.out _ _ ⟨N - (k + 1), by omega, hHJ.out _ _ _ ⟨k + 1, hlt, rfl, D :: Ds, _, _, _, _, _, _, _, _, _, _, _, rfl, g1, g2, g3.cons (by simp at hD; omega) hDs hKD⟩⟩
    · obtain rfl : k = N := by omega
      clear hJ hK
      have ht : l.take k = l := by rw [← HN.out, List.take_length]
      rw [ht] at hbld
      have hS := hid (fun W' (h : Lib.IsBuilder 47 5 w.heap.size w.heap.size (Lib.byteCells (putsB l)) W') (hs : w.heap.size ≤ W'.heap.size) => Tryd.Builder_String_any_k w.heap.size w.heap.size (putsB l) W' (Lib.IsBuilderF.of h) hs)
      go_wp2_with (go_at_call 19; (refine (hS.out _ hbld hB.size).mono ?_); rintro e X3 ⟨rfl, f1, f2, f3⟩)
      have hM3 : Marked (w.heap.size + 1) Ds X3 := ⟨hM.nodup, hM.low, fun D hD => f3 D _ (hM.at_ D hD) (by have := hM.low D hD; simp; omega) (fun c fz e => by cases e)⟩
      refine ret_marks (.inl rfl) hM3 fun w' hT => ⟨by simp only [results, Tryd.results37]; go_simp; try rfl, rfl, hT.below (hB.trans f2) (by omega)⟩
end Go.Proofs.YtdgeinipdphoeaaDoor
/- Varints, plain: lists' bytes, and lists of bytes; how many bytes numbers have. -/
namespace Go.Proofs.YtdgeinipdphoeaaDoor
set_option linter.unusedVariables false
open Go.RowKit (wrap64)

/-- The numbers of a list, each less the one ahead of it, turned. -/
def diffs : Int → List Int → List Nat
  | _, [] => []
  | last, n :: l => (turnV (wrap64 (n - last))).toNat :: diffs n l
/-- Numbers back: the code, the numbers, how many bytes these have. -/
def unF : Nat → Int → List UInt8 → Nat × List Int × Nat
  | 0, _, _ => (0, [], 0)
  | k + 1, last, s =>
    if (nextV s).1 ≠ 0 then ((nextV s).1, [], 0)
    else if (unF k (wrap64 (last + backV (nextV s).2.1)) (s.drop (nextV s).2.2)).1 ≠ 0 then ((unF k (wrap64 (last + backV (nextV s).2.1)) (s.drop (nextV s).2.2)).1, [], 0)
    else (0, wrap64 (last + backV (nextV s).2.1) :: (unF k (wrap64 (last + backV (nextV s).2.1)) (s.drop (nextV s).2.2)).2.1,
      (nextV s).2.2 + (unF k (wrap64 (last + backV (nextV s).2.1)) (s.drop (nextV s).2.2)).2.2)
/-- A list of bytes. -/
def packB (l : List Int) : List UInt8 := putsB (l.length :: diffs 0 l)
def packV (l : List Int) : Nat × List UInt8 := if 1000 < l.length then (20, []) else (0, packB l)
def unV (s : List UInt8) : Nat × List Int × Nat :=
  if (nextV s).1 ≠ 0 then ((nextV s).1, [], 0)
  else if 1000 < (nextV s).2.1 then (20, [], 0)
  else if (unF (nextV s).2.1 0 (s.drop (nextV s).2.2)).1 ≠ 0 then ((unF (nextV s).2.1 0 (s.drop (nextV s).2.2)).1, [], 0)
  else (0, (unF (nextV s).2.1 0 (s.drop (nextV s).2.2)).2.1, (nextV s).2.2 + (unF (nextV s).2.1 0 (s.drop (nextV s).2.2)).2.2)

abbrev inI (n : Int) : Prop := -9223372036854775808 ≤ n ∧ n ≤ 9223372036854775807
theorem wrap64_is (n : Int) : inI (wrap64 n) := by unfold wrap64 inI; omega
theorem wrap64_add_sub {n last : Int} (h : inI n) : wrap64 (last + wrap64 (n - last)) = n := by unfold wrap64 inI at *; omega
theorem wrap64_sub_add {k last : Int} (h : inI k) : wrap64 (wrap64 (last + k) - last) = k := by unfold wrap64 inI at *; omega
theorem turnV_w (n : Int) : 0 ≤ turnV (wrap64 n) ∧ turnV (wrap64 n) ≤ 18446744073709551615 := turnV_is (wrap64_is n)

theorem diffs_length (l : List Int) : ∀ last, (diffs last l).length = l.length := by
  induction l with
  | nil => intro _; rfl
  | cons a l ih => intro _; simp [diffs, ih]
theorem diffs_is (l : List Int) : ∀ last, ∀ n ∈ diffs last l, n ≤ 18446744073709551615 := by
  induction l with
  | nil => intro _ n h; cases h
  | cons a l ih =>
    intro last n h
    rcases List.mem_cons.1 h with rfl | h
    · have := turnV_w (a - last); omega
    · exact ih _ _ h

/-- Numbers packed come back, whatever stands behind. -/
theorem unF_diffs (l : List Int) : ∀ last r, (∀ n ∈ l, inI n) → unF l.length last (putsB (diffs last l) ++ r) = (0, l, (putsB (diffs last l)).length) := by
  induction l with
  | nil => intro _ _ _; rfl
  | cons a l ih =>
    intro last r h
    have h1 := turnV_w (a - last)
    have h2 := nextV_putB (n := (turnV (wrap64 (a - last))).toNat) (by omega) (putsB (diffs a l) ++ r)
    have h3 : wrap64 (last + backV ((turnV (wrap64 (a - last))).toNat : Int)) = a := by
      rw [Int.toNat_of_nonneg h1.1, backV_turnV, wrap64_add_sub (h a (by simp))]
    have h4 := ih a r fun n hn => h n (by simp [hn])
    simp only [List.length_cons, diffs, putsB, unF, List.append_assoc, h2]
    rw [h3, List.drop_left, h4]
    simp
/-- What comes back of bytes has these bytes. -/
theorem unF_ok : ∀ (k : Nat) (last : Int) (s : List UInt8) (xs : List Int) (t : Nat), unF k last s = (0, xs, t) → s = putsB (diffs last xs) ++ s.drop t ∧ xs.length = k ∧ (∀ n ∈ xs, inI n) ∧ t = (putsB (diffs last xs)).length
  | 0, last, s, xs, t, h => by
    simp only [unF, Prod.mk.injEq] at h
    obtain ⟨_, rfl, rfl⟩ := h
    simp [diffs, putsB]
  | k + 1, last, s, xs, t, h => by
    rw [unF] at h
    split at h
    · rename_i hc; simp only [Prod.mk.injEq] at h; exact absurd h.1 hc
    split at h
    · rename_i hc; simp only [Prod.mk.injEq] at h; exact absurd h.1 hc
    rename_i hc1 hc2
    simp only [Prod.mk.injEq, true_and] at h
    obtain ⟨rfl, rfl⟩ := h
    have hc1 : (nextV s).1 = 0 := by omega
    obtain ⟨e1, e2, e3⟩ := nextV_ok (l := s) (n := (nextV s).2.1) (s := (nextV s).2.2) (by rw [← hc1])
    obtain ⟨M, hM⟩ : ∃ M, (nextV s).2.1 = M := ⟨_, rfl⟩
    obtain ⟨J, hJ⟩ : ∃ J, (nextV s).2.2 = J := ⟨_, rfl⟩
    rw [hM] at e1 e2 e3
    rw [hJ] at e1 e3
    rw [hM, hJ] at hc2 ⊢
    have hb : inI (backV (M : Int)) := backV_is (by omega)
    obtain ⟨X, hX⟩ : ∃ X, wrap64 (last + backV (M : Int)) = X := ⟨_, rfl⟩
    have hturn : (turnV (wrap64 (X - last))).toNat = M := by
      rw [← hX, wrap64_sub_add hb, turnV_backV (by omega)]; omega
    have hXi : inI X := hX ▸ wrap64_is _
    rw [hX] at hc2 ⊢
    obtain ⟨i1, i2, i3, i4⟩ := unF_ok k X (s.drop J) (unF k X (s.drop J)).2.1 (unF k X (s.drop J)).2.2 (by
      have : (unF k X (s.drop J)).1 = 0 := by omega
      rw [← this])
    refine ⟨?_, by simp [i2], fun n hn => ?_, ?_⟩
    · simp only [diffs, putsB, hturn, List.append_assoc]
      rw [← List.drop_drop, ← i1, ← e1]
    · rcases List.mem_cons.1 hn with rfl | hn
      · exact hXi
      · exact i3 n hn
    · simp only [diffs, putsB, hturn, List.length_append, ← e3, ← i4]
theorem unF_code : ∀ (k : Nat) (last : Int) (s : List UInt8), (unF k last s).1 = 0 ∨ (unF k last s).1 = 20 ∨ (unF k last s).1 = 21
  | 0, _, _ => by simp [unF]
  | k + 1, last, s => by
    rw [unF]
    split
    · exact nextV_code s
    · split
      · exact unF_code _ _ _
      · simp
theorem unF_bad : ∀ {k : Nat} {last : Int} {s : List UInt8}, (unF k last s).1 ≠ 0 → unF k last s = ((unF k last s).1, [], 0)
  | 0, _, _, h => by simp [unF] at h
  | k + 1, last, s, h => by
    rw [unF] at h ⊢
    split
    · rfl
    · split
      · rfl
      · simp_all
theorem take_short {α : Type} {a b : List α} {t : Nat} (h : t < (a ++ b).length) : (t < a.length ∧ (a ++ b).take t = a.take t) ∨ (a.length ≤ t ∧ t - a.length < b.length ∧ (a ++ b).take t = a ++ b.take (t - a.length)) := by
  rcases Nat.lt_or_ge t a.length with h1 | h1
  · exact .inl ⟨h1, by rw [List.take_append_of_le_length (by omega)]⟩
  · exact .inr ⟨h1, by simp at h; omega, by rw [List.take_append, List.take_of_length_le h1]⟩
/-- Fewer bytes ask for more. -/
theorem unF_short (l : List Int) : ∀ last t, (∀ n ∈ l, inI n) → t < (putsB (diffs last l)).length → unF l.length last ((putsB (diffs last l)).take t) = (21, [], 0) := by
  induction l with
  | nil => intro _ t _ h; simp [diffs, putsB] at h
  | cons a l ih =>
    intro last t h ht
    have h1 := turnV_w (a - last)
    simp only [diffs, putsB] at ht ⊢
    rcases take_short ht with ⟨k1, k2⟩ | ⟨k1, k2, k3⟩
    · rw [k2, List.length_cons, unF, nextV_short (by omega) k1]
      simp
    · have h2 := nextV_putB (n := (turnV (wrap64 (a - last))).toNat) (by omega) ((putsB (diffs a l)).take (t - (putB (turnV (wrap64 (a - last))).toNat).length))
      have h3 : wrap64 (last + backV ((turnV (wrap64 (a - last))).toNat : Int)) = a := by
        rw [Int.toNat_of_nonneg h1.1, backV_turnV, wrap64_add_sub (h a (by simp))]
      rw [k3, List.length_cons, unF, h2]
      simp only [List.drop_left, h3]
      rw [ih a _ (fun n hn => h n (by simp [hn])) k2]
      simp

theorem unV_pack {l : List Int} (hl : l.length ≤ 1000) (h : ∀ n ∈ l, inI n) (r : List UInt8) : unV (packB l ++ r) = (0, l, (packB l).length) := by
  have h2 := nextV_putB (n := l.length) (by omega) (putsB (diffs 0 l) ++ r)
  simp only [packB, putsB, List.append_assoc, unV, h2]
  rw [List.drop_left, unF_diffs l 0 r h]
  simp
  omega
theorem unV_ok {s : List UInt8} {xs : List Int} {t : Nat} (h : unV s = (0, xs, t)) : s = packB xs ++ s.drop t ∧ xs.length ≤ 1000 ∧ (∀ n ∈ xs, inI n) ∧ t = (packB xs).length := by
  rw [unV] at h
  split at h
  · rename_i hc; simp only [Prod.mk.injEq] at h; exact absurd h.1 hc
  split at h
  · simp at h
  split at h
  · rename_i hc; simp only [Prod.mk.injEq] at h; exact absurd h.1 hc
  rename_i hc1 hc2 hc3
  simp only [Prod.mk.injEq, true_and] at h
  obtain ⟨rfl, rfl⟩ := h
  have hc1 : (nextV s).1 = 0 := by omega
  obtain ⟨e1, e2, e3⟩ := nextV_ok (l := s) (n := (nextV s).2.1) (s := (nextV s).2.2) (by rw [← hc1])
  obtain ⟨M, hM⟩ : ∃ M, (nextV s).2.1 = M := ⟨_, rfl⟩
  obtain ⟨J, hJ⟩ : ∃ J, (nextV s).2.2 = J := ⟨_, rfl⟩
  rw [hM] at e1 e2 e3 hc2 hc3 ⊢
  rw [hJ] at e1 e3 hc3 ⊢
  obtain ⟨i1, i2, i3, i4⟩ := unF_ok M 0 (s.drop J) (unF M 0 (s.drop J)).2.1 (unF M 0 (s.drop J)).2.2 (by
    have : (unF M 0 (s.drop J)).1 = 0 := by omega
    rw [← this])
  refine ⟨?_, by omega, i3, ?_⟩
  · simp only [packB, putsB, i2, List.append_assoc]
    rw [← List.drop_drop, ← i1, ← e1]
  · simp only [packB, putsB, i2, List.length_append, ← e3, ← i4]
theorem unV_code (s : List UInt8) : (unV s).1 = 0 ∨ (unV s).1 = 20 ∨ (unV s).1 = 21 := by
  unfold unV
  split
  · exact nextV_code s
  · split
    · simp
    · split
      · exact unF_code _ _ _
      · simp
theorem unV_bad {s : List UInt8} (h : (unV s).1 ≠ 0) : unV s = ((unV s).1, [], 0) := by
  unfold unV at h ⊢
  split
  · rfl
  · split
    · rfl
    · split
      · rfl
      · simp_all
theorem unV_short {l : List Int} (hl : l.length ≤ 1000) (h : ∀ n ∈ l, inI n) {t : Nat} (ht : t < (packB l).length) : unV ((packB l).take t) = (21, [], 0) := by
  simp only [packB, putsB] at ht ⊢
  rcases take_short ht with ⟨k1, k2⟩ | ⟨k1, k2, k3⟩
  · rw [k2, unV, nextV_short (by omega) k1]
    simp
  · have h2 := nextV_putB (n := l.length) (by omega) ((putsB (diffs 0 l)).take (t - (putB l.length).length))
    rw [k3, unV, h2]
    simp only [List.drop_left]
    rw [unF_short l 0 _ h k2]
    simp
    omega
theorem packB_length (l : List Int) (hl : l.length ≤ 1000) : (packB l).length ≤ 10 * (l.length + 1) := by
  have := putsB_length (l := l.length :: diffs 0 l) (fun n hn => by
    rcases List.mem_cons.1 hn with rfl | hn
    · omega
    · exact diffs_is l 0 n hn)
  simp only [List.length_cons, diffs_length] at this
  exact this
/-- How many bytes a number has. -/
theorem putB_mono {m : Nat} : ∀ {n : Nat}, n ≤ m → (putB n).length ≤ (putB m).length := by
  induction m using Nat.strongRecOn with
  | _ m ih =>
    intro n h
    by_cases hm : m < 128
    · rw [putB, if_pos (by omega), putB, if_pos hm]; simp
    · by_cases hn : n < 128
      · rw [putB, if_pos hn, putB, if_neg hm]; simp
      · rw [putB, if_neg hn, putB.eq_1 m, if_neg hm]
        have := ih (m / 128) (by omega) (n := n / 128) (by omega)
        simpa using this
end Go.Proofs.YtdgeinipdphoeaaDoor
/- Varints: the program's 'Get', 'Unpack'. -/
namespace Go.Proofs.YtdgeinipdphoeaaDoor
set_option linter.unusedVariables false
set_option linter.unusedSimpArgs false
open Go.ChangeShapes Go.WideShapes Go.ChangeAt Go.RowKit

theorem next_is (am an : Addr) (s : ByteArray) (hs : s.size ≤ 9223372036854775807) {C N K : Nat} (hv : nextV (bytesOf s) = (C, N, K)) (b : Nat) (w : World) (hb : w.heap[b]? = some (.cells #[.string s] 117 (0, 0))) (hsent : Sent am an w) :
    Calls Tryd.prog 58 #[.pointer (some ⟨b, 0, none⟩)] w fun e w' => e = .returned (.tuple #[.int .u64 (N : Int), errOf am an C]) ∧ w'.heap[b]? = some (.cells #[.string (s.extract K s.size)] 117 (0, 0)) ∧ OnlyAt b w w' :=
  (next_any am an s hs b w hb hsent).mono fun e w' h => by
    unfold NextP at h
    rw [hv] at h
    exact h
theorem Sent.lt {am an : Addr} {w : World} (h : Sent am an w) : 2 < w.heap.size ∧ 1 < w.heap.size ∧ am.block < w.heap.size ∧ an.block < w.heap.size := by
  obtain ⟨g1, g2, g3, ⟨c, t, g4⟩, c', t', g5⟩ := h
  exact ⟨World.block_lt_of_cell? _ _ g1, World.block_lt_of_cell? _ _ g2, heap_lt g4, heap_lt g5⟩
theorem Sent.past {am an : Addr} {b : Nat} {w w1 w2 : World} (h : Sent am an w) (h1 : Below w.heap.size w w1) (h2 : OnlyAt b w1 w2) (hb : w.heap.size ≤ b) : Sent am an w2 :=
  have hl := h.lt
  (h.below h1).only h2 (by omega) (by omega) (by omega) (by omega)
theorem Sent.plus {am an : Addr} {w : World} (h : Sent am an w) (x : Ext) : Sent am an (World.plus w x) := h.below (World.plus_below w x)
theorem code_or {l : List UInt8} {C N K : Nat} (hv : nextV l = (C, N, K)) : C = 0 ∨ C = 20 ∨ C = 21 := by
  have := nextV_code l; rw [hv] at this; exact this

set_option maxRecDepth 100000 in
set_option maxHeartbeats 1000000 in
theorem get_is (am an : Addr) (s : ByteArray) (hs : s.size ≤ 9223372036854775807) {C N K : Nat} (hv : nextV (bytesOf s) = (C, N, K)) (w : World) (hsent : Sent am an w) :
    Calls Tryd.prog 50 #[.string s] w fun e w' => e = .returned (.tuple #[.int .u64 (N : Int), .string (s.extract K s.size), .int .i64 (C : Int)]) ∧ Below w.heap.size w w' := by
  have HC := hid (code_or hv)
  have HN := hid (fun b W h1 h2 => next_is am an s hs hv b W h1 h2)
  have HS := hid hsent
  clear hv hsent
  go_enter Tryd.func50, Tryd.ntmps50
  go_wp2_with (go_at_call 58; refine (HN.out _ _ (heap_at rfl) (HS.out.below (by (repeat' (first | (with_reducible exact Below.refl _ _) | (with_reducible assumption) | (with_reducible refine Below.new ?_ _) | (with_reducible refine Below.alloc ?_ ?_ _) | (with_reducible refine Below.drew ?_) | (with_reducible refine Below.drewN ?_ _) | (with_reducible refine Below.setCell ?_ ?_ _) | (refine Below.step ?_ (by assumption)) | go_size))))).mono ?_; rintro e w1 ⟨rfl, hb1, ho1⟩)
  have HB := hid (show Below w.heap.size w w1 from ho1.below (by (repeat' (first | (with_reducible exact Below.refl _ _) | (with_reducible assumption) | (with_reducible refine Below.new ?_ _) | (with_reducible refine Below.alloc ?_ ?_ _) | (with_reducible refine Below.drew ?_) | (with_reducible refine Below.drewN ?_ _) | (with_reducible refine Below.setCell ?_ ?_ _) | (refine Below.step ?_ (by assumption)) | go_size))) (Nat.le_refl _) (by simp))
  have HS1 := hid (HS.out.below HB.out)
  have c1 := cell_of_one hb1
  have p1 := World.plus_cell c1
  clear hb1 ho1
  refine wp_region_plus (by kernel_rfl) (by kernel_rfl) ?_
  repeat (first | go_big_quiet_skip | (go_big_quiet_want; go_big_quiet_op; first | go_big_quiet_on | go_big_quiet_call (((go_at_call 59; exact Calls.plus_of_same (told_any am an _ HC.out _ (HS1.out.plus _)))))))
  refine wpQuiet_nil ?_
  rintro _ ⟨xq, rfl⟩
  go_wp2
  go_ret3
  exact ⟨rfl, HB.out.trans ((World.plus_below _ _).mono HB.out.size)⟩
end Go.Proofs.YtdgeinipdphoeaaDoor
/- The number of an error of the program's own type. -/
namespace Go.Proofs.YtdgeinipdphoeaaDoor
set_option linter.unusedVariables false
set_option linter.unusedSimpArgs false
set_option maxRecDepth 100000
open Go.ChangeShapes Go.WideShapes Go.ChangeAt Go.RowKit

/-- What errors.errorType holds. -/
def TypeG (w : World) : Prop := w.cell? ⟨0, 0, none⟩ = some (.iface 120 (.agg #[.pointer (some ⟨3, 49, none⟩)]))
abbrev wrongV (n : Int) : Value := .iface 84 (.agg #[.int .i64 n])

theorem stold_any (n : Int) (w : World) (hg : TypeG w) :
    Calls Tryd.prog 25 #[wrongV n] w fun e w' => e = .returned (.int .i64 n) ∧ Below w.heap.size w w' := by
  have hlt : 0 < w.heap.size := World.block_lt_of_cell? w _ hg
  have HA := hid (as_hit n ⟨w.heap.size, 0, none⟩ (.int .i64 0) (w.alloc (.cells #[.int .i64 0] 84)) (by rw [World.cell?_alloc_lt _ _ ⟨0, 0, none⟩ hlt]; exact hg) (by rw [World.cell?_alloc_at _ _ _ _ rfl]; rfl) (by simp))
  go_enter Tryd.func25, Tryd.ntmps25
  go_wp2_with (go_at_call 43; ((with_reducible refine (HA.out).mono ?_); rintro e w1 ⟨rfl, rfl⟩))
  go_ret
  exact ⟨by first | rfl | simp, by (repeat' (first | (with_reducible exact Below.refl _ _) | (with_reducible assumption) | (with_reducible refine Below.new ?_ _) | (with_reducible refine Below.alloc ?_ ?_ _) | (with_reducible refine Below.drew ?_) | (with_reducible refine Below.drewN ?_ _) | (with_reducible refine Below.setCell ?_ ?_ _) | (refine Below.step ?_ (by assumption)) | go_size))⟩
end Go.Proofs.YtdgeinipdphoeaaDoor
/- Schemas: which texts are names, by the program and by the reference. -/
namespace Go.Proofs.YtdgeinipdphoeaaDoor
set_option linter.unusedVariables false
set_option linter.unusedSimpArgs false
open Go.ChangeShapes Go.WideShapes Go.ChangeAt Go.RowKit

/-- May a byte stand at a name's place i? -/
def goodC (i : Nat) (c : UInt8) : Bool := decide (97 ≤ c.toNat ∧ c.toNat ≤ 122) || (decide (i ≠ 0) && (decide (c.toNat = 95) || decide (48 ≤ c.toNat ∧ c.toNat ≤ 57)))
/-- Is a text a name? -/
def nameB (s : ByteArray) : Bool := decide (0 < s.size ∧ s.size ≤ 20) && (List.range s.size).all fun i => goodC i (s.data.toList[i]?.getD 0)
theorem byte_at (s : ByteArray) (i : Nat) (h : i < s.size) : s.data.toList[i]?.getD 0 = s[i] := by
  have : i < s.data.toList.length := by simpa using h
  rw [List.getElem?_eq_getElem this]
  rfl
theorem name_good {s : ByteArray} (h : ∀ i (hi : i < s.size), goodC i s[i] = true) : nameB s = decide (0 < s.size ∧ s.size ≤ 20) := by
  unfold nameB
  have : ((List.range s.size).all fun i => goodC i (s.data.toList[i]?.getD 0)) = true := by
    rw [List.all_eq_true]
    intro i hi
    have hi := List.mem_range.1 hi
    rw [byte_at s i hi]
    exact h i hi
  rw [this, Bool.and_true]
theorem name_bad {s : ByteArray} {j : Nat} (hj : j < s.size) (h : goodC j s[j] = false) : nameB s = false := by
  unfold nameB
  have : ((List.range s.size).all fun i => goodC i (s.data.toList[i]?.getD 0)) = false := by
    rw [List.all_eq_false]
    refine ⟨j, List.mem_range.2 hj, ?_⟩
    rw [byte_at s j hj, h]
    simp
  rw [this, Bool.and_false]
theorem good_or (s : ByteArray) : (∀ i (hi : i < s.size), goodC i s[i] = true) ∨ ∃ j, ∃ hj : j < s.size, goodC j s[j] = false ∧ ∀ i (hi : i < j), goodC i (s[i]'(Nat.lt_trans hi hj)) = true := by
  have H : ∀ n, n ≤ s.size → (∀ i (hi : i < s.size), i < n → goodC i s[i] = true) ∨ ∃ j, ∃ hj : j < s.size, goodC j s[j] = false ∧ ∀ i (hi : i < j), goodC i (s[i]'(Nat.lt_trans hi hj)) = true := by
    intro n
    induction n with
    | zero => intro _; exact .inl fun i hi h => absurd h (Nat.not_lt_zero i)
    | succ n ih =>
      intro hn
      rcases ih (by omega) with h | h
      · by_cases hg : goodC n (s[n]'(by omega)) = true
        · refine .inl fun i hi hin => ?_
          by_cases e : i = n
          · subst e; exact hg
          · exact h i hi (by omega)
        · exact .inr ⟨n, by omega, by simpa using hg, fun i hi => h i (by omega) hi⟩
      · exact .inr h
  rcases H s.size (Nat.le_refl _) with h | h
  · exact .inl fun i hi => h i hi hi
  · exact .inr h
theorem goodC_iff {i : Nat} {c : UInt8} : goodC i c = true ↔ (97 ≤ c.toNat ∧ c.toNat ≤ 122) ∨ (i ≠ 0 ∧ (c.toNat = 95 ∨ (48 ≤ c.toNat ∧ c.toNat ≤ 57))) := by
  unfold goodC
  simp only [Bool.or_eq_true, Bool.and_eq_true, decide_eq_true_eq]

/-- The next rune. -/
theorem rune_at (w : World) (k : Nat) (s : ByteArray) (pos : Nat) (hk : w.heap[k]? = some (.stringIter s pos)) (h : pos < s.size) :
    ∃ r v : Nat, (∀ ty, (Instr.next (.pointer (some ⟨k, 0, none⟩)) true ty).run Tryd.prog w = .ok (.tuple #[.bool true, .int .i64 pos, .int .i32 (r : Int)]) (w.iterAt k s (pos + v))) ∧ 1 ≤ v ∧
      (((s[pos]'h).toNat < 128 ∧ r = (s[pos]'h).toNat ∧ v = 1) ∨ (128 ≤ (s[pos]'h).toNat ∧ 128 ≤ r)) ∧ r ≤ 2147483647 := by
  refine ⟨(Utf8.decode s pos).1, (Utf8.decode s pos).2, fun ty => Lib.run_next_any_at w k s pos ty hk h, ?_, ?_, decode_le s pos⟩
  · by_cases ha : (s[pos]'h).toNat < 128
    · rw [decode_ascii s pos h ha]; exact Nat.le_refl _
    · exact (decode_high s pos h (by omega)).2
  · by_cases ha : (s[pos]'h).toNat < 128
    · rw [decode_ascii s pos h ha]; exact .inl ⟨ha, rfl, rfl⟩
    · exact .inr ⟨by omega, (decode_high s pos h (by omega)).1⟩

set_option maxRecDepth 100000 in
set_option maxHeartbeats 1000000 in
theorem isName_none (s : ByteArray) (w : World) (h0 : s.size = 0) : Calls Tryd.prog 45 #[.string s] w fun e w' => e = .returned (.bool false) ∧ Below w.heap.size w w' := by
  obtain rfl : s = { data := #[] } := by
    cases s with
    | mk d =>
      have : d.size = 0 := h0
      rw [Array.size_eq_zero_iff.1 this]
  clear h0
  have hnx := fun ty => run_next_end (P := Tryd.prog) w { data := #[] } 0 ty (by decide)
  go_enter Tryd.func45, Tryd.ntmps45
  go_wp2
  refine wp_scope_straight ?_
  go_wp2
  refine wp_label ?_
  go_wp2
  refine wp_loop_rounds 1 ?_
  rw [rounds_succ]
  go_wp2
  (try rw [Exit.noGoto_ret])
  go_ret
  exact ⟨rfl, (Below.refl _ _).alloc (Nat.le_refl _) _⟩

set_option maxRecDepth 100000 in
set_option maxHeartbeats 1000000 in
theorem isName_some (s : ByteArray) (w : World) (h0 : 0 < s.size) (hs : s.size ≤ 9223372036854775807) (b0 : Bool) (hb0 : decide (s.size ≤ 20) = b0) (j : Nat) (hj : j ≤ s.size) (h : ∀ i (hi : i < j), goodC i (s[i]'(by omega)) = true)
    (hbad : ∀ hj : j < s.size, goodC j s[j] = false) :
    Calls Tryd.prog 45 #[.string s] w fun e w' => e = .returned (.bool (b0 && decide (j = s.size))) ∧ Below w.heap.size w w' := by
  have hne : s.toList.isEmpty = false := by
    rw [ByteArray.toList_eq]
    have : 0 < s.data.toList.length := by simpa using h0
    cases hd : s.data.toList with
    | nil => rw [hd] at this; simp at this
    | cons a l => rfl
  have hb1 : decide ((s.size : Int) ≤ 20) = b0 := by rw [← hb0]; simp; omega
  clear hb0
  go_enter Tryd.func45, Tryd.ntmps45
  go_wp2
  refine wp_scope_straight ?_
  go_wp2
  refine wp_label ?_
  go_wp2
  go_loopw [3] (fun b wr => ∃ pos : Nat, pos ≤ j ∧ b = .bool b0 ∧ wr.heap[w.heap.size]? = some (.stringIter s pos) ∧ Below w.heap.size w wr) (fun _ wr => s.size - wr.iterPos w.heap.size)
  case atStart => exact ⟨0, Nat.zero_le _, rfl, World.iter_heap w s 0, (Below.refl _ _).alloc (Nat.le_refl _) _⟩
  case round =>
    obtain ⟨pos, hp, rfl, hit, hB⟩ := hrel
    have hsz : w.heap.size < wr.heap.size := (Array.getElem?_eq_some_iff.1 hit).1
    by_cases hpj : pos < j
    · have hg := goodC_iff.1 (h pos hpj)
      obtain ⟨r, v, hnx, hv, hr, hr2⟩ := rune_at wr w.heap.size s pos hit (by omega)
      obtain ⟨c, hc⟩ : ∃ c, (s[pos]'(by omega)).toNat = c := ⟨_, rfl⟩
      rw [hc] at hg hr
      obtain ⟨rfl, rfl⟩ : r = c ∧ v = 1 := by omega
      have hit2 := Lib.iterAt_heap wr w.heap.size s pos (pos + 1) hit
      have hB2 := Lib.below_iterAt hB (k := w.heap.size) (Nat.le_refl _) s (pos + 1)
      have hm : s.size - (wr.iterAt w.heap.size s (pos + 1)).iterPos w.heap.size < s.size - wr.iterPos w.heap.size := by
        simp only [World.iterPos, hit2, hit]; omega
      have HI := hid hit2; have HB2 := hid hB2; have HM := hid hm
      clear h hbad hne hb1 hit2 hB2 hm hv hr hc hB hit
      rcases hg with ⟨g1, g2⟩ | ⟨g0, g1 | ⟨g1, g2⟩⟩
      · go_wp2
        go_roundw
        case rel => exact ⟨pos + 1, hpj, rfl, HI.out, HB2.out⟩
        case measure => exact HM.out
      · subst g1
        have hp0 : ((pos : Int) == 0) = false := by simp; omega
        go_wp2
        go_roundw
        case rel => exact ⟨pos + 1, hpj, rfl, HI.out, HB2.out⟩
        case measure => exact HM.out
      · have hn : ((r : Int) != 95) = true := by simp; omega
        have hp0 : ((pos : Int) == 0) = false := by simp; omega
        go_wp2
        go_roundw
        case rel => exact ⟨pos + 1, hpj, rfl, HI.out, HB2.out⟩
        case measure => exact HM.out
    · obtain rfl : pos = j := by omega
      by_cases hps : pos < s.size
      · have hg := hbad hps
        obtain ⟨r, v, hnx, hv, hr, hr2⟩ := rune_at wr w.heap.size s pos hit hps
        obtain ⟨c, hc⟩ : ∃ c, (s[pos]'hps).toNat = c := ⟨_, rfl⟩
        have hg2 : ¬ ((97 ≤ c ∧ c ≤ 122) ∨ (pos ≠ 0 ∧ (c = 95 ∨ (48 ≤ c ∧ c ≤ 57)))) := fun hh => by
          rw [← hc] at hh
          rw [goodC_iff.2 hh] at hg
          cases hg
        rw [hc] at hr
        have hB2 := Lib.below_iterAt hB (k := w.heap.size) (Nat.le_refl _) s (pos + v)
        have HB2 := hid hB2
        have HD : Hid (decide (pos = s.size) = false) := by unfold Hid; simp; omega
        have hcase : ((r < 97 ∨ 122 < r) ∧ pos = 0) ∨ ((r < 97 ∨ 122 < r) ∧ 0 < pos ∧ r ≠ 95 ∧ (r < 48 ∨ 57 < r)) := by omega
        clear h hbad hne hb1 hB2 hv hr hc hB hit hg2 hg
        rcases hcase with ⟨g1, g0⟩ | ⟨g1, g2, g3, g4⟩
        · have hp0 : ((pos : Int) == 0) = true := by simp; omega
          clear g0
          rcases g1 with g1 | g1
          · go_wp2
            all_goals ((try rw [Exit.noGoto_ret]); go_ret; exact ⟨ret_bool (by rw [HD.out, Bool.and_false]), HB2.out⟩)
          · have hd : decide ((r : Int) ≤ 122) = false := by rw [decide_eq_false_iff_not]; omega
            go_wp2
            all_goals ((try rw [Exit.noGoto_ret]); go_ret; exact ⟨ret_bool (by rw [HD.out, Bool.and_false]), HB2.out⟩)
        · have hp0 : ((pos : Int) == 0) = false := by simp; omega
          have hn : ((r : Int) != 95) = true := by simp; omega
          clear g3 g2
          have hcase : r < 48 ∨ (57 < r ∧ r < 97) ∨ 122 < r := by omega
          clear g1 g4
          rcases hcase with g1 | ⟨g1, g2⟩ | g1
          · go_wp2
            all_goals ((try rw [Exit.noGoto_ret]); go_ret; exact ⟨ret_bool (by rw [HD.out, Bool.and_false]), HB2.out⟩)
          · have hd2 : decide ((57 : Int) < r) = true := by rw [decide_eq_true_eq]; omega
            go_wp2
            all_goals ((try rw [Exit.noGoto_ret]); go_ret; exact ⟨ret_bool (by rw [HD.out, Bool.and_false]), HB2.out⟩)
          · have hd : decide ((r : Int) ≤ 122) = false := by rw [decide_eq_false_iff_not]; omega
            have hd2 : decide ((57 : Int) < r) = true := by rw [decide_eq_true_eq]; omega
            go_wp2
            all_goals ((try rw [Exit.noGoto_ret]); go_ret; exact ⟨ret_bool (by rw [HD.out, Bool.and_false]), HB2.out⟩)
      · have hnx : ∀ ty, (Instr.next (.pointer (some ⟨w.heap.size, 0, none⟩)) true ty).run Tryd.prog wr = _ := fun ty => Lib.run_next_end_at wr w.heap.size s pos ty hit hps
        have HB2 := hid hB
        have HD : Hid (decide (pos = s.size) = true) := by unfold Hid; simp; omega
        clear h hbad hne hb1 hB hit
        go_wp2
        (try rw [Exit.noGoto_ret])
        go_ret
        exact ⟨ret_bool (by rw [HD.out, Bool.and_true]), HB2.out⟩

theorem isName_any (s : ByteArray) (w : World) (hs : s.size ≤ 9223372036854775807) : Calls Tryd.prog 45 #[.string s] w fun e w' => e = .returned (.bool (nameB s)) ∧ Below w.heap.size w w' := by
  by_cases h0 : s.size = 0
  · refine (isName_none s w h0).mono fun e w' ⟨he, hw⟩ => ⟨he.trans (ret_bool ?_), hw⟩
    unfold nameB; simp [h0]
  · rcases good_or s with h | ⟨j, hj, h1, h2⟩
    · refine (isName_some s w (by omega) hs _ rfl s.size (Nat.le_refl _) (fun i hi => h i hi) (fun hh => absurd hh (Nat.lt_irrefl _))).mono fun e w' ⟨he, hw⟩ => ⟨he.trans (ret_bool ?_), hw⟩
      rw [name_good h]
      have : 0 < s.size := by omega
      simp [this]
    · refine (isName_some s w (by omega) hs _ rfl j (by omega) h2 (fun _ => h1)).mono fun e w' ⟨he, hw⟩ => ⟨he.trans (ret_bool ?_), hw⟩
      rw [name_bad hj h1]
      have : ¬ j = s.size := by omega
      simp [this]

set_option maxRecDepth 100000 in
set_option maxHeartbeats 1000000 in
theorem refIsName_out (s : ByteArray) (w : World) (hs : s.size ≤ 9223372036854775807) (h : s.size = 0 ∨ 20 < s.size) : Calls Tryd.prog 38 #[.string s] w fun e w' => e = .returned (.bool false) ∧ Below w.heap.size w w' := by
  rcases h with h | h
  all_goals
    go_enter Tryd.func38, Tryd.ntmps38
    go_wp2
    go_ret
    exact ⟨rfl, by (repeat' (first | (with_reducible exact Below.refl _ _) | (with_reducible assumption) | (with_reducible refine Below.new ?_ _) | (with_reducible refine Below.alloc ?_ ?_ _) | (with_reducible refine Below.drew ?_) | (with_reducible refine Below.drewN ?_ _) | (with_reducible refine Below.setCell ?_ ?_ _) | (refine Below.step ?_ (by assumption)) | go_size))⟩
set_option maxRecDepth 100000 in
set_option maxHeartbeats 1000000 in
theorem refIsName_head (s : ByteArray) (w : World) (h0 : 0 < s.size) (h1 : s.size ≤ 20) (h : (s[0]'h0).toNat < 97 ∨ 122 < (s[0]'h0).toNat) : Calls Tryd.prog 38 #[.string s] w fun e w' => e = .returned (.bool false) ∧ Below w.heap.size w w' := by
  have hc2 := (s[0]'h0).toNat_lt
  rcases h with h | h
  all_goals
    go_enter Tryd.func38, Tryd.ntmps38
    go_wp2
    all_goals (go_ret; exact ⟨rfl, by (repeat' (first | (with_reducible exact Below.refl _ _) | (with_reducible assumption) | (with_reducible refine Below.new ?_ _) | (with_reducible refine Below.alloc ?_ ?_ _) | (with_reducible refine Below.drew ?_) | (with_reducible refine Below.drewN ?_ _) | (with_reducible refine Below.setCell ?_ ?_ _) | (refine Below.step ?_ (by assumption)) | go_size))⟩)
set_option maxRecDepth 100000 in
set_option maxHeartbeats 1000000 in
theorem refIsName_some (s : ByteArray) (w : World) (h0 : 0 < s.size) (h1 : s.size ≤ 20) (h2 : 97 ≤ (s[0]'h0).toNat ∧ (s[0]'h0).toNat ≤ 122) (j : Nat) (hj : j ≤ s.size) (h : ∀ i (hi : i < j), goodC i (s[i]'(by omega)) = true)
    (hbad : ∀ hj : j < s.size, goodC j s[j] = false) :
    Calls Tryd.prog 38 #[.string s] w fun e w' => e = .returned (.bool (decide (j = s.size))) ∧ Below w.heap.size w w' := by
  have hj0 : 0 < j := by
    rcases Nat.eq_zero_or_pos j with e | e
    · subst e
      have := hbad h0
      rw [goodC_iff.2 (.inl h2)] at this
      cases this
    · exact e
  obtain ⟨c0, hc0⟩ : ∃ c0, (s[0]'h0).toNat = c0 := ⟨_, rfl⟩
  rw [hc0] at h2
  go_enter Tryd.func38, Tryd.ntmps38
  go_wp2
  clear hc0
  go_loop [3] (fun i => ∃ k : Nat, k ≤ j ∧ i = .int .i64 k) (fun i => s.size - (intOf i).toNat)
  case atStart => exact ⟨0, Nat.zero_le _, rfl⟩
  case round =>
    obtain ⟨k, hk, rfl⟩ := hrel
    by_cases hkj : k < j
    · have hg := goodC_iff.1 (h k hkj)
      have hc2 := (s[k]'(by omega)).toNat_lt
      obtain ⟨c, hc⟩ : ∃ c, (s[k]'(by omega)).toNat = c := ⟨_, rfl⟩
      rw [hc] at hg hc2
      have hks : k < s.size := by omega
      clear h hbad
      rcases hg with ⟨g1, g2⟩ | ⟨g0, g1 | ⟨g1, g2⟩⟩
      · go_wp2
        go_round
        case rel => exact ⟨k + 1, hkj, by go_num⟩
        case measure => simp [intOf]; omega
      · subst g1
        go_wp2
        go_round
        case rel => exact ⟨k + 1, hkj, by go_num⟩
        case measure => simp [intOf]; omega
      · go_wp2
        go_round
        case rel => exact ⟨k + 1, hkj, by go_num⟩
        case measure => simp [intOf]; omega
    · obtain rfl : k = j := by omega
      by_cases hps : k < s.size
      · have hg := hbad hps
        have hc2 := (s[k]'hps).toNat_lt
        obtain ⟨c, hc⟩ : ∃ c, (s[k]'hps).toNat = c := ⟨_, rfl⟩
        have hg2 : ¬ ((97 ≤ c ∧ c ≤ 122) ∨ (k ≠ 0 ∧ (c = 95 ∨ (48 ≤ c ∧ c ≤ 57)))) := fun hh => by
          rw [← hc] at hh
          rw [goodC_iff.2 hh] at hg
          cases hg
        rw [hc] at hc2
        have HD : Hid (decide (k = s.size) = false) := by unfold Hid; simp; omega
        have hcase : c < 48 ∨ (57 < c ∧ c < 95) ∨ c = 96 ∨ 122 < c := by omega
        clear h hbad hg2 hg
        rcases hcase with g1 | ⟨g1, g2⟩ | g1 | g1
        · have hn : ((c : Int) == 95) = false := by simp; omega
          go_wp2
          all_goals (go_ret; exact ⟨ret_bool (by rw [HD.out]), by (repeat' (first | (with_reducible exact Below.refl _ _) | (with_reducible assumption) | (with_reducible refine Below.new ?_ _) | (with_reducible refine Below.alloc ?_ ?_ _) | (with_reducible refine Below.drew ?_) | (with_reducible refine Below.drewN ?_ _) | (with_reducible refine Below.setCell ?_ ?_ _) | (refine Below.step ?_ (by assumption)) | go_size))⟩)
        · have hn : ((c : Int) == 95) = false := by simp; omega
          have hn2 : decide ((c : Int) ≤ 57) = false := by rw [decide_eq_false_iff_not]; omega
          go_wp2
          all_goals (go_ret; exact ⟨ret_bool (by rw [HD.out]), by (repeat' (first | (with_reducible exact Below.refl _ _) | (with_reducible assumption) | (with_reducible refine Below.new ?_ _) | (with_reducible refine Below.alloc ?_ ?_ _) | (with_reducible refine Below.drew ?_) | (with_reducible refine Below.drewN ?_ _) | (with_reducible refine Below.setCell ?_ ?_ _) | (refine Below.step ?_ (by assumption)) | go_size))⟩)
        · subst g1
          go_wp2
          all_goals (go_ret; exact ⟨ret_bool (by rw [HD.out]), by (repeat' (first | (with_reducible exact Below.refl _ _) | (with_reducible assumption) | (with_reducible refine Below.new ?_ _) | (with_reducible refine Below.alloc ?_ ?_ _) | (with_reducible refine Below.drew ?_) | (with_reducible refine Below.drewN ?_ _) | (with_reducible refine Below.setCell ?_ ?_ _) | (refine Below.step ?_ (by assumption)) | go_size))⟩)
        · have hn : ((c : Int) == 95) = false := by simp; omega
          have hn2 : decide ((c : Int) ≤ 57) = false := by rw [decide_eq_false_iff_not]; omega
          have hn3 : decide ((c : Int) ≤ 122) = false := by rw [decide_eq_false_iff_not]; omega
          go_wp2
          all_goals (go_ret; exact ⟨ret_bool (by rw [HD.out]), by (repeat' (first | (with_reducible exact Below.refl _ _) | (with_reducible assumption) | (with_reducible refine Below.new ?_ _) | (with_reducible refine Below.alloc ?_ ?_ _) | (with_reducible refine Below.drew ?_) | (with_reducible refine Below.drewN ?_ _) | (with_reducible refine Below.setCell ?_ ?_ _) | (refine Below.step ?_ (by assumption)) | go_size))⟩)
      · have HD : Hid (decide (k = s.size) = true) := by unfold Hid; simp; omega
        clear h hbad
        go_wp2
        go_ret
        exact ⟨ret_bool (by rw [HD.out]), by (repeat' (first | (with_reducible exact Below.refl _ _) | (with_reducible assumption) | (with_reducible refine Below.new ?_ _) | (with_reducible refine Below.alloc ?_ ?_ _) | (with_reducible refine Below.drew ?_) | (with_reducible refine Below.drewN ?_ _) | (with_reducible refine Below.setCell ?_ ?_ _) | (refine Below.step ?_ (by assumption)) | go_size))⟩
theorem refIsName_any (s : ByteArray) (w : World) (hs : s.size ≤ 9223372036854775807) : Calls Tryd.prog 38 #[.string s] w fun e w' => e = .returned (.bool (nameB s)) ∧ Below w.heap.size w w' := by
  by_cases h0 : s.size = 0 ∨ 20 < s.size
  · refine (refIsName_out s w hs h0).mono fun e w' ⟨he, hw⟩ => ⟨he.trans (ret_bool ?_), hw⟩
    unfold nameB
    rw [show decide (0 < s.size ∧ s.size ≤ 20) = false by rw [decide_eq_false_iff_not]; omega]
    rfl
  · have hp : 0 < s.size := by omega
    have hl : s.size ≤ 20 := by omega
    by_cases h2 : 97 ≤ (s[0]'hp).toNat ∧ (s[0]'hp).toNat ≤ 122
    · rcases good_or s with h | ⟨j, hj, h3, h4⟩
      · refine (refIsName_some s w hp hl h2 s.size (Nat.le_refl _) (fun i hi => h i hi) (fun hh => absurd hh (Nat.lt_irrefl _))).mono fun e w' ⟨he, hw⟩ => ⟨he.trans (ret_bool ?_), hw⟩
        rw [name_good h]
        simp [hp, hl]
      · refine (refIsName_some s w hp hl h2 j (by omega) h4 (fun _ => h3)).mono fun e w' ⟨he, hw⟩ => ⟨he.trans (ret_bool ?_), hw⟩
        rw [name_bad hj h3]
        have : ¬ j = s.size := by omega
        simp [this]
    · refine (refIsName_head s w hp hl (by omega)).mono fun e w' ⟨he, hw⟩ => ⟨he.trans (ret_bool ?_), hw⟩
      have : goodC 0 (s[0]'hp) = false := by
        rw [Bool.eq_false_iff]
        intro h
        rcases goodC_iff.1 h with h | ⟨h, _⟩
        · exact h2 h
        · exact h rfl
      rw [name_bad hp this]
end Go.Proofs.YtdgeinipdphoeaaDoor
/- Maps that the call has made whose elements are bools: the look-up. -/
namespace Go.Proofs.YtdgeinipdphoeaaDoor
set_option linter.unusedVariables false
open Go.RowKit Go.ChangeMaps Go.MapKept
open Go.Maps (Keyed)

theorem plainElem_bool_inv {H : Type} {P : Program} {e : TypeId} (he : P.underlying e = some .bool) {v : Value} {z : DataW H × List MemPlace} (h : plainElem P e v = some z) : ∃ a, v = .bool a ∧ z = (.lit (.bool a), []) := by
  unfold plainElem at h
  rw [he] at h
  cases v <;> simp at h
  exact ⟨_, rfl, h.symm⟩
theorem lookup_bool {H : Type} {P : Program} {k t e : TypeId} {w : World} {b n : Nat} {D : DataW H} (h : w.ownsMap P k (plainElem P e) b n D) (K : Keyed P k) (ht : P.underlying t = some (.map k e)) (he : P.underlying e = some .bool) (hz : (zeroValue e).run P w = .ok (.bool false) w)
    {key : Value} {kl : Lit} (hkey : keyOf P k key = some kl) : ∃ c, (Instr.lookup t (.map (some b)) key false).run P w = .ok (.bool c) w ∧ D.atKey kl (.lit (.bool false)) = .lit (.bool c) := by
  obtain ⟨v, ps, hrun, hv⟩ := h.lookup K ht hz (plainElem_bool he false) hkey
  obtain ⟨c, rfl, hc⟩ := plainElem_bool_inv he hv
  simp only [Prod.mk.injEq] at hc
  exact ⟨c, hrun, hc.1⟩
/-- 'm[k]' (without 'ok') at elements that are bools, for the walk. -/
theorem wpList_lookup_own_bool {H : Type} {P : Program} (w : World) {ops : Array Oper} {rest : List Oper} {o : Oper} {a : Act} {Q : Exit → Act → World → Prop}
    (hg : o.guard = none) (m x : Operand) (t : TypeId) (hop : o.op = Op.lookup t m x false)
    (k e : TypeId) (K : Keyed P k) (ht : P.underlying t = some (.map k e)) (he : P.underlying e = some .bool) (hz : (zeroValue e).run P w = .ok (.bool false) w) (b n : Nat) (D : DataW H)
    (hm : a.eval m = .map (some b)) (hown : w.ownsMap P k (plainElem P e) b n D) (key : Value) (kl : Lit) (hx : a.eval x = key) (hkey : keyOf P k key = some kl)
    (hK : ∀ c : Bool, D.atKey kl (.lit (.bool false)) = .lit (.bool c) → wpList P ops Q rest (a.put o.dst (.bool c)) w) :
    wpList P ops Q (o :: rest) a w := by
  refine wpList_plain hg fun K' hK' => ?_
  obtain ⟨c, hrun, hat⟩ := lookup_bool hown K ht he hz hkey
  unfold Oper.wp
  simp [execOp, hop, hm, hx, hrun, Result.andThen]
  exact hK' _ _ (hK c hat)
end Go.Proofs.YtdgeinipdphoeaaDoor
