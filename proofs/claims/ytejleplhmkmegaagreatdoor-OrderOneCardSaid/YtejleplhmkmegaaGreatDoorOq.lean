/- Texts joined: Rows2, OrW, OrX, LawF. -/
import Derived.Test.YtejleplhmkmegaaGreatDoorOa
import Derived.Laws.Rows
import Derived.Test.YtejleplhmkmegaaGreatDoorOo
import Derived.Test.YtejleplhmkmegaaGreatDoorOp
import Derived.Test.YtejleplhmkmegaaGreatDoorOj
import Derived.SizedLaws
import Derived.Lib.SmallJoins
import Derived.Test.YtejleplhmkmegaaGreatDoorOh
import Derived.Lib.LaidTab
import Derived.MakeChecks
import Derived.ProofKit
import Derived.LaidMore
import Derived.OpenShut
import Derived.Stop.Joined
import Derived.Stop.LaidErr
import Derived.Test.YtejleplhmkmegaaGreatDoorRows
import Derived.Stop.LaidTwo
/- Whole blocks stored: what is known of the world behind. -/
namespace Go
theorem grown_row {P : Program} {w : World} {g : Nat} {old cells : Array Value} {t : TypeId} (hg : w.heap[g]? = some (.cells old t (0, 0))) : w.grownBy (w.setRow g cells) (some g) :=
  ⟨rfl, rfl, rfl, by simp, fun k _ hk => setRow_other w g k _ (fun e => hk (by simp [e]))⟩
theorem wpList_store_blk {P : Program} {ops : Array Oper} {rest : List Oper} {o : Oper} {a : Act} {w : World} {Q : Exit → Act → World → Prop} (hgd : o.guard = none) (ty : TypeId) (x y : Operand) (ho : o.op = .store ty x y)
    (g : Nat) (cells : Array Value) (hx : a.eval x = .pointer (some ⟨g, 0, none⟩)) (hy : a.eval y = .agg cells)
    (t : TypeId) (old : Array Value) (hg : w.heap[g]? = some (.cells old t (0, 0))) (hi : (P.info? ty).map (·.size) = some cells.size)
    (hold : old.size = cells.size) (h1 : cells.all (·.oneCell') = true)
    (h : ∀ X, X.heap[g]? = some (.cells cells t (0, 0)) → w.grownBy X (some g) → X.heap.size = w.heap.size → wpList P ops Q rest (a.put o.dst undef) X) : wpList P ops Q (o :: rest) a w :=
  wpList_store_row hgd ty x y ho g cells hx hy t old hg hi hold h1 (h _ (setRow_heap w g old cells t (0, 0) hg) (grown_row (P := P) hg) (by simp))
end Go
/- Order: lines whose lists lie in blocks of a kind; what the law keeps of a line. -/
namespace Go.Proofs.YtejleplhmkmegaaGreatDoor
set_option linter.unusedVariables false
set_option linter.unusedSimpArgs false
set_option maxRecDepth 100000
open Go.ChangeShapes Go.WideShapes Go.ChangeAt Go.RowKit Go.Joins Go.Deep Go.Fl
structure LnN (S : Nat → Prop) (w : World) (v : LnV) (l : LineD) : Prop where
  key : SlS S w (.slice v.ka v.kn v.kc) l.key.length 2 (l.key.flatMap ValD.cells)
  nums : SlS S w (.slice v.na v.nn v.nc) l.nums.length 3 (l.nums.flatMap NumD.cells)
  ok : ∀ x ∈ l.nums, NumOk x
theorem LnN.is {S : Nat → Prop} {w : World} {v : LnV} {l : LineD} (h : LnN S w v l) : LnIs w v l := ⟨h.key.sl, h.nums.sl, h.ok⟩
theorem LnN.keep {S T : Nat → Prop} {w w' : World} {v : LnV} {l : LineD} (h : LnN S w v l) (hST : ∀ b, S b → T b) (hk : ∀ b, S b → b < w.heap.size → w'.heap[b]? = w.heap[b]?) : LnN T w' v l := ⟨h.key.keep hST hk, h.nums.keep hST hk, h.ok⟩
theorem LnN.below {S : Nat → Prop} {w w' : World} {v : LnV} {l : LineD} (h : LnN S w v l) (hb : Below w.heap.size w w') : LnN S w' v l := h.keep (fun _ h => h) (fun b _ hl => hb.block b hl)
theorem LnIs.all {w : World} {v : LnV} {l : LineD} (h : LnIs w v l) : LnN (fun b => b < w.heap.size) w v l := ⟨SlAt.all h.key, SlAt.all h.nums, h.ok⟩
def fewLn (l : LineD) : LineD := ⟨valsCut l.key, l.nums.take 10⟩
theorem fewLn_any (S0 : Nat → Prop) (va : LnV) (l : LineD) (w : World) (h : LnN S0 w va l) (hl : ∀ x ∈ l.key, x.s.size ≤ 9223372036854775807) :
    Calls Tryz.prog 10 #[.agg va.cells] w fun e w' => ∃ va', e = .returned (.agg va'.cells) ∧ LnN (fun b => S0 b ∧ b < w.heap.size ∨ w.heap.size + 1 + 1 ≤ b) w' va' (fewLn l) ∧ Below w.heap.size w w' := by
  obtain ⟨p0, p1, p2, p3, p4⟩ := SlAt.parts h.nums.sl
  refine (fewLine_some _ va.na va.nn va.nc va.st va.tm l.key w h.key.sl hl (by omega) p2 p3).mono ?_
  rintro e w' ⟨v', rfl, ho, hb⟩
  obtain ⟨ao, cap, rfl, _⟩ := SlAt.shape (SlAt.own ho)
  have hn := h.nums
  rw [show Value.slice va.na va.nn va.nc = .slice va.na l.nums.length va.nc by rw [p0]] at hn
  refine ⟨⟨va.st, va.tm, ao, _, cap, va.na, min va.nn 10, va.nc⟩, rfl, ⟨(SlS.own ho).keep (fun b hb => .inr (ho.lt b hb).1) (fun _ _ _ => rfl), ?_, fun x hx => h.ok x (List.mem_of_mem_take hx)⟩, hb⟩
  have h2 := SlS.take_flat NumD.cells 3 NumD.cells_len hn.lt 10
  rw [← p0] at h2
  exact h2.keep (fun b hb => .inl hb) (fun b hb' _ => hb.block b hb'.2)
theorem open_ln {H : Type} {enc : TypeId × Value → H} {W : World} {base : Nat} {v : Value} {d : DataW H} {p : List MemPlace} (hv : Value.okWide Tryz.prog W .any base 37 v) (h : DataW.Trod enc Tryz.prog W 0 (fun _ => true) true 37 v d p) :
    ∃ (va : LnV) (l : LineD), v = .agg va.cells ∧ LnIs W va l ∧ ∀ x ∈ l.key, x.s.size ≤ 9223372036854775807 := by
  obtain ⟨s, t, vk, vn, l, rfl, h1, h2, _, _⟩ := open_line hv h
  obtain ⟨ka, kc, rfl, _⟩ := SlAt.shape h1.key
  obtain ⟨na, nc, rfl, _⟩ := SlAt.shape h1.nums
  exact ⟨⟨s, t, ka, _, kc, na, _, nc⟩, l, rfl, h1, h2⟩
/-- Blocks that are no boxes of a law's. -/
def Far (n : Nat) (w : World) (b : Nat) : Prop := b < w.heap.size ∨ w.heap.size + n ≤ b
theorem LnN.kn {S : Nat → Prop} {w : World} {v : LnV} {l : LineD} (h : LnN S w v l) : v.kn = l.key.length ∧ v.kn ≤ v.kc ∧ v.nn = l.nums.length ∧ v.nn ≤ v.nc := by
  obtain ⟨p0, p1, _⟩ := SlAt.parts h.key.sl
  obtain ⟨q0, q1, _⟩ := SlAt.parts h.nums.sl
  omega
def oneLn (l : LineD) (n m : Nat) : LineD := ⟨l.key.take n, (l.nums.take m).map intN⟩
theorem LnN.cutN {S : Nat → Prop} {w : World} {v : LnV} {l : LineD} (h : LnN S w v l) {m : Nat} (hm : m ≤ v.nn) : NumsSl w (.slice v.na m v.nc) (l.nums.take m) := by
  have h0 := h.kn
  have hs := h.nums.sl
  rw [h0.2.2.1] at hs
  have h2 := SlAt.take hs (k := m) (by omega)
  rw [flat_take 3 NumD.cells NumD.cells_len] at h2
  unfold NumsSl
  rw [show (l.nums.take m).length = m by rw [List.length_take]; omega]
  exact h2
theorem one_line {w X Y : World} {va : LnV} {l : LineD} (h : LnN (Far 4 w) X va l) (hX : w.heap.size + 4 ≤ X.heap.size) {n m : Nat} (hn : n ≤ va.kn) (hm : m ≤ va.nn) (hb : Below X.heap.size X Y) {xa : Option Addr} {xc : Nat}
    (ho : Y.ownsRow X.heap.size 63 3 (.slice xa m xc) m (((l.nums.take m).map intN).flatMap NumD.cells)) : LnN (Far 4 w) Y ⟨0, 0, va.ka, n, va.kc, xa, m, xc⟩ (oneLn l n m) := by
  have h0 := h.kn
  have hs := h.key
  rw [h0.1] at hs
  have h2 := SlS.take hs (k := n) (by omega)
  rw [flat_take 2 ValD.cells ValD.cells_len] at h2
  refine ⟨?_, ?_, fun x hx => ?_⟩
  · show SlS _ Y _ (l.key.take n).length 2 _
    rw [show (l.key.take n).length = n by rw [List.length_take]; omega]
    exact h2.keep (fun _ h => h) (fun b _ hl => hb.block b hl)
  · have := SlS.own ho
    have e : m = ((l.nums.take m).map intN).length := by rw [List.length_map, List.length_take]; omega
    show SlS _ Y _ ((l.nums.take m).map intN).length 3 _
    rw [← e]
    exact this.keep (fun b h => .inr (by have := (ho.lt b h).1; omega)) (fun _ _ _ => rfl)
  · obtain ⟨y, hy, rfl⟩ := List.mem_map.1 hx
    exact ⟨(by decide : I64 0), (h.ok y (List.mem_of_mem_take hy)).2⟩
theorem one_form {l : LineD} {n m : Nat} (hn : n ≤ l.key.length) (hm : m ≤ l.nums.length) : FormL n (List.replicate m true) (oneLn l n m) := by
  refine ⟨by simp [oneLn]; omega, ?_⟩
  show ((l.nums.take m).map intN).map NumD.fl = _
  rw [List.map_map]
  have : (NumD.fl ∘ intN) = fun _ => true := rfl
  rw [this, List.map_const', List.length_take, Nat.min_eq_left hm]
/-- A query and three lines in their boxes. -/
structure OneSt (w X : World) (q : QryV) (d : QryD) (a : LnV) (la : LineD) (b : LnV) (lb : LineD) (c : LnV) (lc : LineD) : Prop where
  bq : X.heap[w.heap.size]? = some (.cells q.cells 33 (0, 0))
  ba : X.heap[w.heap.size + 1]? = some (.cells a.cells 37 (0, 0))
  bb : X.heap[w.heap.size + 1 + 1]? = some (.cells b.cells 37 (0, 0))
  bc : X.heap[w.heap.size + 1 + 1 + 1]? = some (.cells c.cells 37 (0, 0))
  nq : QryN (Far 4 w) X q d
  na : LnN (Far 4 w) X a la
  nb : LnN (Far 4 w) X b lb
  nc : LnN (Far 4 w) X c lc
  bel : Below w.heap.size w X
section
variable {w X Y : World} {q q' : QryV} {d d' : QryD} {a b c a' : LnV} {la lb lc l' : LineD}
theorem OneSt.step (h : OneSt w X q d a la b lb c lc) (hb : Below X.heap.size X Y) : OneSt w Y q d a la b lb c lc :=
  ⟨blk_below h.bq hb, blk_below h.ba hb, blk_below h.bb hb, blk_below h.bc hb, h.nq.below hb, h.na.below hb, h.nb.below hb, h.nc.below hb, h.bel.step hb⟩
theorem OneSt.size (h : OneSt w X q d a la b lb c lc) : w.heap.size + 4 ≤ X.heap.size := by have := lt_of_block h.bc; omega
theorem far_keep {k : Nat} (h : X.grownBy Y (some k)) (hk : w.heap.size ≤ k ∧ k < w.heap.size + 4) : ∀ b, Far 4 w b → b < X.heap.size → Y.heap[b]? = X.heap[b]? := fun b hb hl => h.block b hl (fun e => by
  have := Option.some.inj e
  unfold Far at hb
  omega)
theorem grown_below {k : Nat} (h : X.grownBy Y (some k)) (hk : w.heap.size ≤ k) (hb : Below w.heap.size w X) : Below w.heap.size w Y := hb.grown h hb.size (fun r e => by have := Option.some.inj e; omega)
theorem OneSt.putQ (h : OneSt w X q d a la b lb c lc) (hn : QryN (Far 4 w) X q' d') (hg : X.grownBy Y (some w.heap.size)) (hq : Y.heap[w.heap.size]? = some (.cells q'.cells 33 (0, 0))) : OneSt w Y q' d' a la b lb c lc := by
  have hs := h.size
  have hk := far_keep (w := w) hg (by omega)
  have hb : ∀ k, k < w.heap.size + 4 → k ≠ w.heap.size → Y.heap[k]? = X.heap[k]? := fun k h1 h2 => hg.block k (by omega) (fun e => h2 (Option.some.inj e))
  exact ⟨hq, (hb _ (by omega) (by omega)).trans h.ba, (hb _ (by omega) (by omega)).trans h.bb, (hb _ (by omega) (by omega)).trans h.bc, hn.keep (fun _ h => h) hk, h.na.keep (fun _ h => h) hk, h.nb.keep (fun _ h => h) hk, h.nc.keep (fun _ h => h) hk, grown_below hg (Nat.le_refl _) h.bel⟩
theorem OneSt.putA (h : OneSt w X q d a la b lb c lc) (hn : LnN (Far 4 w) X a' l') (hg : X.grownBy Y (some (w.heap.size + 1))) (hq : Y.heap[w.heap.size + 1]? = some (.cells a'.cells 37 (0, 0))) : OneSt w Y q d a' l' b lb c lc := by
  have hs := h.size
  have hk := far_keep (w := w) hg (by omega)
  have hb : ∀ k, k < w.heap.size + 4 → k ≠ w.heap.size + 1 → Y.heap[k]? = X.heap[k]? := fun k h1 h2 => hg.block k (by omega) (fun e => h2 (Option.some.inj e))
  exact ⟨(hb _ (by omega) (by omega)).trans h.bq, hq, (hb _ (by omega) (by omega)).trans h.bb, (hb _ (by omega) (by omega)).trans h.bc, h.nq.keep (fun _ h => h) hk, hn.keep (fun _ h => h) hk, h.nb.keep (fun _ h => h) hk, h.nc.keep (fun _ h => h) hk, grown_below hg (by omega) h.bel⟩
theorem OneSt.putB (h : OneSt w X q d a la b lb c lc) (hn : LnN (Far 4 w) X a' l') (hg : X.grownBy Y (some (w.heap.size + 1 + 1))) (hq : Y.heap[w.heap.size + 1 + 1]? = some (.cells a'.cells 37 (0, 0))) : OneSt w Y q d a la a' l' c lc := by
  have hs := h.size
  have hk := far_keep (w := w) hg (by omega)
  have hb : ∀ k, k < w.heap.size + 4 → k ≠ w.heap.size + 1 + 1 → Y.heap[k]? = X.heap[k]? := fun k h1 h2 => hg.block k (by omega) (fun e => h2 (Option.some.inj e))
  exact ⟨(hb _ (by omega) (by omega)).trans h.bq, (hb _ (by omega) (by omega)).trans h.ba, hq, (hb _ (by omega) (by omega)).trans h.bc, h.nq.keep (fun _ h => h) hk, h.na.keep (fun _ h => h) hk, hn.keep (fun _ h => h) hk, h.nc.keep (fun _ h => h) hk, grown_below hg (by omega) h.bel⟩
theorem OneSt.putC (h : OneSt w X q d a la b lb c lc) (hn : LnN (Far 4 w) X a' l') (hg : X.grownBy Y (some (w.heap.size + 1 + 1 + 1))) (hq : Y.heap[w.heap.size + 1 + 1 + 1]? = some (.cells a'.cells 37 (0, 0))) : OneSt w Y q d a la b lb a' l' := by
  have hs := h.size
  have hk := far_keep (w := w) hg (by omega)
  have hb : ∀ k, k < w.heap.size + 4 → k ≠ w.heap.size + 1 + 1 + 1 → Y.heap[k]? = X.heap[k]? := fun k h1 h2 => hg.block k (by omega) (fun e => h2 (Option.some.inj e))
  exact ⟨(hb _ (by omega) (by omega)).trans h.bq, (hb _ (by omega) (by omega)).trans h.ba, (hb _ (by omega) (by omega)).trans h.bb, hq, h.nq.keep (fun _ h => h) hk, h.na.keep (fun _ h => h) hk, h.nb.keep (fun _ h => h) hk, hn.keep (fun _ h => h) hk, grown_below hg (by omega) h.bel⟩
end
end Go.Proofs.YtejleplhmkmegaaGreatDoor
/- Order: the walk of OrderOne. -/
namespace Go.Proofs.YtejleplhmkmegaaGreatDoor
set_option linter.unusedVariables false
set_option linter.unusedSimpArgs false
set_option maxRecDepth 100000
open Go.ChangeShapes Go.WideShapes Go.ChangeAt Go.RowKit Go.Fl

theorem qcells_one (q : QryV) : q.cells.all (·.oneCell') = true := by simp [QryV.cells, Value.oneCell']
theorem lcells_one (l : LnV) : l.cells.all (·.oneCell') = true := by simp [LnV.cells, Value.oneCell']
theorem qinfo (q : QryV) : (Tryz.prog.info? 33).map (·.size) = some q.cells.size := by show _ = some 14; kernel_rfl
theorem linfo (l : LnV) : (Tryz.prog.info? 37).map (·.size) = some l.cells.size := by show _ = some 4; kernel_rfl
theorem linfo4 : (Tryz.prog.info? 37).map (·.size) = some 4 := by kernel_rfl
theorem far_of {w X : World} {b : Nat} (hX : w.heap.size + 4 ≤ X.heap.size) (h : Far 4 w b ∧ b < X.heap.size ∨ X.heap.size + 1 + 1 ≤ b) : Far 4 w b := by unfold Far at *; omega
set_option maxHeartbeats 8000000 in
theorem OrderOne_core (q : QryV) (d : QryD) (va vb vc : LnV) (la lb lc : LineD) (w : World) (hT : Tabs w) (hq : QryIs w q d) (ok : QryOk d) (ha : LnIs w va la) (hb : LnIs w vb lb) (hc : LnIs w vc lc)
    (sa : ∀ x ∈ la.key, x.s.size ≤ 9223372036854775807) (sb : ∀ x ∈ lb.key, x.s.size ≤ 9223372036854775807) (sc : ∀ x ∈ lc.key, x.s.size ≤ 9223372036854775807) :
    Calls Tryz.prog 3 #[.agg q.cells, .agg va.cells, .agg vb.cells, .agg vc.cells] w fun e w' => e = .returned (.bool true) ∧ Below w.heap.size w w' := by
  have HT := hid hT
  have SH := hid (fun W (h : Below w.heap.size w W) => shown18_any W (HT.out.below h (Nat.le_refl _)))
  have F15 := hid (fun W (h : QryN (Far 4 w) W q d) => few15_any _ q d W h ok)
  have FA := hid (fun W (h : LnN (Far 4 w) W va la) => fewLn_any _ va la W h sa)
  have FB := hid (fun W (h : LnN (Far 4 w) W vb lb) => fewLn_any _ vb lb W h sb)
  have FC := hid (fun W (h : LnN (Far 4 w) W vc lc) => fewLn_any _ vc lc W h sc)
  have H0 := hid (show ∀ X, X = ((((w.alloc (.cells q.cells 33)).alloc (.cells va.cells 37)).alloc (.cells vb.cells 37)).alloc (.cells vc.cells 37)) → OneSt w X q d va la vb lb vc lc from fun X hX => by
    subst hX
    have hB : Below w.heap.size w ((((w.alloc (.cells q.cells 33)).alloc (.cells va.cells 37)).alloc (.cells vb.cells 37)).alloc (.cells vc.cells 37)) := by (repeat' (first | (with_reducible exact Below.refl _ _) | (with_reducible assumption) | (with_reducible refine Below.new ?_ _) | (with_reducible refine Below.alloc ?_ ?_ _) | (with_reducible refine Below.drew ?_) | (with_reducible refine Below.drewN ?_ _) | (with_reducible refine Below.setCell ?_ ?_ _) | (refine Below.step ?_ (by assumption)) | go_size))
    exact ⟨by (simp (disch := first | omega | (simp only [World.size_alloc, World.size_setCell, World.size_drew]; done) | (simp only [World.size_alloc, World.size_setCell, World.size_drew]; omega)) only [heap_at, heap_past, heap_set_other, heap_set_same]), by (simp (disch := first | omega | (simp only [World.size_alloc, World.size_setCell, World.size_drew]; done) | (simp only [World.size_alloc, World.size_setCell, World.size_drew]; omega)) only [heap_at, heap_past, heap_set_other, heap_set_same]), by (simp (disch := first | omega | (simp only [World.size_alloc, World.size_setCell, World.size_drew]; done) | (simp only [World.size_alloc, World.size_setCell, World.size_drew]; omega)) only [heap_at, heap_past, heap_set_other, heap_set_same]), by (simp (disch := first | omega | (simp only [World.size_alloc, World.size_setCell, World.size_drew]; done) | (simp only [World.size_alloc, World.size_setCell, World.size_drew]; omega)) only [heap_at, heap_past, heap_set_other, heap_set_same]), hq.all.keep (fun b h => .inl h) (fun b h _ => hB.block b h), ha.all.keep (fun b h => .inl h) (fun b h _ => hB.block b h), hb.all.keep (fun b h => .inl h) (fun b h _ => hB.block b h), hc.all.keep (fun b h => .inl h) (fun b h _ => hB.block b h), hB⟩)
  clear hT hq ha hb hc ok sa sb sc
  go_enter Tryz.func3, Tryz.ntmps3
  have im := ite_min
  go_upto_region 8 with (first
    | (go_at_call 8; go_loud ((with_reducible refine (SH.out _ (H0.out _ rfl).bel).mono ?_); rintro e x1 ⟨rfl, hb1⟩; have s1 := hid ((H0.out _ rfl).step hb1); clear hb1))
    | (refine wpList_load_row rfl _ _ rfl _ rfl _ _ _ _ s1.out.bq Tryz.underlying33 rfl (qinfo _) ?_)
    | (go_at_call 9; go_loud ((with_reducible refine (F15.out _ s1.out.nq).mono ?_); rintro e x2 ⟨q1, rfl, hn, hb2⟩; have s2 := hid (s1.out.step hb2); have n2 := hid (hn.keep (fun b h => far_of s1.out.size h) (fun _ _ _ => rfl)); clear hn hb2))
    | (refine wpList_store_blk rfl _ _ _ rfl _ _ rfl rfl _ _ s2.out.bq (qinfo _) rfl (qcells_one _) ?_; intro x3 hh3 hg3 hz3; have s3 := hid (s2.out.putQ n2.out hg3 hh3); clear hh3 hg3 hz3 s2 n2 s1)
    | (refine wpList_load_row rfl _ _ rfl _ rfl _ _ _ _ s3.out.ba Tryz.underlying37 rfl (linfo _) ?_)
    | (go_at_call 10; go_loud ((with_reducible refine (FA.out _ s3.out.na).mono ?_); rintro e x4 ⟨⟨ast, atm, aka, akn, akc, ana, ann, anc⟩, rfl, hn, hb2⟩; have s4 := hid (s3.out.step hb2); have n4 := hid (hn.keep (fun b h => far_of s3.out.size h) (fun _ _ _ => rfl)); clear hn hb2))
    | (refine wpList_store_blk rfl _ _ _ rfl _ _ rfl rfl _ _ s4.out.ba (linfo _) rfl (lcells_one _) ?_; intro x5 hh3 hg3 hz3; have s5 := hid (s4.out.putA n4.out hg3 hh3); clear hh3 hg3 hz3 s4 n4 s3)
    | (refine wpList_load_row rfl _ _ rfl _ rfl _ _ _ _ s5.out.bb Tryz.underlying37 rfl (linfo _) ?_)
    | (go_at_call 10; go_loud ((with_reducible refine (FB.out _ s5.out.nb).mono ?_); rintro e x6 ⟨⟨bst, btm, bka, bkn, bkc, bna, bnn, bnc⟩, rfl, hn, hb2⟩; have s6 := hid (s5.out.step hb2); have n6 := hid (hn.keep (fun b h => far_of s5.out.size h) (fun _ _ _ => rfl)); clear hn hb2))
    | (refine wpList_store_blk rfl _ _ _ rfl _ _ rfl rfl _ _ s6.out.bb (linfo _) rfl (lcells_one _) ?_; intro x7 hh3 hg3 hz3; have s7 := hid (s6.out.putB n6.out hg3 hh3); clear hh3 hg3 hz3 s6 n6 s5)
    | (refine wpList_load_row rfl _ _ rfl _ rfl _ _ _ _ s7.out.bc Tryz.underlying37 rfl (linfo _) ?_)
    | (go_at_call 10; go_loud ((with_reducible refine (FC.out _ s7.out.nc).mono ?_); rintro e x8 ⟨⟨cst, ctm, cka, ckn, ckc, cna, cnn, cnc⟩, rfl, hn, hb2⟩; have s8 := hid (s7.out.step hb2); have n8 := hid (hn.keep (fun b h => far_of s7.out.size h) (fun _ _ _ => rfl)); clear hn hb2))
    | (refine wpList_store_blk rfl _ _ _ rfl _ _ rfl rfl _ _ s8.out.bc (linfo _) rfl (lcells_one _) ?_; intro x9 hh3 hg3 hz3; have s9 := hid (s8.out.putC n8.out hg3 hh3); clear hh3 hg3 hz3 s8 n8 s7; have a_2 : x9.cell? ⟨w.heap.size + 1, 2, none⟩ = some (.slice aka akn akc) := cell_blk s9.out.ba rfl; have a_3 : x9.cell? ⟨w.heap.size + 1, 3, none⟩ = some (.slice ana ann anc) := cell_blk s9.out.ba rfl; have b_2 : x9.cell? ⟨w.heap.size + 1 + 1, 2, none⟩ = some (.slice bka bkn bkc) := cell_blk s9.out.bb rfl; have b_3 : x9.cell? ⟨w.heap.size + 1 + 1, 3, none⟩ = some (.slice bna bnn bnc) := cell_blk s9.out.bb rfl; have c_2 : x9.cell? ⟨w.heap.size + 1 + 1 + 1, 2, none⟩ = some (.slice cka ckn ckc) := cell_blk s9.out.bc rfl; have c_3 : x9.cell? ⟨w.heap.size + 1 + 1 + 1, 3, none⟩ = some (.slice cna cnn cnc) := cell_blk s9.out.bc rfl))
  have L1 := hid (s9.out.na.kn); have L2 := hid (s9.out.nb.kn); have L3 := hid (s9.out.nc.kn)
  dsimp only at L1 L2 L3
  obtain ⟨n, hn, hn1, hn2, hn3⟩ : ∃ n : Nat, min (if bkn < akn then (bkn : Int) else akn) ckn = n ∧ n ≤ akn ∧ n ≤ bkn ∧ n ≤ ckn := ⟨min (min akn bkn) ckn, by split <;> omega, by omega, by omega, by omega⟩
  obtain ⟨m, hm, hm1, hm2, hm3⟩ : ∃ m : Nat, min (if bnn < ann then (bnn : Int) else ann) cnn = m ∧ m ≤ ann ∧ m ≤ bnn ∧ m ≤ cnn := ⟨min (min ann bnn) cnn, by split <;> omega, by omega, by omega, by omega⟩
  rw [hn, hm]
  clear hn hm im
  have HN := hid (⟨hn1, hn2, hn3, hm1, hm2, hm3⟩ : _ ∧ _ ∧ _ ∧ _ ∧ _ ∧ _)
  have z0 : (0 : Int) ≤ (n : Int) := by omega
  have z1 : (0 : Int) ≤ (m : Int) := by omega
  have z2 : (n : Int) ≤ (akc : Int) := by have := L1.out; omega
  have z3 : (n : Int) ≤ (bkc : Int) := by have := L2.out; omega
  have z4 : (n : Int) ≤ (ckc : Int) := by have := L3.out; omega
  have z5 : (m : Int) ≤ (anc : Int) := by have := L1.out; omega
  have z6 : (m : Int) ≤ (bnc : Int) := by have := L2.out; omega
  have z7 : (m : Int) ≤ (cnc : Int) := by have := L3.out; omega
  have hS0 : (fun w' : World => w'.cell? ⟨w.heap.size + 1, 2, none⟩ = some (.slice aka akn akc) ∧ w'.cell? ⟨w.heap.size + 1, 3, none⟩ = some (.slice ana ann anc)) x9.drew := ⟨a_2, a_3⟩
  have IA1 := hid (fun W (h : Below x9.heap.size x9 W) => ints18_any _ _ W ((s9.out.na.cutN (m := m) (by have := HN.out; dsimp only; omega)).below h) (by have := s9.out.na.kn; have := List.length_take_le m (fewLn la).nums; have := List.length_take_le 10 la.nums; unfold fewLn at *; dsimp only at *; omega))
  dsimp only at IA1
  go_upto_region 8 with fail
  refine wp_region_some (fun w' : World => w'.cell? ⟨w.heap.size + 1, 2, none⟩ = some (.slice aka akn akc) ∧ w'.cell? ⟨w.heap.size + 1, 3, none⟩ = some (.slice ana ann anc)) [9, 10] (by kernel_rfl) ?_
  (refine wpMix_take (i := 0) (v := ?_) rfl (by kernel_rfl) (fun _ _ _ h => h) (Or.inl ⟨by rfl, ?_⟩) hS0 ?_; rotate_left 1; (focus (intro w hSw; (try dsimp only at hSw); go_simp; try (with_reducible rfl))); (try simp only [Act.put, List.setIfInBounds_toArray, List.set_cons_zero, List.set_cons_succ]))
  (refine wpMix_take (i := 1) (v := ?_) rfl (by kernel_rfl) (fun _ _ _ h => h) (Or.inl ⟨by rfl, ?_⟩) hS0 ?_; rotate_left 1; (focus (intro w hSw; (try dsimp only at hSw); go_simp; try (with_reducible rfl))); (try simp only [Act.put, List.setIfInBounds_toArray, List.set_cons_zero, List.set_cons_succ]))
  (refine wpMix_take (i := 2) (v := ?_) rfl (by kernel_rfl) (fun _ _ _ h => h) (Or.inl ⟨by rfl, ?_⟩) hS0 ?_; rotate_left 1; (focus (intro w hSw; (try dsimp only at hSw); go_simp; try (with_reducible rfl))); (try simp only [Act.put, List.setIfInBounds_toArray, List.set_cons_zero, List.set_cons_succ]))
  (refine wpMix_take (i := 3) (v := ?_) rfl (by kernel_rfl) (fun _ _ _ h => h) (Or.inl ⟨by rfl, ?_⟩) hS0 ?_; rotate_left 1; (focus (intro w hSw; (try dsimp only at hSw); go_simp; try (with_reducible rfl))); (try simp only [Act.put, List.setIfInBounds_toArray, List.set_cons_zero, List.set_cons_succ]))
  (refine wpMix_take (i := 4) (v := ?_) rfl (by kernel_rfl) (fun _ _ _ h => h) (Or.inl ⟨by rfl, ?_⟩) hS0 ?_; rotate_left 1; (focus (intro w hSw; (try dsimp only at hSw); go_simp; try (with_reducible rfl))); (try simp only [Act.put, List.setIfInBounds_toArray, List.set_cons_zero, List.set_cons_succ]))
  (refine wpMix_take (i := 5) (v := ?_) rfl (by kernel_rfl) (fun _ _ _ h => h) (Or.inl ⟨by rfl, ?_⟩) hS0 ?_; rotate_left 1; (focus (intro w hSw; (try dsimp only at hSw); go_simp; try (with_reducible rfl))); (try simp only [Act.put, List.setIfInBounds_toArray, List.set_cons_zero, List.set_cons_succ]))
  (refine wpMix_take (i := 6) (v := ?_) rfl (by kernel_rfl) (fun _ _ _ h => h) (Or.inl ⟨by rfl, ?_⟩) hS0 ?_; rotate_left 1; (focus (intro w hSw; (try dsimp only at hSw); go_simp; try (with_reducible rfl))); (try simp only [Act.put, List.setIfInBounds_toArray, List.set_cons_zero, List.set_cons_succ]))
  (refine wpMix_take (i := 7) (v := ?_) rfl (by kernel_rfl) (fun _ _ _ h => h) (Or.inl ⟨by rfl, ?_⟩) hS0 ?_; rotate_left 1; (focus (intro w hSw; (try dsimp only at hSw); go_simp; try (with_reducible rfl))); (try simp only [Act.put, List.setIfInBounds_toArray, List.set_cons_zero, List.set_cons_succ]))
  refine wpMix_next (t := 8) (by kernel_rfl) ?_
  simp only [opsAt, List.flatMap_cons, List.flatMap_nil, List.take_succ_cons, List.take_zero, List.drop_succ_cons, List.drop_zero, List.append_nil, List.cons_append, List.nil_append]
  go_wp2_with (go_at_call 11; go_loud ((with_reducible refine (IA1.out _ (Below.drew (Below.refl _ _))).mono ?_); rintro e y1 ⟨v5, rfl, ho, hb5⟩))
  have hb1 : Below x9.heap.size x9 y1 := (Below.drew (Below.refl _ _)).trans hb5
  refine ⟨⟨cell_step a_2 hb1, cell_step a_3 hb1⟩, ?_⟩
  have el : (List.take m (fewLn la).nums).length = m := by have := HN.out; have := L1.out; rw [List.length_take]; omega
  rw [el] at ho
  clear el
  obtain ⟨xa1, xc1, e, _⟩ := SlAt.shape (SlAt.own ho)
  subst e
  have ts10 := hid (s9.out.step hb1)
  have ns10 := hid (one_line (n := n) s9.out.na s9.out.size (by have := HN.out; dsimp only; omega) (by have := HN.out; dsimp only; omega) hb1 ho)
  dsimp only at ns10
  have hqs10 := hid hb1
  clear ho hb5 hS0 a_2 a_3 IA1 hb1
  refine wpMix_rest [9, 10] (by kernel_rfl) ?_
  simp only [opsAt, List.flatMap_cons, List.flatMap_nil, List.take_succ_cons, List.take_zero, List.drop_succ_cons, List.drop_zero, List.append_nil, List.cons_append, List.nil_append]
  go_wp2_with (go_loud (refine wpList_store_blk rfl _ _ _ rfl _ _ rfl rfl _ _ ts10.out.ba (by exact linfo4) (by rfl) (by simp [Value.oneCell']) ?_; intro x10 hh3 hg3 hz3; have s10 := hid (ts10.out.putA ns10.out hg3 hh3); have b_2 : x10.cell? ⟨w.heap.size + 1 + 1, 2, none⟩ = some (.slice bka bkn bkc) := cell_blk s10.out.bb rfl; have b_3 : x10.cell? ⟨w.heap.size + 1 + 1, 3, none⟩ = some (.slice bna bnn bnc) := cell_blk s10.out.bb rfl; have c_2 : x10.cell? ⟨w.heap.size + 1 + 1 + 1, 2, none⟩ = some (.slice cka ckn ckc) := cell_blk s10.out.bc rfl; have c_3 : x10.cell? ⟨w.heap.size + 1 + 1 + 1, 3, none⟩ = some (.slice cna cnn cnc) := cell_blk s10.out.bc rfl; clear hh3 hg3 hz3 ts10 ns10 s9))
  have hS0 : (fun w' : World => w'.cell? ⟨w.heap.size + 1 + 1, 2, none⟩ = some (.slice bka bkn bkc) ∧ w'.cell? ⟨w.heap.size + 1 + 1, 3, none⟩ = some (.slice bna bnn bnc)) x10.drew := ⟨b_2, b_3⟩
  have IA2 := hid (fun W (h : Below x10.heap.size x10 W) => ints18_any _ _ W ((s10.out.nb.cutN (m := m) (by have := HN.out; dsimp only; omega)).below h) (by have := s10.out.nb.kn; have := List.length_take_le m (fewLn lb).nums; have := List.length_take_le 10 lb.nums; unfold fewLn at *; dsimp only at *; omega))
  dsimp only at IA2
  go_upto_region 9 with fail
  refine wp_region_some (fun w' : World => w'.cell? ⟨w.heap.size + 1 + 1, 2, none⟩ = some (.slice bka bkn bkc) ∧ w'.cell? ⟨w.heap.size + 1 + 1, 3, none⟩ = some (.slice bna bnn bnc)) [9, 10] (by kernel_rfl) ?_
  (refine wpMix_take (i := 0) (v := ?_) rfl (by kernel_rfl) (fun _ _ _ h => h) (Or.inl ⟨by rfl, ?_⟩) hS0 ?_; rotate_left 1; (focus (intro w hSw; (try dsimp only at hSw); go_simp; try (with_reducible rfl))); (try simp only [Act.put, List.setIfInBounds_toArray, List.set_cons_zero, List.set_cons_succ]))
  (refine wpMix_take (i := 1) (v := ?_) rfl (by kernel_rfl) (fun _ _ _ h => h) (Or.inl ⟨by rfl, ?_⟩) hS0 ?_; rotate_left 1; (focus (intro w hSw; (try dsimp only at hSw); go_simp; try (with_reducible rfl))); (try simp only [Act.put, List.setIfInBounds_toArray, List.set_cons_zero, List.set_cons_succ]))
  (refine wpMix_take (i := 2) (v := ?_) rfl (by kernel_rfl) (fun _ _ _ h => h) (Or.inl ⟨by rfl, ?_⟩) hS0 ?_; rotate_left 1; (focus (intro w hSw; (try dsimp only at hSw); go_simp; try (with_reducible rfl))); (try simp only [Act.put, List.setIfInBounds_toArray, List.set_cons_zero, List.set_cons_succ]))
  (refine wpMix_take (i := 3) (v := ?_) rfl (by kernel_rfl) (fun _ _ _ h => h) (Or.inl ⟨by rfl, ?_⟩) hS0 ?_; rotate_left 1; (focus (intro w hSw; (try dsimp only at hSw); go_simp; try (with_reducible rfl))); (try simp only [Act.put, List.setIfInBounds_toArray, List.set_cons_zero, List.set_cons_succ]))
  (refine wpMix_take (i := 4) (v := ?_) rfl (by kernel_rfl) (fun _ _ _ h => h) (Or.inl ⟨by rfl, ?_⟩) hS0 ?_; rotate_left 1; (focus (intro w hSw; (try dsimp only at hSw); go_simp; try (with_reducible rfl))); (try simp only [Act.put, List.setIfInBounds_toArray, List.set_cons_zero, List.set_cons_succ]))
  (refine wpMix_take (i := 5) (v := ?_) rfl (by kernel_rfl) (fun _ _ _ h => h) (Or.inl ⟨by rfl, ?_⟩) hS0 ?_; rotate_left 1; (focus (intro w hSw; (try dsimp only at hSw); go_simp; try (with_reducible rfl))); (try simp only [Act.put, List.setIfInBounds_toArray, List.set_cons_zero, List.set_cons_succ]))
  (refine wpMix_take (i := 6) (v := ?_) rfl (by kernel_rfl) (fun _ _ _ h => h) (Or.inl ⟨by rfl, ?_⟩) hS0 ?_; rotate_left 1; (focus (intro w hSw; (try dsimp only at hSw); go_simp; try (with_reducible rfl))); (try simp only [Act.put, List.setIfInBounds_toArray, List.set_cons_zero, List.set_cons_succ]))
  (refine wpMix_take (i := 7) (v := ?_) rfl (by kernel_rfl) (fun _ _ _ h => h) (Or.inl ⟨by rfl, ?_⟩) hS0 ?_; rotate_left 1; (focus (intro w hSw; (try dsimp only at hSw); go_simp; try (with_reducible rfl))); (try simp only [Act.put, List.setIfInBounds_toArray, List.set_cons_zero, List.set_cons_succ]))
  refine wpMix_next (t := 8) (by kernel_rfl) ?_
  simp only [opsAt, List.flatMap_cons, List.flatMap_nil, List.take_succ_cons, List.take_zero, List.drop_succ_cons, List.drop_zero, List.append_nil, List.cons_append, List.nil_append]
  go_wp2_with (go_at_call 11; go_loud ((with_reducible refine (IA2.out _ (Below.drew (Below.refl _ _))).mono ?_); rintro e y2 ⟨v5, rfl, ho, hb5⟩))
  have hb2 : Below x10.heap.size x10 y2 := (Below.drew (Below.refl _ _)).trans hb5
  refine ⟨⟨cell_step b_2 hb2, cell_step b_3 hb2⟩, ?_⟩
  have el : (List.take m (fewLn lb).nums).length = m := by have := HN.out; have := L2.out; rw [List.length_take]; omega
  rw [el] at ho
  clear el
  obtain ⟨xa2, xc2, e, _⟩ := SlAt.shape (SlAt.own ho)
  subst e
  have ts11 := hid (s10.out.step hb2)
  have ns11 := hid (one_line (n := n) s10.out.nb s10.out.size (by have := HN.out; dsimp only; omega) (by have := HN.out; dsimp only; omega) hb2 ho)
  dsimp only at ns11
  have hqs11 := hid hb2
  clear ho hb5 hS0 b_2 b_3 IA2 hb2
  refine wpMix_rest [9, 10] (by kernel_rfl) ?_
  simp only [opsAt, List.flatMap_cons, List.flatMap_nil, List.take_succ_cons, List.take_zero, List.drop_succ_cons, List.drop_zero, List.append_nil, List.cons_append, List.nil_append]
  go_wp2_with (go_loud (refine wpList_store_blk rfl _ _ _ rfl _ _ rfl rfl _ _ ts11.out.bb (by exact linfo4) (by rfl) (by simp [Value.oneCell']) ?_; intro x11 hh3 hg3 hz3; have s11 := hid (ts11.out.putB ns11.out hg3 hh3); have c_2 : x11.cell? ⟨w.heap.size + 1 + 1 + 1, 2, none⟩ = some (.slice cka ckn ckc) := cell_blk s11.out.bc rfl; have c_3 : x11.cell? ⟨w.heap.size + 1 + 1 + 1, 3, none⟩ = some (.slice cna cnn cnc) := cell_blk s11.out.bc rfl; clear hh3 hg3 hz3 ts11 ns11 s10))
  have hS0 : (fun w' : World => w'.cell? ⟨w.heap.size + 1 + 1 + 1, 2, none⟩ = some (.slice cka ckn ckc) ∧ w'.cell? ⟨w.heap.size + 1 + 1 + 1, 3, none⟩ = some (.slice cna cnn cnc)) x11.drew := ⟨c_2, c_3⟩
  have IA3 := hid (fun W (h : Below x11.heap.size x11 W) => ints18_any _ _ W ((s11.out.nc.cutN (m := m) (by have := HN.out; dsimp only; omega)).below h) (by have := s11.out.nc.kn; have := List.length_take_le m (fewLn lc).nums; have := List.length_take_le 10 lc.nums; unfold fewLn at *; dsimp only at *; omega))
  dsimp only at IA3
  go_upto_region 10 with fail
  refine wp_region_some (fun w' : World => w'.cell? ⟨w.heap.size + 1 + 1 + 1, 2, none⟩ = some (.slice cka ckn ckc) ∧ w'.cell? ⟨w.heap.size + 1 + 1 + 1, 3, none⟩ = some (.slice cna cnn cnc)) [9, 10] (by kernel_rfl) ?_
  (refine wpMix_take (i := 0) (v := ?_) rfl (by kernel_rfl) (fun _ _ _ h => h) (Or.inl ⟨by rfl, ?_⟩) hS0 ?_; rotate_left 1; (focus (intro w hSw; (try dsimp only at hSw); go_simp; try (with_reducible rfl))); (try simp only [Act.put, List.setIfInBounds_toArray, List.set_cons_zero, List.set_cons_succ]))
  (refine wpMix_take (i := 1) (v := ?_) rfl (by kernel_rfl) (fun _ _ _ h => h) (Or.inl ⟨by rfl, ?_⟩) hS0 ?_; rotate_left 1; (focus (intro w hSw; (try dsimp only at hSw); go_simp; try (with_reducible rfl))); (try simp only [Act.put, List.setIfInBounds_toArray, List.set_cons_zero, List.set_cons_succ]))
  (refine wpMix_take (i := 2) (v := ?_) rfl (by kernel_rfl) (fun _ _ _ h => h) (Or.inl ⟨by rfl, ?_⟩) hS0 ?_; rotate_left 1; (focus (intro w hSw; (try dsimp only at hSw); go_simp; try (with_reducible rfl))); (try simp only [Act.put, List.setIfInBounds_toArray, List.set_cons_zero, List.set_cons_succ]))
  (refine wpMix_take (i := 3) (v := ?_) rfl (by kernel_rfl) (fun _ _ _ h => h) (Or.inl ⟨by rfl, ?_⟩) hS0 ?_; rotate_left 1; (focus (intro w hSw; (try dsimp only at hSw); go_simp; try (with_reducible rfl))); (try simp only [Act.put, List.setIfInBounds_toArray, List.set_cons_zero, List.set_cons_succ]))
  (refine wpMix_take (i := 4) (v := ?_) rfl (by kernel_rfl) (fun _ _ _ h => h) (Or.inl ⟨by rfl, ?_⟩) hS0 ?_; rotate_left 1; (focus (intro w hSw; (try dsimp only at hSw); go_simp; try (with_reducible rfl))); (try simp only [Act.put, List.setIfInBounds_toArray, List.set_cons_zero, List.set_cons_succ]))
  (refine wpMix_take (i := 5) (v := ?_) rfl (by kernel_rfl) (fun _ _ _ h => h) (Or.inl ⟨by rfl, ?_⟩) hS0 ?_; rotate_left 1; (focus (intro w hSw; (try dsimp only at hSw); go_simp; try (with_reducible rfl))); (try simp only [Act.put, List.setIfInBounds_toArray, List.set_cons_zero, List.set_cons_succ]))
  (refine wpMix_take (i := 6) (v := ?_) rfl (by kernel_rfl) (fun _ _ _ h => h) (Or.inl ⟨by rfl, ?_⟩) hS0 ?_; rotate_left 1; (focus (intro w hSw; (try dsimp only at hSw); go_simp; try (with_reducible rfl))); (try simp only [Act.put, List.setIfInBounds_toArray, List.set_cons_zero, List.set_cons_succ]))
  (refine wpMix_take (i := 7) (v := ?_) rfl (by kernel_rfl) (fun _ _ _ h => h) (Or.inl ⟨by rfl, ?_⟩) hS0 ?_; rotate_left 1; (focus (intro w hSw; (try dsimp only at hSw); go_simp; try (with_reducible rfl))); (try simp only [Act.put, List.setIfInBounds_toArray, List.set_cons_zero, List.set_cons_succ]))
  refine wpMix_next (t := 8) (by kernel_rfl) ?_
  simp only [opsAt, List.flatMap_cons, List.flatMap_nil, List.take_succ_cons, List.take_zero, List.drop_succ_cons, List.drop_zero, List.append_nil, List.cons_append, List.nil_append]
  go_wp2_with (go_at_call 11; go_loud ((with_reducible refine (IA3.out _ (Below.drew (Below.refl _ _))).mono ?_); rintro e y3 ⟨v5, rfl, ho, hb5⟩))
  have hb3 : Below x11.heap.size x11 y3 := (Below.drew (Below.refl _ _)).trans hb5
  refine ⟨⟨cell_step c_2 hb3, cell_step c_3 hb3⟩, ?_⟩
  have el : (List.take m (fewLn lc).nums).length = m := by have := HN.out; have := L3.out; rw [List.length_take]; omega
  rw [el] at ho
  clear el
  obtain ⟨xa3, xc3, e, _⟩ := SlAt.shape (SlAt.own ho)
  subst e
  have ts12 := hid (s11.out.step hb3)
  have ns12 := hid (one_line (n := n) s11.out.nc s11.out.size (by have := HN.out; dsimp only; omega) (by have := HN.out; dsimp only; omega) hb3 ho)
  dsimp only at ns12
  have hqs12 := hid hb3
  clear ho hb5 hS0 c_2 c_3 IA3 hb3
  refine wpMix_rest [9, 10] (by kernel_rfl) ?_
  simp only [opsAt, List.flatMap_cons, List.flatMap_nil, List.take_succ_cons, List.take_zero, List.drop_succ_cons, List.drop_zero, List.append_nil, List.cons_append, List.nil_append]
  go_upto_region 11 with (go_loud (refine wpList_store_blk rfl _ _ _ rfl _ _ rfl rfl _ _ ts12.out.bc (by exact linfo4) (by rfl) (by simp [Value.oneCell']) ?_; intro x12 hh3 hg3 hz3; have s12 := hid (ts12.out.putC ns12.out hg3 hh3);  clear hh3 hg3 hz3 ts12 ns12 s11))
  have q_0 : x12.cell? ⟨w.heap.size, 0, none⟩ = some (.slice q1.aa q1.an q1.ac) := cell_blk s12.out.bq rfl
  have q_1 : x12.cell? ⟨w.heap.size, 1, none⟩ = some (.slice q1.ba q1.bn q1.bc) := cell_blk s12.out.bq rfl
  have q_2 : x12.cell? ⟨w.heap.size, 2, none⟩ = some (.int .i64 q1.mode) := cell_blk s12.out.bq rfl
  have q_3 : x12.cell? ⟨w.heap.size, 3, none⟩ = some (.slice q1.sa q1.sn q1.sc) := cell_blk s12.out.bq rfl
  have q_4 : x12.cell? ⟨w.heap.size, 4, none⟩ = some (.int .i64 q1.every) := cell_blk s12.out.bq rfl
  have q_5 : x12.cell? ⟨w.heap.size, 5, none⟩ = some (.int .i64 q1.kind) := cell_blk s12.out.bq rfl
  have q_6 : x12.cell? ⟨w.heap.size, 6, none⟩ = some (.string q1.name) := cell_blk s12.out.bq rfl
  have q_7 : x12.cell? ⟨w.heap.size, 7, none⟩ = some (.slice q1.wa q1.wn q1.wc) := cell_blk s12.out.bq rfl
  have q_8 : x12.cell? ⟨w.heap.size, 8, none⟩ = some (.int .i64 q1.fr) := cell_blk s12.out.bq rfl
  have q_9 : x12.cell? ⟨w.heap.size, 9, none⟩ = some (.int .i64 q1.till) := cell_blk s12.out.bq rfl
  have q_10 : x12.cell? ⟨w.heap.size, 10, none⟩ = some (.slice q1.la q1.ln q1.lc) := cell_blk s12.out.bq rfl
  have q_11 : x12.cell? ⟨w.heap.size, 11, none⟩ = some (.slice q1.ha q1.hn q1.hc) := cell_blk s12.out.bq rfl
  have q_12 : x12.cell? ⟨w.heap.size, 12, none⟩ = some (.slice q1.oa q1.on q1.oc) := cell_blk s12.out.bq rfl
  have q_13 : x12.cell? ⟨w.heap.size, 13, none⟩ = some (.int .i64 q1.limit) := cell_blk s12.out.bq rfl
  have a_0 : x12.cell? ⟨w.heap.size + 1, 0, none⟩ = some (.int .i64 0) := cell_blk s12.out.ba rfl
  have a_1 : x12.cell? ⟨w.heap.size + 1, 1, none⟩ = some (.int .i64 0) := cell_blk s12.out.ba rfl
  have a_2 : x12.cell? ⟨w.heap.size + 1, 2, none⟩ = some (.slice aka n akc) := cell_blk s12.out.ba rfl
  have a_3 : x12.cell? ⟨w.heap.size + 1, 3, none⟩ = some (.slice xa1 m xc1) := cell_blk s12.out.ba rfl
  have b_0 : x12.cell? ⟨w.heap.size + 1 + 1, 0, none⟩ = some (.int .i64 0) := cell_blk s12.out.bb rfl
  have b_1 : x12.cell? ⟨w.heap.size + 1 + 1, 1, none⟩ = some (.int .i64 0) := cell_blk s12.out.bb rfl
  have b_2 : x12.cell? ⟨w.heap.size + 1 + 1, 2, none⟩ = some (.slice bka n bkc) := cell_blk s12.out.bb rfl
  have b_3 : x12.cell? ⟨w.heap.size + 1 + 1, 3, none⟩ = some (.slice xa2 m xc2) := cell_blk s12.out.bb rfl
  have c_0 : x12.cell? ⟨w.heap.size + 1 + 1 + 1, 0, none⟩ = some (.int .i64 0) := cell_blk s12.out.bc rfl
  have c_1 : x12.cell? ⟨w.heap.size + 1 + 1 + 1, 1, none⟩ = some (.int .i64 0) := cell_blk s12.out.bc rfl
  have c_2 : x12.cell? ⟨w.heap.size + 1 + 1 + 1, 2, none⟩ = some (.slice cka n ckc) := cell_blk s12.out.bc rfl
  have c_3 : x12.cell? ⟨w.heap.size + 1 + 1 + 1, 3, none⟩ = some (.slice xa3 m xc3) := cell_blk s12.out.bc rfl
  have fa : FormL n (List.replicate m true) (oneLn (fewLn la) n m) := one_form (by have := HN.out; have := L1.out; omega) (by have := HN.out; have := L1.out; omega)
  have fb : FormL n (List.replicate m true) (oneLn (fewLn lb) n m) := one_form (by have := HN.out; have := L2.out; omega) (by have := HN.out; have := L2.out; omega)
  have fc : FormL n (List.replicate m true) (oneLn (fewLn lc) n m) := one_form (by have := HN.out; have := L3.out; omega) (by have := HN.out; have := L3.out; omega)
  have G := cmpK_good (fewQ d).order n (List.replicate m true)
  have hk6 : (fewQ d).order.length ≤ 1000000 := by show (d.order.take 10).length ≤ _; rw [List.length_take]; omega
  have Aab := hid (fun W (h : Below x12.heap.size x12 W) => ahead_any q1 (⟨0, 0, aka, n, akc, xa1, m, xc1⟩ : LnV) (⟨0, 0, bka, n, bkc, xa2, m, xc2⟩ : LnV) (fewQ d).order (oneLn (fewLn la) n m) (oneLn (fewLn lb) n m) W (SlAt.below s12.out.nq.order.sl h) hk6 (s12.out.na.is.below h) (s12.out.nb.is.below h))
  have Abc := hid (fun W (h : Below x12.heap.size x12 W) => ahead_any q1 (⟨0, 0, bka, n, bkc, xa2, m, xc2⟩ : LnV) (⟨0, 0, cka, n, ckc, xa3, m, xc3⟩ : LnV) (fewQ d).order (oneLn (fewLn lb) n m) (oneLn (fewLn lc) n m) W (SlAt.below s12.out.nq.order.sl h) hk6 (s12.out.nb.is.below h) (s12.out.nc.is.below h))
  have Aaa := hid (fun W (h : Below x12.heap.size x12 W) => ahead_any q1 (⟨0, 0, aka, n, akc, xa1, m, xc1⟩ : LnV) (⟨0, 0, aka, n, akc, xa1, m, xc1⟩ : LnV) (fewQ d).order (oneLn (fewLn la) n m) (oneLn (fewLn la) n m) W (SlAt.below s12.out.nq.order.sl h) hk6 (s12.out.na.is.below h) (s12.out.na.is.below h))
  have Aba := hid (fun W (h : Below x12.heap.size x12 W) => ahead_any q1 (⟨0, 0, bka, n, bkc, xa2, m, xc2⟩ : LnV) (⟨0, 0, aka, n, akc, xa1, m, xc1⟩ : LnV) (fewQ d).order (oneLn (fewLn lb) n m) (oneLn (fewLn la) n m) W (SlAt.below s12.out.nq.order.sl h) hk6 (s12.out.nb.is.below h) (s12.out.na.is.below h))
  have Aac := hid (fun W (h : Below x12.heap.size x12 W) => ahead_any q1 (⟨0, 0, aka, n, akc, xa1, m, xc1⟩ : LnV) (⟨0, 0, cka, n, ckc, xa3, m, xc3⟩ : LnV) (fewQ d).order (oneLn (fewLn la) n m) (oneLn (fewLn lc) n m) W (SlAt.below s12.out.nq.order.sl h) hk6 (s12.out.na.is.below h) (s12.out.nc.is.below h))
  dsimp only [QryV.cells, LnV.cells] at Aab Abc Aaa Aba Aac
  have e1 : decide (cmpK (fewQ d).order (oneLn (fewLn la) n m) (oneLn (fewLn la) n m) < 0) = false := by rw [G.self _ fa]; rfl
  have e2 : decide (cmpK (fewQ d).order (oneLn (fewLn la) n m) (oneLn (fewLn lb) n m) < 0) = true → decide (cmpK (fewQ d).order (oneLn (fewLn lb) n m) (oneLn (fewLn la) n m) < 0) = false := fun h => by have := of_decide_eq_true h; have h2 := G.anti _ _ fb fa; exact decide_eq_false (by omega)
  have e3 : decide (cmpK (fewQ d).order (oneLn (fewLn la) n m) (oneLn (fewLn lb) n m) < 0) = true → decide (cmpK (fewQ d).order (oneLn (fewLn lb) n m) (oneLn (fewLn lc) n m) < 0) = true → decide (cmpK (fewQ d).order (oneLn (fewLn la) n m) (oneLn (fewLn lc) n m) < 0) = true := fun h h' => decide_eq_true (G.lt fa fb fc (of_decide_eq_true h) (Int.le_of_lt (of_decide_eq_true h')))
  have HB := hid s12.out.bel
  have own0 := lt_of_block s12.out.bc
  have own1 := lt_of_block s12.out.bb
  have own2 := lt_of_block s12.out.ba
  have own3 := lt_of_block s12.out.bq
  rw [e1] at Aaa
  generalize decide (cmpK (fewQ d).order (oneLn (fewLn la) n m) (oneLn (fewLn lb) n m) < 0) = uab at *
  generalize decide (cmpK (fewQ d).order (oneLn (fewLn lb) n m) (oneLn (fewLn lc) n m) < 0) = ubc at *
  generalize decide (cmpK (fewQ d).order (oneLn (fewLn lb) n m) (oneLn (fewLn la) n m) < 0) = uba at *
  generalize decide (cmpK (fewQ d).order (oneLn (fewLn la) n m) (oneLn (fewLn lc) n m) < 0) = uac at *
  clear s12 G fa fb fc hk6 L1 L2 L3 HN z0 z1 z2 z3 z4 z5 z6 z7 hn1 hn2 hn3 hm1 hm2 hm3 hqs10 hqs11 hqs12 SH F15 FA FB FC H0 HT e1
  have hcase : (uab = true ∧ ubc = true ∧ uba = false ∧ uac = true) ∨ (uab = true ∧ ubc = false ∧ uba = false) ∨ (uab = false ∧ ubc = true) ∨ (uab = false ∧ ubc = false) := by
    cases uab <;> cases ubc <;> simp_all
  clear e2 e3
  rcases hcase with ⟨rfl, rfl, rfl, rfl⟩ | ⟨rfl, rfl, rfl⟩ | ⟨rfl, rfl⟩ | ⟨rfl, rfl⟩
  all_goals
    go_wp2_with (go_at_call 12; first | ((with_reducible refine (Aab.out _ (by (repeat' (first | (with_reducible exact Below.refl _ _) | (with_reducible assumption) | (with_reducible refine Below.new ?_ _) | (with_reducible refine Below.alloc ?_ ?_ _) | (with_reducible refine Below.drew ?_) | (with_reducible refine Below.drewN ?_ _) | (with_reducible refine Below.setCell ?_ ?_ _) | (refine Below.step ?_ (by assumption)) | go_size)))).mono ?_); rintro e y0 ⟨rfl, hby0⟩; obtain ⟨hcy0, hfy0, hky0, hzy0⟩ := bcell3 hby0; have : w.heap.size < y0.heap.size := (by omega); have : w.heap.size + 1 < y0.heap.size := (by omega); have : w.heap.size + 1 + 1 < y0.heap.size := (by omega); have : w.heap.size + 1 + 1 + 1 < y0.heap.size := (by omega)) | ((with_reducible refine (Abc.out _ (by (repeat' (first | (with_reducible exact Below.refl _ _) | (with_reducible assumption) | (with_reducible refine Below.new ?_ _) | (with_reducible refine Below.alloc ?_ ?_ _) | (with_reducible refine Below.drew ?_) | (with_reducible refine Below.drewN ?_ _) | (with_reducible refine Below.setCell ?_ ?_ _) | (refine Below.step ?_ (by assumption)) | go_size)))).mono ?_); rintro e y1 ⟨rfl, hby1⟩; obtain ⟨hcy1, hfy1, hky1, hzy1⟩ := bcell3 hby1; have : w.heap.size < y1.heap.size := (by omega); have : w.heap.size + 1 < y1.heap.size := (by omega); have : w.heap.size + 1 + 1 < y1.heap.size := (by omega); have : w.heap.size + 1 + 1 + 1 < y1.heap.size := (by omega)) | ((with_reducible refine (Aaa.out _ (by (repeat' (first | (with_reducible exact Below.refl _ _) | (with_reducible assumption) | (with_reducible refine Below.new ?_ _) | (with_reducible refine Below.alloc ?_ ?_ _) | (with_reducible refine Below.drew ?_) | (with_reducible refine Below.drewN ?_ _) | (with_reducible refine Below.setCell ?_ ?_ _) | (refine Below.step ?_ (by assumption)) | go_size)))).mono ?_); rintro e y2 ⟨rfl, hby2⟩; obtain ⟨hcy2, hfy2, hky2, hzy2⟩ := bcell3 hby2; have : w.heap.size < y2.heap.size := (by omega); have : w.heap.size + 1 < y2.heap.size := (by omega); have : w.heap.size + 1 + 1 < y2.heap.size := (by omega); have : w.heap.size + 1 + 1 + 1 < y2.heap.size := (by omega)) | ((with_reducible refine (Aba.out _ (by (repeat' (first | (with_reducible exact Below.refl _ _) | (with_reducible assumption) | (with_reducible refine Below.new ?_ _) | (with_reducible refine Below.alloc ?_ ?_ _) | (with_reducible refine Below.drew ?_) | (with_reducible refine Below.drewN ?_ _) | (with_reducible refine Below.setCell ?_ ?_ _) | (refine Below.step ?_ (by assumption)) | go_size)))).mono ?_); rintro e y3 ⟨rfl, hby3⟩; obtain ⟨hcy3, hfy3, hky3, hzy3⟩ := bcell3 hby3; have : w.heap.size < y3.heap.size := (by omega); have : w.heap.size + 1 < y3.heap.size := (by omega); have : w.heap.size + 1 + 1 < y3.heap.size := (by omega); have : w.heap.size + 1 + 1 + 1 < y3.heap.size := (by omega)) | ((with_reducible refine (Aac.out _ (by (repeat' (first | (with_reducible exact Below.refl _ _) | (with_reducible assumption) | (with_reducible refine Below.new ?_ _) | (with_reducible refine Below.alloc ?_ ?_ _) | (with_reducible refine Below.drew ?_) | (with_reducible refine Below.drewN ?_ _) | (with_reducible refine Below.setCell ?_ ?_ _) | (refine Below.step ?_ (by assumption)) | go_size)))).mono ?_); rintro e y4 ⟨rfl, hby4⟩; obtain ⟨hcy4, hfy4, hky4, hzy4⟩ := bcell3 hby4; have : w.heap.size < y4.heap.size := (by omega); have : w.heap.size + 1 < y4.heap.size := (by omega); have : w.heap.size + 1 + 1 < y4.heap.size := (by omega); have : w.heap.size + 1 + 1 + 1 < y4.heap.size := (by omega)))
    go_ret
    exact ⟨rfl, HB.out.step (by (repeat' (first | (with_reducible exact Below.refl _ _) | (with_reducible assumption) | (with_reducible refine Below.new ?_ _) | (with_reducible refine Below.alloc ?_ ?_ _) | (with_reducible refine Below.drew ?_) | (with_reducible refine Below.drewN ?_ _) | (with_reducible refine Below.setCell ?_ ?_ _) | (refine Below.step ?_ (by assumption)) | go_size)))⟩
end Go.Proofs.YtejleplhmkmegaaGreatDoor
/- Ratio: the frame that all tied statements of the seat share: a law that returns true and leaves what was there as it was has its row; what the listed variables hold. -/
namespace Go.Proofs.YtejleplhmkmegaaGreatDoor
set_option linter.unusedVariables false
set_option linter.unusedSimpArgs false
open Go.ChangeShapes Go.WideShapes Go.ChangeAt Go.RowKit Go.Joins

theorem ownK : ownKnob Tryz.prog.godebug = none := by kernel_rfl
theorem laidOutK : laidOutB Tryz.prog = true := by kernel_rfl

theorem trodAll_stays {H : Type} {enc : TypeId × Value → H} {P : Program} {W W' : World} (hl : laidOutB P = true) (sp : Nat → Bool) : ∀ (ts : List TypeId) (vs : List Value) (ds : List (DataW H)) (ps : List MemPlace),
    ts.all (fun t => P.readableRec t && decide (t < P.types.size)) = true → DataW.TrodAll enc P W 0 (fun _ => true) true ts vs ds ps → (∀ p ∈ ps, W.sameAt W' p) → (∀ p ∈ ps, sp p.block = true) → DataW.TrodAll enc P W' 0 sp true ts vs ds ps
  | [], [], [], _, _, h, _, _ => h
  | t :: ts, v :: vs, d :: ds, ps, hr, h, hsame, hsp => by
    obtain ⟨p, q, h1, h2, rfl⟩ := h
    simp only [List.all_cons, Bool.and_eq_true, decide_eq_true_eq] at hr
    exact ⟨p, q, WideElems.Trod_stays hl hr.1.1 hr.1.2 h1 (fun x hx => hsame x (by simp [hx])) (fun x hx => hsp x (by simp [hx])), trodAll_stays hl sp ts vs ds q hr.2 h2 (fun x hx => hsame x (by simp [hx])) (fun x hx => hsp x (by simp [hx])), rfl⟩
  | [], [], _ :: _, _, _, h, _, _ => h.elim
  | [], _ :: _, _, _, _, h, _, _ => h.elim
  | _ :: _, [], _, _, _, h, _, _ => h.elim
  | _ :: _, _ :: _, [], _, _, h, _, _ => h.elim

/-- What the row asks behind the call, of a law that has returned true and made new blocks alone. -/
theorem law_post {H : Type} {enc : TypeId × Value → H} {fn : Func} {s : ChangeSpec} {W W' : World} {args : Array Value} {ds gs : List (DataW H)} {before : List MemPlace} {apart : Bool}
    (hv : s.vars = []) (hres : fn.resultTypes = #[4]) (hread : fn.params.toList.all (fun t => Tryz.prog.readableRec t && decide (t < Tryz.prog.types.size)) = true)
    (hW : DataW.Whole enc Tryz.prog fn.params.toList s.vars apart W args.toList ds gs before)
    (hs1 : (s.fn H (ds ++ gs)).results = [.lit (.bool true)]) (hs2 : (s.fn H (ds ++ gs)).args = ds) (hs3 : (s.fn H (ds ++ gs)).vars = []) (hb : Below W.heap.size W W') :
    s.post enc Tryz.prog fn apart true false false W args (.bool true) W' := by
  have hlt : ∀ p ∈ before, p.block < W.heap.size := fun p hp => hW.lt p hp
  have hW' := hW
  obtain ⟨p, q, hA, hV, rfl, _, _⟩ := hW
  rw [hv] at hV
  have hq : q = [] := by cases gs with
    | nil => exact hV
    | cons _ _ => exact hV.elim
  subst hq
  refine ⟨ds, gs, _, [], p ++ [], [], hW', ?_, ?_, ?_, hb.frame _, fun h => by cases h⟩
  · rw [hres, hs1]
    exact trodAll_cons_mk (shut_bool Tryz.underlying4 true) trodAll_mk0
  · rw [hs2, List.append_nil]
    exact trodAll_stays laidOutK _ _ _ _ _ hread hA (fun x hx => hb.same (hlt x (by simp [hx]))) (fun x hx => by simpa using hlt x (by simp [hx]))
  · rw [hv, hs3]; rfl

abbrev laidL : List (String × DataW Unit) := [("math/bits.deBruijn32tab", Rows.laid_math_bits_deBruijn32tab), ("math/bits.deBruijn64tab", Rows.laid_math_bits_deBruijn64tab), ("internal/strconv.uint64pow10", Rows.laid_internal_strconv_uint64pow10)]
theorem gTz : Tryz.prog.globalNamed "math/bits.deBruijn64tab" = some 1 := by kernel_rfl
theorem lay64 : (Rows.laid_math_bits_deBruijn64tab : DataW Unit) = Lib.tabData .u8 (Lib.deBruijn64tab.map fun (n : Nat) => (n : Int)) := by rfl
theorem layPow : (Rows.laid_internal_strconv_uint64pow10 : DataW Unit) = Lib.tabData .u64 Lib.pow10Tab := by rfl
/-- The door's own heap meets the condition. -/
theorem door_met (os : Os) (args : Array Value) : laidMetH Tryz.prog laidL ((World.doorLaid Tryz.prog 400 os).forCall (fun _ _ => 0) ⟨#[], args, []⟩).memory :=
  laidMetH_of_parts3 (fuel := 8) (laidMet_of_run' 8 (by kernel_rfl) (by kernel_rfl)) (by kernel_rfl) (by kernel_rfl)
/-- What the condition gives the walks. -/
theorem tabs_of_laid {W : World} (h : laidMetH Tryz.prog laidL W) : Tabs W := by
  rw [MakeChecks.laidMetH_plain _ _ _ (by kernel_rfl)] at h
  have h2 := h.tail
  have h3 := h2.tail
  rw [lay64] at h2
  rw [layPow] at h3
  have t1 := Lib.tabIs_of_head gTz (by kernel_rfl) Tryz.underlying203 Tryz.underlying5 (by kernel_rfl) (by kernel_rfl) h2
  have t2 := Lib.tabIs_of_head gPow (by kernel_rfl) Tryz.underlying232 Tryz.underlying95 (by kernel_rfl) (by kernel_rfl) h3
  have c : TabAt 1 Lib.deBruijn64tab W := fun j hj => by
    have := t1.cell gTz j (by simpa using hj)
    rw [this]
    have e : (Lib.deBruijn64tab.map fun (n : Nat) => (n : Int)).getD j 0 = ((Lib.deBruijn64tab.getD j 0 : Nat) : Int) := by
      simp [List.getD, List.getElem?_map]
      cases Lib.deBruijn64tab[j]? <;> rfl
    rw [e]
  refine ⟨t2, c, ?_⟩
  have h0 := c 0 (by decide)
  refine Nat.lt_of_not_le fun hle => ?_
  have hn : W.heap[1]? = none := Array.getElem?_eq_none hle
  simp [World.cell?, hn] at h0

set_option maxRecDepth 100000 in
/-- A law of any parameters: out of its walk. -/
theorem law_lift {H : Type} {enc : TypeId × Value → H} {os : Os} {f : FuncId} {fn : Func} {s : ChangeSpec} {conds : List PathCond}
    (started : os.Started) (noInit : Tryz.prog.inits.idxOf? f = none) (hfn : Tryz.prog.funcs[f]? = some fn)
    (witness : ∃ (w : World) (tape : Tape) (i : Input), w.os = os ∧ (w.forCall tape i).Shaped Tryz.checked.prog ∧ i.vars = [] ∧ Input.okWide Tryz.checked.prog (w.forCall tape i) .any w.heap.size f i ∧
      ((s.pre enc Tryz.checked.prog fn conds false (w.forCall tape i).memory i.args ∧ laidMetH Tryz.prog laidL (w.forCall tape i).memory) ∧ sizedMet enc Tryz.checked.prog fn (OpenSpec.ofChange s) false (w.forCall tape i).memory i.args) ∧ ({} : Assume).holds Tryz.checked.prog (lone (Frame.enter Tryz.checked.prog f i.args .normal) [] (w.forCall tape i)))
    (hv : s.vars = []) (hres : fn.resultTypes = #[4]) (hread : fn.params.toList.all (fun t => Tryz.prog.readableRec t && decide (t < Tryz.prog.types.size)) = true)
    (hspec : ∀ ds : List (DataW H), ds.length = fn.params.toList.length → (s.fn H (ds ++ [])).results = [.lit (.bool true)] ∧ (s.fn H (ds ++ [])).args = ds ∧ (s.fn H (ds ++ [])).vars = [])
    (walk : ∀ (W : World) (base : Nat) (args : Array Value) (ds : List (DataW H)) (p : List MemPlace), Tabs W → (∀ (j : Nat) t v, fn.params[j]? = some t → args[j]? = some v → Value.okWide Tryz.prog W .any base t v) →
      DataW.TrodAll enc Tryz.prog W 0 (fun _ => true) true fn.params.toList args.toList ds p → (DataW.weightsEach Tryz.prog fn.params.toList ds).all (· ≤ reachBytes) = true →
      Calls Tryz.prog f args W fun e W' => e = .returned (.bool true) ∧ Below W.heap.size W W') :
    ReturnsInHanded {} Tryz.checked os f .any (fun w args => (s.pre enc Tryz.prog fn conds false w args ∧ laidMetH Tryz.prog laidL w) ∧ sizedMet enc Tryz.prog fn (OpenSpec.ofChange s) false w args) (s.post enc Tryz.prog fn false true false false) := by
  refine returnsInHanded_of_change_and (C := Tryz.checked) (X := fun w _ => laidMetH Tryz.prog laidL w) (fun _ _ _ hh h => h.of_heap hh) ownK started noInit hfn witness ?_
  intro W base args ds gs before hval hW _ hsz hL _
  have hW' := hW
  obtain ⟨p, q, hA, hV, rfl, _, _⟩ := hW
  rw [hv] at hV
  have hg : gs = [] := by cases gs with
    | nil => rfl
    | cons _ _ => exact hV.elim
  subst hg
  have hlen : ds.length = fn.params.toList.length := by
    have : ∀ (ts : List TypeId) (vs : List Value) (ds : List (DataW H)) (ps : List MemPlace), DataW.TrodAll enc Tryz.prog W 0 (fun _ => true) true ts vs ds ps → ds.length = ts.length := by
      intro ts
      induction ts with
      | nil => intro vs ds ps h; cases vs <;> cases ds <;> first | rfl | exact h.elim
      | cons t ts ih => intro vs ds ps h; cases vs <;> cases ds <;> first | exact h.elim | (obtain ⟨_, _, _, h2, _⟩ := h; simp [ih _ _ _ h2])
    exact this _ _ _ _ hA
  obtain ⟨hs1, hs2, hs3⟩ := hspec ds hlen
  have hsz' : (DataW.weightsEach Tryz.prog fn.params.toList ds).all (· ≤ reachBytes) = true := by
    have e : fn.params.toList ++ s.plain.varTypes Tryz.prog = fn.params.toList := by
      have : s.plain.varTypes Tryz.prog = [] := by simp [DataSpec.varTypes, ChangeSpec.plain, hv]
      rw [this, List.append_nil]
    have h2 := hsz
    rw [List.append_nil] at h2
    rw [← e]; exact h2
  have hS := tabs_of_laid hL
  refine (walk W base args ds p hS hval hA hsz').mono fun e W' ⟨he, hb⟩ => ?_
  exact ⟨_, he, law_post hv hres hread hW' hs1 hs2 hs3 hb⟩
end Go.Proofs.YtejleplhmkmegaaGreatDoor
