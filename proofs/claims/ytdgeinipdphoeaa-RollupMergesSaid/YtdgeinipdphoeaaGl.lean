/- Texts joined: RopA, RopB, RopC, RopD. -/
import Derived.Test.YtdgeinipdphoeaaGh
import Derived.Test.YtdgeinipdphoeaaGe
import Derived.Test.YtdgeinipdphoeaaGd
import Derived.Test.YtdgeinipdphoeaaGk
/- Rollup: what the walks of the laws share. -/
namespace Go.Proofs.Ytdgeinipdphoeaa
set_option linter.unusedVariables false
set_option linter.unusedSimpArgs false
set_option maxRecDepth 100000
open Go.ChangeShapes Go.WideShapes Go.ChangeAt Go.RowKit

theorem txt_fine (ss : List ByteArray) : Texts (txtCut 30 10 ss) := by
  refine ⟨by unfold txtCut; simp; omega, fun s hs => ?_⟩
  unfold txtCut at hs
  obtain ⟨a, _, rfl⟩ := List.mem_map.1 hs
  have := cutS_size 30 a
  omega
theorem vals_fine (l : List ValD) : Vals (valsCut l) := by
  refine ⟨by unfold valsCut; simp; omega, fun s hs => ?_⟩
  unfold valsCut at hs
  obtain ⟨a, _, rfl⟩ := List.mem_map.1 hs
  have := cutS_size 110 a.s
  show (cutS 110 a.s).size ≤ _
  omega
theorem rows_fine {n : Nat} {rows : List RowD} (h : ∀ r ∈ rows, RowFine r) : RowsOk (rowsCut n rows) := by
  intro r hr
  unfold rowsCut at hr
  obtain ⟨q, hq, rfl⟩ := List.mem_map.1 hr
  exact ⟨vals_fine q.l, fun x hx => (h q (List.mem_of_mem_take hq)).2.1 x (List.mem_of_mem_take hx)⟩
theorem rows_few (n : Nat) (rows : List RowD) : (rowsCut n rows).length ≤ n := by unfold rowsCut; simp; omega
def cutSch (ds ms : List ByteArray) (g : Int) : SchD := ⟨txtCut 30 10 ds, txtCut 30 10 ms, g⟩
/-- Behind the storing of the cut schema. -/
theorem pre_sch {w w1 w2 : World} {b : Nat} {a1 a2 : Option Addr} {c1 c2 : Nat} {o1 o2 o3 : Value} {g : Int} {D M : List ByteArray} (hb : Below w.heap.size w w1) (h1 : w1.heap[b]? = some (.cells #[o1, o2, o3] 24 (0, 0))) (hz : w.heap.size ≤ b) (hb2 : Below w1.heap.size w1 w2)
    (r1 : w2.ownsRow w1.heap.size 9 1 (.slice a1 D.length c1) D.length (strsV D)) (r2 : w2.ownsRow w1.heap.size 9 1 (.slice a2 M.length c2) M.length (strsV M)) :
    Below w.heap.size w (((w2.setCell ⟨b, 0, none⟩ (.slice a1 D.length c1)).setCell ⟨b, 1, none⟩ (.slice a2 M.length c2)).setCell ⟨b, 2, none⟩ (.int .i64 g)) ∧
    (((w2.setCell ⟨b, 0, none⟩ (.slice a1 D.length c1)).setCell ⟨b, 1, none⟩ (.slice a2 M.length c2)).setCell ⟨b, 2, none⟩ (.int .i64 g)).heap[b]? = some (.cells #[.slice a1 D.length c1, .slice a2 M.length c2, .int .i64 g] 24 (0, 0)) ∧
    (((w2.setCell ⟨b, 0, none⟩ (.slice a1 D.length c1)).setCell ⟨b, 1, none⟩ (.slice a2 M.length c2)).setCell ⟨b, 2, none⟩ (.int .i64 g)).ownsRow w1.heap.size 9 1 (.slice a1 D.length c1) D.length (strsV D) ∧
    (((w2.setCell ⟨b, 0, none⟩ (.slice a1 D.length c1)).setCell ⟨b, 1, none⟩ (.slice a2 M.length c2)).setCell ⟨b, 2, none⟩ (.int .i64 g)).ownsRow w1.heap.size 9 1 (.slice a2 M.length c2) M.length (strsV M) :=
  ⟨below3 (hb.step hb2) hz, set3 (blk_below h1 hb2), row_far3 r1 (blk_lt h1), row_far3 r2 (blk_lt h1)⟩

def outL (s : SchD) (rows : List RowD) : List CellD := if rollE s rows = 0 then rollL s rows else []
theorem outL_ok {s : SchD} {rows : List RowD} (h : rollE s rows = 0) : outL s rows = rollL s rows := if_pos h
theorem rollE_ok {s : SchD} {rows : List RowD} (h : rollE s rows = 0) : okSch s = true ∧ (∀ r ∈ rows, fitsR s r = true) ∧ endsB (rollL s rows) = true := by
  unfold rollE at h
  by_cases h1 : okSch s = true
  · rw [if_pos h1] at h
    by_cases h2 : rows.all (fitsR s) = true
    · rw [if_pos h2] at h
      by_cases h3 : endsB (rollL s rows) = true
      · exact ⟨h1, fun r hr => List.all_eq_true.1 h2 r hr, h3⟩
      · rw [if_neg h3] at h; cases h
    · rw [if_neg h2] at h; cases h
  · rw [if_neg h1] at h; cases h
theorem okSch_four {s : SchD} (h : okSch s = true) : s.ms.length ≤ 4 := by
  unfold okSch rightS at h
  simp only [Bool.and_eq_true, decide_eq_true_eq] at h
  exact h.2.1
theorem rollL_rolled {s : SchD} {rows : List RowD} (h : ∀ r ∈ rows, fitsR s r = true) : Rolled s.ms.length (rollL s rows) := by
  refine (Rolled.nil _).puts (fun c hc => ?_) (fun c hc => ?_)
  · obtain ⟨r, hr, rfl⟩ := List.mem_map.1 hc
    exact ofC_ok (h r hr)
  · obtain ⟨r, hr, rfl⟩ := List.mem_map.1 hc
    exact Int.le_of_lt Int.zero_lt_one
theorem Rolled.few {m : Nat} {l : List CellD} (h : Rolled m l) (hm : m ≤ 1000) : CellsFew l := fun c hc => by
  have := h.all c hc
  exact ⟨by rw [this.2.2.1]; omega, by rw [this.2.2.2]; omega⟩
theorem outL_few (s : SchD) (rows : List RowD) : CellsFew (outL s rows) := by
  by_cases h : rollE s rows = 0
  · obtain ⟨h1, h2, _⟩ := rollE_ok h
    rw [outL_ok h]
    exact (rollL_rolled h2).few (by have := okSch_four h1; omega)
  · unfold outL
    rw [if_neg h]
    intro c hc
    simp at hc
theorem outL_len (s : SchD) (rows : List RowD) : (outL s rows).length ≤ 1000 := by
  by_cases h : rollE s rows = 0
  · have h3 := (rollE_ok h).2.2
    rw [outL_ok h]
    unfold endsB at h3
    simp at h3
    exact h3.1
  · unfold outL
    rw [if_neg h]
    simp
def OutPost (W : World) (l : List CellD) (E : Int) (e : Ending) (w' : World) : Prop := ∃ v, e = .returned (.tuple #[v, .int .i64 E]) ∧ CellsSl w' v l ∧ Below W.heap.size W w'
theorem roll_out (s : SchD) (rows : List RowD) (vd vm v : Value) (w : World) (hd : StrsSl w vd s.ds) (hm : StrsSl w vm s.ms) (td : Texts s.ds) (tm : Texts s.ms) (hv : RowsSl w v rows) (hok : RowsOk rows) (hlen : rows.length ≤ 100000) :
    Calls Try.prog 27 #[.agg #[vd, vm, .int .i64 s.g], v] w (OutPost w (outL s rows) (rollE s rows)) :=
  (rollRoll_any s rows vd vm v w hd hm td tm hv hok hlen).mono fun e w' ⟨hb, h⟩ => by
    rcases h with ⟨hE, v, ps, rfl, ho, hc⟩ | ⟨hE, rfl⟩
    · refine ⟨v, by rw [hE], ?_, hb⟩
      rw [outL_ok hE, ← hc]
      exact ho.is
    · refine ⟨_, rfl, ?_, hb⟩
      unfold outL
      rw [if_neg hE]
      exact ElemsSl.nil _
def zeroD : CellD := ⟨0, [], 0, [], [], []⟩
def outC (s : SchD) (r : RowD) : CellD := if ofE s r = 0 then ofC s r else zeroD
def OutCPost (W : World) (c : CellD) (E : Int) (e : Ending) (w' : World) : Prop :=
  ∃ ul us um ux, e = .returned (.tuple #[.agg #[.int .i64 c.t, ul, .int .i64 c.n, us, um, ux], .int .i64 E]) ∧ ValsSl w' ul c.l ∧ WidesSl w' us c.sums ∧ IntsSl w' um c.mins ∧ IntsSl w' ux c.maxs ∧ Below W.heap.size W w'
theorem of_out (s : SchD) (r : RowD) (vd vm vl vn : Value) (w : World) (hd : StrsSl w vd s.ds) (hm : StrsSl w vm s.ms) (td : Texts s.ds) (tm : Texts s.ms) (hl : ValsSl w vl r.l) (tl : Vals r.l) (hn : IntsSl w vn r.xs) (hx : ∀ x ∈ r.xs, I64 x) :
    Calls Try.prog 29 #[.agg #[vd, vm, .int .i64 s.g], .agg #[.int .i64 r.t, vl, vn]] w (OutCPost w (outC s r) (ofE s r)) :=
  (rollOf_any s r vd vm vl vn w hd hm td tm hl tl hn hx).mono fun e w' ⟨hb, h⟩ => by
    rcases h with ⟨hE, u, rfl, ho, _⟩ | ⟨hE, rfl⟩
    · obtain ⟨_, _, _, _, e, h1, h2, h3, h4⟩ := ho.is
      simp only [CellV.row, List.cons.injEq, and_true, true_and] at e
      obtain ⟨rfl, rfl, rfl, rfl⟩ := e
      unfold outC
      rw [if_pos hE]
      exact ⟨_, _, _, _, by rw [hE]; rfl, h1, h2, h3, h4, hb⟩
    · unfold outC
      rw [if_neg hE]
      exact ⟨_, _, _, _, rfl, SlAt.nil _ _, SlAt.nil _ _, SlAt.nil _ _, SlAt.nil _ _, hb⟩
theorem sameC_refl (c : CellD) : sameC c c = true := by unfold sameC; simp
theorem sameCs_refl (l : List CellD) : sameCs l l = true := sameCs_all rfl fun j _ _ => sameC_refl _
theorem outC_few {s : SchD} {r : RowD} (h : r.xs.length ≤ 1000) : (outC s r).mins.length ≤ 1000000000 ∧ (outC s r).maxs.length ≤ 1000000000 := by
  unfold outC
  split
  · exact ⟨by show r.xs.length ≤ _; omega, by show r.xs.length ≤ _; omega⟩
  · exact ⟨by show 0 ≤ _; omega, by show 0 ≤ _; omega⟩
end Go.Proofs.Ytdgeinipdphoeaa
/- Rollup: the reference's answers, told as the program's are. -/
namespace Go.Proofs.Ytdgeinipdphoeaa
set_option linter.unusedVariables false
set_option linter.unusedSimpArgs false
set_option maxRecDepth 100000
open Go.ChangeShapes Go.WideShapes Go.ChangeAt Go.RowKit

theorem refRoll_out (s : SchD) (rows : List RowD) (vd vm v : Value) (w : World) (hd : StrsSl w vd s.ds) (hm : StrsSl w vm s.ms) (td : Texts s.ds) (tm : Texts s.ms) (hv : RowsSl w v rows) (hok : RowsOk rows) (hlen : rows.length ≤ 100000) :
    Calls Try.prog 28 #[.agg #[vd, vm, .int .i64 s.g], v] w (OutPost w (outL s rows) (rollE s rows)) :=
  (refRoll_any s rows vd vm v w hd hm td tm hv hok hlen).mono fun e w' ⟨hb, h⟩ => by
    rcases h with ⟨hE, v, rfl, hc⟩ | ⟨hE, rfl⟩
    · refine ⟨v, by rw [hE], ?_, hb⟩
      rw [outL_ok hE]
      exact hc
    · refine ⟨_, rfl, ?_, hb⟩
      unfold outL
      rw [if_neg hE]
      exact ElemsSl.nil _
theorem refOf_out (s : SchD) (r : RowD) (vd vm vl vn : Value) (w : World) (hd : StrsSl w vd s.ds) (hm : StrsSl w vm s.ms) (td : Texts s.ds) (tm : Texts s.ms) (hl : ValsSl w vl r.l) (tl : Vals r.l) (hn : IntsSl w vn r.xs) (hx : ∀ x ∈ r.xs, I64 x) :
    Calls Try.prog 30 #[.agg #[vd, vm, .int .i64 s.g], .agg #[.int .i64 r.t, vl, vn]] w (OutCPost w (outC s r) (ofE s r)) :=
  (refOf12_any s r vd vm vl vn w hd hm td tm hl tl hn hx).mono fun e w' ⟨hb, h⟩ => by
    rcases h with ⟨hE, vs, rfl, ho⟩ | ⟨hE, rfl⟩
    · unfold outC
      rw [if_pos hE]
      exact ⟨_, _, _, _, by rw [hE]; rfl, hl.below hb, WidesSl.own ho, hn.below hb, hn.below hb, hb⟩
    · unfold outC
      rw [if_neg hE]
      exact ⟨_, _, _, _, rfl, SlAt.nil _ _, SlAt.nil _ _, SlAt.nil _ _, SlAt.nil _ _, hb⟩
end Go.Proofs.Ytdgeinipdphoeaa
/- Rollup: the law's 'Rows', told so that what is stored into older blocks of the call's own does not matter. -/
namespace Go.Proofs.Ytdgeinipdphoeaa
set_option linter.unusedVariables false
set_option linter.unusedSimpArgs false
set_option maxRecDepth 100000
open Go.ChangeShapes Go.WideShapes Go.ChangeAt Go.RowKit

/-- A list of rows whose values lie in rows made since block B, whose numbers lie in a list of an old world. -/
structure OwnRn (w0 : World) (B : Nat) (w : World) (v : Value) (ps : List RowP) : Prop where
  row : w.ownsRow B 28 3 v ps.length (ps.flatMap rowR)
  each : ∀ p ∈ ps, w.ownsRow B 54 2 p.1.1 p.2.l.length (p.2.l.flatMap ValD.cells) ∧ IntsSl w0 p.1.2 p.2.xs
  below : Below w0.heap.size w0 w
  base : w0.heap.size ≤ B
theorem OwnRn.is {w0 w : World} {B : Nat} {v : Value} {ps : List RowP} (h : OwnRn w0 B w v ps) : RowsSl w v (ps.map fun p => p.2) := by
  have hr := h.row
  rcases h.row.2 with ⟨rfl, h0⟩ | ⟨g, cap, cur, rfl, _, _, h3, h4, _, _⟩
  · have : ps = [] := List.eq_nil_of_length_eq_zero h0
    subst this
    exact ElemsSl.nil w
  · refine ⟨some ⟨g, 0, none⟩, cap, by simp, by simpa using h3, h4, (fun h => by cases h), fun hl => ⟨g, 0, rfl, fun i hi => ?_⟩⟩
    have hi' : i < ps.length := by simpa using hi
    obtain ⟨e1, e2⟩ := h.each ps[i] (List.getElem_mem hi')
    refine ⟨rowR ps[i], rfl, ⟨ps[i].1.1, ps[i].1.2, ?_, ?_, ?_⟩, fun j u hj => ?_⟩
    · simp [rowR]
    · simpa using ValsSl.own e1
    · simpa using e2.below h.below
    · have hj3 : j < 3 := (List.getElem?_eq_some_iff.1 hj).1
      rw [show 0 + i * 3 + j = i * 3 + j by omega, hr.cellAt _ (by omega), flat_at 3 rowR rowR_len ps i j hj3 hi', hj]
theorem OwnRn.nil {w0 w : World} {B : Nat} (h : Below w0.heap.size w0 w) (hB : w0.heap.size ≤ B) : OwnRn w0 B w (.slice none 0 0) [] := ⟨World.ownsRow_nil _ _ _ _, fun _ h => (by simp at h), h, hB⟩
theorem OwnRn.step {w0 w w' : World} {B : Nat} {v : Value} {ps : List RowP} (h : OwnRn w0 B w v ps) (hb : Below w.heap.size w w') : OwnRn w0 B w' v ps :=
  ⟨row_below h.row hb, fun p hp => ⟨row_below (h.each p hp).1 hb, (h.each p hp).2⟩, h.below.step hb, h.base⟩
theorem OwnRn.far3 {w0 w : World} {B b : Nat} {v : Value} {ps : List RowP} (h : OwnRn w0 B w v ps) (h1 : w0.heap.size ≤ b) (h2 : b < B) {x y z : Value} : OwnRn w0 B (((w.setCell ⟨b, 0, none⟩ x).setCell ⟨b, 1, none⟩ y).setCell ⟨b, 2, none⟩ z) v ps :=
  ⟨row_far3 h.row h2, fun p hp => ⟨row_far3 (h.each p hp).1 h2, (h.each p hp).2⟩, below3 h.below h1, h.base⟩
theorem OwnRn.push {w0 w w' : World} {B : Nat} {v v' v1 v2 : Value} {ps : List RowP} {r : RowD} (h : OwnRn w0 B w v ps) (h1 : w.ownsRow B 54 2 v1 r.l.length (r.l.flatMap ValD.cells)) (h2 : IntsSl w0 v2 r.xs)
    (hg : w.grownBy w' v.ownBlock) (hown : w'.ownsRow B 28 3 v' (ps.length + 1) (ps.flatMap rowR ++ rowR ((v1, v2), r))) : OwnRn w0 B w' v' (ps ++ [((v1, v2), r)]) := by
  have key : ∀ {e : TypeId} {size : Nat} {x : Value} {n : Nat} {xs : List Value}, e ≠ 28 → w.ownsRow B e size x n xs → w'.ownsRow B e size x n xs := fun he hx => by
    refine hx.kept hg ?_
    cases hxo : Value.ownBlock _ with
    | none => exact .inl rfl
    | some g => exact .inr fun e => row_ne hx h.row he hxo e.symm
  refine ⟨by simpa using hown, fun p hp => ?_, own_below h.row hg h.below h.base, h.base⟩
  rcases List.mem_append.1 hp with hp | hp
  · exact ⟨key (by decide) (h.each p hp).1, (h.each p hp).2⟩
  · obtain rfl : p = ((v1, v2), r) := by simpa using hp
    exact ⟨key (by decide) h1, h2⟩
def RowsPost2 (w0 w : World) (rows : List RowD) (e : Ending) (w' : World) : Prop := ∃ v ps, e = .returned v ∧ OwnRn w0 w.heap.size w' v ps ∧ ps.map (fun p => p.2) = rows ∧ Below w.heap.size w w'

set_option maxHeartbeats 4000000 in
theorem lawRows2_any (rows : List RowD) (n : Nat) (v : Value) (w0 w : World) (h0 : Below w0.heap.size w0 w) (hv0 : RowsSl w0 v rows) (hsz : ∀ r ∈ rows, ∀ x ∈ r.l, x.s.size ≤ 9223372036854775807) (hn : n ≤ 1000) :
    Calls Try.prog 26 #[v, .int .i64 (n : Int)] w (RowsPost2 w0 w (rowsCut n rows)) := by
  have hv := hv0.below h0
  have H00 := hid h0
  obtain ⟨ic, hi, hiz0, hiz1, hiz2⟩ := info_parts info_row
  have HV := hid hv; have HV0 := hid hv0
  have HF := hid (fun k (hk : k < rows.length) vl vn W (h1 : ValsSl W vl rows[k].l) (h2 : IntsSl W vn rows[k].xs) => fewRow_any vl vn rows[k].t rows[k].l rows[k].xs W h1 (hsz _ (List.getElem_mem hk)) h2)
  obtain ⟨ao, cap, rfl, hc1, hc2, _⟩ := hv.shape
  obtain ⟨N, hN⟩ : ∃ N, min rows.length n = N := ⟨_, rfl⟩
  have HCN : Hid ((N = rows.length ∨ N = n) ∧ N ≤ rows.length ∧ N ≤ n) := by unfold Hid; omega
  have HTK : Hid (rows.take N = rows.take n) := by
    have := HCN.out
    unfold Hid
    rcases this.1 with h | h
    · rw [h, List.take_length, List.take_of_length_le (by omega)]
    · rw [h]
  clear hv hv0 hsz hN h0
  unfold maxLen at hc2
  go_enter Try.func26, Try.ntmps26
  go_wp2
  go_loopw [5, 6] (fun a i wr => ∃ (k : Nat) (qs : List RowP), k ≤ N ∧ i = .int .i64 (k : Nat) ∧ OwnRn w0 w.heap.size wr a qs ∧ qs.map (fun p => p.2) = (rows.take k).map fewR ∧ Below w.heap.size w wr) (fun _ i _ => N - (intOf i).toNat)
  case atStart => exact ⟨0, [], Nat.zero_le _, rfl, OwnRn.nil H00.out H00.out.size, by simp, Below.refl _ _⟩
  case round =>
    obtain ⟨k, qs, hk, rfl, hq, hqc, hbel⟩ := hrel
    have HQ := hid hq; have HQB := hid hbel; have HQC := hid hqc
    have hk0 : (0 : Int) ≤ (k : Int) := Int.natCast_nonneg _
    have hkL : k ≤ rows.length := by have := HCN.out; omega
    have hkn : k ≤ n := by have := HCN.out; omega
    have HQL : Hid (qs.length = k) := by
      have := congrArg List.length hqc
      unfold Hid
      simp at this
      omega
    have hql1 : qs.length ≤ 1000 := by have := HQL.out; omega
    obtain ⟨qo, qc, e⟩ := row_shape hq.row
    subst e
    clear hqc hq
    by_cases hlt : k < N
    · have hlen : k < rows.length := by have := HCN.out; omega
      have hlen' : (k : Int) < (rows.length : Int) := by omega
      have hln : (k : Int) < (n : Int) := by have := HCN.out; omega
      have hv1 := HV0.out
      obtain ⟨b, off, vl, vn, rfl, g1, g2, c0, c1, c2⟩ := hv1.at hlen
      replace c0 := cell_step c0 H00.out; replace c1 := cell_step c1 H00.out; replace c2 := cell_step c2 H00.out
      clear hv1
      have HO := hid (HF.out k hlen vl vn wr ((g1.below H00.out).below hbel) ((g2.below H00.out).below hbel))
      replace c0 := cell_step c0 hbel; replace c1 := cell_step c1 hbel; replace c2 := cell_step c2 hbel
      have HG2 := hid g2
      obtain ⟨_, _, rfl, _⟩ := SlAt.shape g1
      obtain ⟨_, _, rfl, _⟩ := SlAt.shape g2
      have HTS : Hid (rows.take (k + 1) = rows.take k ++ [rows[k]]) := List.take_succ_eq_append_getElem hlen
      clear g1 g2 hbel
      generalize rows[k] = r at *
      obtain ⟨X, hX⟩ : ∃ X, r.xs.take 10 = X := ⟨_, rfl⟩
      obtain ⟨V, hV⟩ : ∃ V, valsCut r.l = V := ⟨_, rfl⟩
      rw [hX, hV] at HO
      have HFR : Hid (fewR r = ⟨r.t, V, X⟩) := by unfold Hid fewR; rw [hX, hV]
      clear hX hV
      go_wp2_with (first
        | (go_at_call 15; go_loud ((with_reducible refine HO.out.mono ?_); rintro e w2 ⟨v1, v2, rfl, ho2, hi2, hb2⟩; have hr2 := hi2 _ HG2.out; obtain ⟨xa, xc, e1⟩ := row_shape ho2; subst e1; obtain ⟨ya, yc, e2, _⟩ := SlAt.shape hr2; subst e2; have HB2 := hid hb2; have HO2 := hid ho2; have HR2 := hid hr2; have hz2 := hb2.size; clear hb2 ho2 hr2 hi2))
        | (at_builtin; go_loud (refine wpList_append_sl _ rfl _ _ 38 rfl w.heap.size 28 ic _ 3 56 Try.underlying38 hi hiz0 hiz1 hiz2 rfl (by decide) (.slice qo qs.length qc) qs.length _ rfl ((row_below HQ.out.row HB2.out).alloc _) (.slice (some ⟨w2.heap.size, 0, none⟩) 1 1) 1 _ rfl (SlAt.new w2 #[.int .i64 r.t, .slice xa V.length xc, .slice ya X.length yc] 28) (by simp [Value.oneCell']) (by unfold maxLen; omega) (by omega) (by have := HQB.out.size; simp; omega) ?_); intro v3 w3 hown3 hg3 hb3))
      have hpush := OwnRn.push (v' := v3) (r := ⟨r.t, V, X⟩) ((HQ.out.step HB2.out).step ((Below.refl _ _).new _)) ((HO2.out.base_le (b' := w.heap.size) (by have := HQB.out.size; omega)).alloc _) HR2.out hg3 (by exact hown3)
      have hbw3 := own_below ((row_below HQ.out.row HB2.out).alloc _) hg3 ((HQB.out.step HB2.out).new _) (Nat.le_refl _)
      have H3 := hid (And.intro hpush hbw3)
      clear hpush hbw3 hown3 hg3 hb3
      go_roundw
      case rel =>
        refine ⟨k + 1, _, hlt, by go_num, H3.out.1, ?_, H3.out.2⟩
        rw [HTS.out, List.map_append, List.map_append, HQC.out, List.map_cons, List.map_nil, List.map_cons, List.map_nil, HFR.out]
      case measure => simp [intOf]; omega
    · obtain rfl : k = N := by omega
      have HR := hid (show (rows.take k).map fewR = rowsCut n rows by unfold rowsCut; rw [HTK.out])
      have hex : k = rows.length ∨ (k < rows.length ∧ k = n) := by have := HCN.out; omega
      rcases hex with h | ⟨h, h2⟩
      · have g2 : decide ((k : Int) < (rows.length : Int)) = false := by simp; omega
        have g3 : decide (k < rows.length) = false := by simp; omega
        clear h hbel
        go_wp2
        go_ret
        exact ⟨_, qs, rfl, HQ.out, by rw [HQC.out, HR.out], HQB.out⟩
      · have g2 : (k : Int) < (rows.length : Int) := by omega
        have g3 : decide ((k : Int) < (n : Int)) = false := by simp; omega
        have g4 : decide (k < n) = false := by simp; omega
        clear h h2 hbel
        go_wp2
        go_ret
        exact ⟨_, qs, rfl, HQ.out, by rw [HQC.out, HR.out], HQB.out⟩
end Go.Proofs.Ytdgeinipdphoeaa
/- Rollup: stores into the lists of cells that the call owns. -/
namespace Go.Proofs.Ytdgeinipdphoeaa
set_option linter.unusedVariables false
set_option linter.unusedSimpArgs false
set_option maxRecDepth 100000
open Go.ChangeShapes Go.WideShapes Go.ChangeAt Go.RowKit

theorem vcells_set : ∀ (l : List ValD) (k : Nat) (v : ValD), k < l.length → ((l.flatMap ValD.cells).set (k * 2) (.string v.s)).set (k * 2 + 1) (.bool v.nl) = (l.set k v).flatMap ValD.cells
  | [], k, _, h => absurd h (Nat.not_lt_zero k)
  | x :: l, 0, n, _ => by simp [ValD.cells]
  | x :: l, k + 1, n, h => by
    have := vcells_set l k n (by simpa using h)
    rw [List.set_cons_succ, List.flatMap_cons, List.flatMap_cons, ← this]
    have e : (k + 1) * 2 = k * 2 + 1 + 1 := by omega
    rw [e]
    simp [ValD.cells]
/-- Two stores into a row of values. -/
theorem row_val {w : World} {B g m cap : Nat} {l : List ValD} (h : w.ownsRow B 54 2 (.slice (some ⟨g, 0, none⟩) m cap) m (l.flatMap ValD.cells)) {k : Nat} (hk : k < l.length) (v : ValD) :
    ((w.setCell ⟨g, k * 2, none⟩ (.string v.s)).setCell ⟨g, k * 2 + 1, none⟩ (.bool v.nl)).ownsRow B 54 2 (.slice (some ⟨g, 0, none⟩) m cap) m ((l.set k v).flatMap ValD.cells) := by
  rw [← vcells_set l k v hk]
  exact ((h.stored (k * 2) _).1.stored (k * 2 + 1) _).1
theorem row_val_at {w : World} {B g m cap : Nat} {l : List ValD} (h : w.ownsRow B 54 2 (.slice (some ⟨g, 0, none⟩) m cap) m (l.flatMap ValD.cells)) {k : Nat} (hk : k < l.length) :
    w.cell? ⟨g, k * 2, none⟩ = some (.string l[k].s) ∧ w.cell? ⟨g, k * 2 + 1, none⟩ = some (.bool l[k].nl) ∧ (∀ o, w.frozen? ⟨g, o, none⟩ = false) := by
  have hl : l.length = m := by have := h.1; rw [flat_len 2 _ ValD.cells_len] at this; omega
  exact ⟨(h.cellAt _ (by omega)).trans (vals_at hk).1, (h.cellAt _ (by omega)).trans (vals_at hk).2, fun o => h.frozenAt o⟩

/-- The world since w0: a list of cells that lies as it lay, whose lists' contents may be others. -/
def OwnT (w0 : World) (B : Nat) (va : Value) (us : List CellV) (w : World) : Prop := ∃ ps : List CellP, OwnCs w B va ps ∧ ps.map (fun p => p.1) = us ∧ TurnO (us.flatMap CellV.blks) w0 w
theorem OwnT.start {w0 : World} {B : Nat} {va : Value} {ps : List CellP} (h : OwnCs w0 B va ps) : OwnT w0 B va (ps.map fun p => p.1) w0 := ⟨ps, h, rfl, TurnO.refl _ _⟩
theorem OwnT.step {w0 w w' : World} {B : Nat} {va : Value} {us : List CellV} (h : OwnT w0 B va us w) (hb : Below w.heap.size w w') : OwnT w0 B va us w' := by
  obtain ⟨ps, h1, h2, h3⟩ := h
  exact ⟨ps, h1.below hb, h2, h3.step hb⟩
theorem OwnT.shape {w0 w : World} {B : Nat} {va : Value} {us : List CellV} (h : OwnT w0 B va us w) : ∃ ao cap, va = .slice ao us.length cap := by
  obtain ⟨ps, h1, h2, h3⟩ := h
  obtain ⟨a, c, e⟩ := row_shape h1.row
  have hl : us.length = ps.length := by rw [← h2]; simp
  exact ⟨a, c, by rw [hl]; exact e⟩
theorem OwnT.at {w0 w : World} {B : Nat} {va : Value} {us : List CellV} (h : OwnT w0 B va us w) {i : Nat} (hi : i < us.length) : ∃ g cap, va = .slice (some ⟨g, 0, none⟩) us.length cap ∧
    w.cell? ⟨g, i * 6 + 1, none⟩ = some us[i].vl ∧ w.cell? ⟨g, i * 6 + 4, none⟩ = some us[i].vm ∧ us.length ≤ cap := by
  obtain ⟨ps, h1, h2, h3⟩ := h
  have hl : us.length = ps.length := by rw [← h2]; simp
  obtain ⟨g, cap, e, _⟩ := row_some h1.row (by omega)
  have hr := h1.row
  rw [e] at hr
  have hcap : ps.length ≤ cap := by
    obtain ⟨_, cap', e', h5, _⟩ := SlAt.shape (SlAt.own hr)
    simp only [Value.slice.injEq] at e'
    omega
  have hi' : i < ps.length := by omega
  have hui : us[i] = ps[i].1 := by simp [← h2]
  refine ⟨g, cap, by rw [hl]; exact e, ?_, ?_, by omega⟩
  · rw [hr.cellAt _ (by omega), flat_at 6 rowP rowP_len ps i 1 (by decide) hi', hui]; rfl
  · rw [hr.cellAt _ (by omega), flat_at 6 rowP rowP_len ps i 4 (by decide) hi', hui]; rfl
theorem OwnT.nums {w0 w : World} {B : Nat} {va : Value} {us : List CellV} (h : OwnT w0 B va us w) {i : Nat} (hi : i < us.length) : (∃ a n c, us[i].vl = .slice a n c ∧ n ≤ c ∧ c ≤ maxLen) ∧ ∃ a n c, us[i].vm = .slice a n c ∧ n ≤ c ∧ c ≤ maxLen := by
  obtain ⟨ps, h1, h2, h3⟩ := h
  have hl : us.length = ps.length := by rw [← h2]; simp
  have hi' : i < ps.length := by omega
  have hui : us[i] = ps[i].1 := by simp [← h2]
  have ho := h1.each ps[i] (List.getElem_mem hi')
  rw [hui]
  obtain ⟨a, c, e, k1, k2, _⟩ := SlAt.shape (SlAt.own ho.l)
  obtain ⟨a', c', e', k1', k2', _⟩ := SlAt.shape (SlAt.own ho.m)
  exact ⟨⟨a, _, c, e, k1, k2⟩, ⟨a', _, c', e', k1', k2'⟩⟩
/-- Where an element of a cell's values lies; a store there. -/
theorem OwnT.val {w0 w : World} {B : Nat} {va : Value} {us : List CellV} (h : OwnT w0 B va us w) {i : Nat} (hi : i < us.length) {ao : Option Addr} {n cap k : Nat} (hu : us[i].vl = .slice ao n cap) (hk : k < n) : ∃ g, ao = some ⟨g, 0, none⟩ ∧
    (∃ x, w.cell? ⟨g, k * 2, none⟩ = some x) ∧ (∃ x, w.cell? ⟨g, k * 2 + 1, none⟩ = some x) ∧ (∀ o, w.frozen? ⟨g, o, none⟩ = false) ∧ ∀ (s : ByteArray) (b : Bool), OwnT w0 B va us ((w.setCell ⟨g, k * 2, none⟩ (.string s)).setCell ⟨g, k * 2 + 1, none⟩ (.bool b)) := by
  obtain ⟨ps, h1, h2, h3⟩ := h
  have hl : us.length = ps.length := by rw [← h2]; simp
  have hi' : i < ps.length := by omega
  have hui : us[i] = ps[i].1 := by simp [← h2]
  have ho := h1.each ps[i] (List.getElem_mem hi')
  rw [hui] at hu
  have hr := ho.l
  rw [hu] at hr
  have hn : ps[i].2.l.length = n := by
    obtain ⟨_, _, e', _⟩ := SlAt.shape (SlAt.own hr)
    simp only [Value.slice.injEq] at e'
    exact e'.2.1.symm
  rw [hn] at hr
  obtain ⟨g, cap', e, hgs, hgB⟩ := row_some hr (by omega)
  simp only [Value.slice.injEq] at e
  obtain ⟨rfl, _, rfl⟩ := e
  obtain ⟨c0, c1, cf⟩ := row_val_at (k := k) hr (by omega)
  refine ⟨g, rfl, ⟨_, c0⟩, ⟨_, c1⟩, cf, fun s b => ?_⟩
  have hgi : g ∈ ps[i].1.blks := mem_blks.2 (.inl (by rw [hu]; rfl))
  have hgT : g ∈ us.flatMap CellV.blks := List.mem_flatMap.2 ⟨us[i], List.getElem_mem hi, by rw [hui]; exact hgi⟩
  have ht : TurnO [g] w ((w.setCell ⟨g, k * 2, none⟩ (.string s)).setCell ⟨g, k * 2 + 1, none⟩ (.bool b)) := ((TurnO.refl _ _).setCell (.inl (by simp)) _).setCell (.inl (by simp)) _
  have hnd := h1.nodup_at hi'
  have hvl : ps[i].1.vl.ownBlock = some g := by rw [hu]; rfl
  have hset := OwnCs.set (d := { ps[i].2 with l := ps[i].2.l.set k ⟨s, b⟩ }) h1 hi' ht (fun x hx => .inl (by simp at hx; rw [hx]; exact hgi))
    (by
      have e : (ps.set i (ps[i].1, { ps[i].2 with l := ps[i].2.l.set k ⟨s, b⟩ })).flatMap rowP = ps.flatMap rowP := by
        rw [List.flatMap_def, List.flatMap_def, List.map_set]
        congr 1
        refine List.ext_getElem (by simp) fun j h1 h2 => ?_
        rw [List.getElem_set]
        split
        · rename_i e
          subst e
          simp [rowP, CellV.row]
        · rfl
      rw [e]
      exact ht.row h1.row fun x hx hxT => by
        simp at hxT
        subst hxT
        exact h1.out hx (List.mem_flatMap.2 ⟨ps[i], List.getElem_mem hi', hgi⟩))
    ⟨by
        have hnew := row_val (k := k) hr (by omega) ⟨s, b⟩
        rw [hu]
        simpa [hn] using hnew,
      ht.row ho.s fun x hx hxT => by
        simp at hxT
        subst hxT
        exact row_ne ho.l ho.s (by decide) hvl hx,
      ht.row ho.m fun x hx hxT => by
        simp at hxT
        subst hxT
        exact row_ne ho.l ho.m (by decide) hvl hx,
      ht.row ho.x fun x hx hxT => by
        simp at hxT
        subst hxT
        exact row_ne ho.l ho.x (by decide) hvl hx⟩
  refine ⟨_, hset, ?_, h3.trans (ht.mono fun x hx => .inl (by simp at hx; rw [hx]; exact hgT))⟩
  rw [List.map_set, ← h2]
  refine List.ext_getElem (by simp) fun j h1 h2 => ?_
  rw [List.getElem_set]
  split
  · rename_i e
    subst e
    simp
  · rfl
theorem OwnT.min {w0 w : World} {B : Nat} {va : Value} {us : List CellV} (h : OwnT w0 B va us w) {i : Nat} (hi : i < us.length) {ao : Option Addr} {n cap k : Nat} (hu : us[i].vm = .slice ao n cap) (hk : k < n) : ∃ g, ao = some ⟨g, 0, none⟩ ∧
    (∃ x, w.cell? ⟨g, k, none⟩ = some x) ∧ (∀ o, w.frozen? ⟨g, o, none⟩ = false) ∧ ∀ (x : Int), OwnT w0 B va us (w.setCell ⟨g, k, none⟩ (.int .i64 x)) := by
  obtain ⟨ps, h1, h2, h3⟩ := h
  have hl : us.length = ps.length := by rw [← h2]; simp
  have hi' : i < ps.length := by omega
  have hui : us[i] = ps[i].1 := by simp [← h2]
  have ho := h1.each ps[i] (List.getElem_mem hi')
  rw [hui] at hu
  have hr := ho.m
  rw [hu] at hr
  have hn : ps[i].2.mins.length = n := by
    obtain ⟨_, _, e', _⟩ := SlAt.shape (SlAt.own hr)
    simp only [Value.slice.injEq] at e'
    exact e'.2.1.symm
  rw [hn] at hr
  obtain ⟨g, cap', e, hgs, hgB⟩ := row_some hr (by omega)
  simp only [Value.slice.injEq] at e
  obtain ⟨rfl, _, rfl⟩ := e
  obtain ⟨c0, cf⟩ := row_int_at (k := k) hr (by omega)
  refine ⟨g, rfl, ⟨_, c0⟩, cf, fun s => ?_⟩
  have hgi : g ∈ ps[i].1.blks := mem_blks.2 (.inr (.inr (.inl (by rw [hu]; rfl))))
  have hgT : g ∈ us.flatMap CellV.blks := List.mem_flatMap.2 ⟨us[i], List.getElem_mem hi, by rw [hui]; exact hgi⟩
  have ht : TurnO [g] w (w.setCell ⟨g, k, none⟩ (.int .i64 s)) := (TurnO.refl _ _).setCell (.inl (by simp)) _
  have hnd := h1.nodup_at hi'
  have hvm : ps[i].1.vm.ownBlock = some g := by rw [hu]; rfl
  have hset := OwnCs.set (d := { ps[i].2 with mins := ps[i].2.mins.set k s }) h1 hi' ht (fun x hx => .inl (by simp at hx; rw [hx]; exact hgi))
    (by
      have e : (ps.set i (ps[i].1, { ps[i].2 with mins := ps[i].2.mins.set k s })).flatMap rowP = ps.flatMap rowP := by
        rw [List.flatMap_def, List.flatMap_def, List.map_set]
        congr 1
        refine List.ext_getElem (by simp) fun j h1 h2 => ?_
        rw [List.getElem_set]
        split
        · rename_i e
          subst e
          simp [rowP, CellV.row]
        · rfl
      rw [e]
      exact ht.row h1.row fun x hx hxT => by
        simp at hxT
        subst hxT
        exact h1.out hx (List.mem_flatMap.2 ⟨ps[i], List.getElem_mem hi', hgi⟩))
    ⟨ht.row ho.l fun x hx hxT => by
        simp at hxT
        subst hxT
        exact row_ne ho.m ho.l (by decide) hvm hx,
      ht.row ho.s fun x hx hxT => by
        simp at hxT
        subst hxT
        exact row_ne ho.m ho.s (by decide) hvm hx,
      by
        have hnew := row_int (k := k) hr s
        rw [hu]
        simpa [hn] using hnew,
      ht.row ho.x fun x hx hxT => by
        simp at hxT
        subst hxT
        have hap := (ApartC.of (u' := ⟨.slice none 0 0, .slice none 0 0, .slice none 0 0, .slice none 0 0⟩) hnd (fun g hg hg' => by simp [CellV.blks, Value.ownBlock] at hg')).mx
        exact hap _ hvm hx⟩
  refine ⟨_, hset, ?_, h3.trans (ht.mono fun x hx => .inl (by simp at hx; rw [hx]; exact hgT))⟩
  rw [List.map_set, ← h2]
  refine List.ext_getElem (by simp) fun j h1 h2 => ?_
  rw [List.getElem_set]
  split
  · rename_i e
    subst e
    simp
  · rfl
/-- The program's answer: cells of its own. -/
theorem roll_own (s : SchD) (rows : List RowD) (vd vm v : Value) (w : World) (hd : StrsSl w vd s.ds) (hm : StrsSl w vm s.ms) (td : Texts s.ds) (tm : Texts s.ms) (hv : RowsSl w v rows) (hok : RowsOk rows) (hlen : rows.length ≤ 100000) :
    Calls Try.prog 27 #[.agg #[vd, vm, .int .i64 s.g], v] w fun e w' => ∃ v ps, e = .returned (.tuple #[v, .int .i64 (rollE s rows)]) ∧ OwnCs w' w.heap.size v ps ∧ cellsP ps = outL s rows ∧ Below w.heap.size w w' :=
  (rollRoll_any s rows vd vm v w hd hm td tm hv hok hlen).mono fun e w' ⟨hb, h⟩ => by
    rcases h with ⟨hE, v, ps, rfl, ho, hc⟩ | ⟨hE, rfl⟩
    · exact ⟨v, ps, by rw [hE], ho, by rw [outL_ok hE, ← hc], hb⟩
    · exact ⟨_, [], rfl, OwnCs.nil _ _, by unfold outL; rw [if_neg hE]; rfl, hb⟩
end Go.Proofs.Ytdgeinipdphoeaa
