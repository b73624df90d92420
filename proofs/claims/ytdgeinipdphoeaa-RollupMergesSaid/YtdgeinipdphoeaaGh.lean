/- Texts joined: RomA, RomB, RomC, RomD. -/
import Derived.Test.YtdgeinipdphoeaaGg
import Derived.Test.YtdgeinipdphoeaaGe
import Derived.Test.YtdgeinipdphoeaaGd
import Derived.Test.YtdgeinipdphoeaaGa
import Derived.Deep.Strs
import Derived.Test.YtdgeinipdphoeaaGb
/- Rollup: the law's 'shown' is true. -/
namespace Go.Proofs.Ytdgeinipdphoeaa
set_option linter.unusedVariables false
set_option linter.unusedSimpArgs false
set_option maxRecDepth 100000
open Go.ChangeShapes Go.WideShapes Go.ChangeAt Go.RowKit

abbrev bA : ByteArray := { data := #[97] }
abbrev bN : ByteArray := { data := #[110] }
abbrev bX : ByteArray := { data := #[120] }
def shS : SchD := ⟨[bA], [bN], 60⟩
def shR : List RowD := [⟨61, [⟨bX, false⟩], [5]⟩, ⟨119, [⟨bX, false⟩], [-2]⟩, ⟨0, [⟨bX, false⟩], [1]⟩]
theorem sh_right : okSch shS = true := by decide +kernel
theorem sh_fits : ∀ r ∈ shR, fitsR shS r = true := by decide +kernel
theorem sh_unfit : fitsR shS ⟨0, [], []⟩ = false := by decide +kernel
theorem sh_roll : rollL shS shR = [⟨0, [⟨bX, false⟩], 1, [1], [1], [1]⟩, ⟨60, [⟨bX, false⟩], 2, [3], [-2], [5]⟩] := by kernel_rfl
theorem sh_err : rollE shS shR = 0 := by
  unfold rollE
  rw [if_pos sh_right, if_pos (List.all_eq_true.2 sh_fits), sh_roll, if_pos (by decide +kernel)]
theorem sh_of : ofE shS ⟨0, [], []⟩ = 101 := by
  unfold ofE
  rw [if_pos sh_right, if_neg (by rw [sh_unfit]; simp)]

theorem SlAt.blk {w : World} {b : Nat} {cs : Array Value} {T : TypeId} {n size : Nat} {l : List Value} (h : w.heap[b]? = some (.cells cs T (0, 0))) (hs : cs.size = n * size) (hn : n ≤ 1000) (hl : cs.toList = l := by rfl) : SlAt w (.slice (some ⟨b, 0, none⟩) n n) n size l := by
  subst hl
  refine ⟨by simpa using hs, _, n, rfl, Nat.le_refl _, (by unfold maxLen; omega), (fun h => by cases h), fun _ => ⟨b, 0, rfl, fun j u hj => ?_⟩⟩
  rw [blk_cell h, Nat.zero_add]
  simpa using hj
set_option maxHeartbeats 4000000 in
theorem shown12_any (w : World) : Calls Try.prog 25 #[] w fun e w' => e = .returned (.bool true) ∧ Below w.heap.size w w' := by
  have td : Texts shS.ds := ⟨by decide, fun s hs => by simp [shS] at hs; subst hs; decide⟩
  have tm : Texts shS.ms := ⟨by decide, fun s hs => by simp [shS] at hs; subst hs; decide⟩
  have tv : Vals [⟨bX, false⟩] := ⟨by simp, fun v hv => by simp at hv; subst hv; decide⟩
  have hok : RowsOk shR := fun r hr => by
    simp [shR] at hr
    rcases hr with rfl | rfl | rfl <;> exact ⟨tv, fun x hx => by simp at hx; subst hx; unfold I64; omega⟩
  have HRO := hid (fun W vd vm v h1 h2 h3 => rollRoll_any shS shR vd vm v W h1 h2 td tm h3 hok (by decide))
  have HOF := hid (fun W vd vm h1 h2 => rollOf_any shS ⟨0, [], []⟩ vd vm (.slice none 0 0) (.slice none 0 0) W h1 h2 td tm (SlAt.nil _ _) ⟨by simp, by simp⟩ (SlAt.nil _ _) (by simp))
  clear td tm tv hok
  obtain ⟨W8, hW8⟩ : ∃ W8, ((((((((w.alloc (.cells #[.string bA] 9)).alloc (.cells #[.string bN] 9)).alloc (.cells #[.slice (some ⟨w.heap.size, 0, none⟩) 1 1, .slice (some ⟨w.heap.size + 1, 0, none⟩) 1 1, .int .i64 60] 24)).alloc (.cells #[.string bX, .bool false] 54)).alloc (.cells #[.int .i64 5] 2)).alloc (.cells #[.int .i64 (-2)] 2)).alloc (.cells #[.int .i64 1] 2)).alloc (.cells #[.int .i64 61, .slice (some ⟨w.heap.size + 1 + 1 + 1, 0, none⟩) 1 1, .slice (some ⟨w.heap.size + 1 + 1 + 1 + 1, 0, none⟩) 1 1, .int .i64 119, .slice (some ⟨w.heap.size + 1 + 1 + 1, 0, none⟩) 1 1, .slice (some ⟨w.heap.size + 1 + 1 + 1 + 1 + 1, 0, none⟩) 1 1, .int .i64 0, .slice (some ⟨w.heap.size + 1 + 1 + 1, 0, none⟩) 1 1, .slice (some ⟨w.heap.size + 1 + 1 + 1 + 1 + 1 + 1, 0, none⟩) 1 1] 28)) = W8 := ⟨_, rfl⟩
  have k0 : W8.heap[w.heap.size]? = some (.cells #[.string bA] 9 (0, 0)) := by rw [← hW8]; (simp (disch := first | omega | (simp only [World.size_alloc, World.size_setCell, World.size_drew]; done) | (simp only [World.size_alloc, World.size_setCell, World.size_drew]; omega)) only [heap_at, heap_past, heap_set_other, heap_set_same])
  have k1 : W8.heap[w.heap.size + 1]? = some (.cells #[.string bN] 9 (0, 0)) := by rw [← hW8]; (simp (disch := first | omega | (simp only [World.size_alloc, World.size_setCell, World.size_drew]; done) | (simp only [World.size_alloc, World.size_setCell, World.size_drew]; omega)) only [heap_at, heap_past, heap_set_other, heap_set_same])
  have k2 : W8.heap[w.heap.size + 1 + 1]? = some (.cells #[.slice (some ⟨w.heap.size, 0, none⟩) 1 1, .slice (some ⟨w.heap.size + 1, 0, none⟩) 1 1, .int .i64 60] 24 (0, 0)) := by rw [← hW8]; (simp (disch := first | omega | (simp only [World.size_alloc, World.size_setCell, World.size_drew]; done) | (simp only [World.size_alloc, World.size_setCell, World.size_drew]; omega)) only [heap_at, heap_past, heap_set_other, heap_set_same])
  have k3 : W8.heap[w.heap.size + 1 + 1 + 1]? = some (.cells #[.string bX, .bool false] 54 (0, 0)) := by rw [← hW8]; (simp (disch := first | omega | (simp only [World.size_alloc, World.size_setCell, World.size_drew]; done) | (simp only [World.size_alloc, World.size_setCell, World.size_drew]; omega)) only [heap_at, heap_past, heap_set_other, heap_set_same])
  have k4 : W8.heap[w.heap.size + 1 + 1 + 1 + 1]? = some (.cells #[.int .i64 5] 2 (0, 0)) := by rw [← hW8]; (simp (disch := first | omega | (simp only [World.size_alloc, World.size_setCell, World.size_drew]; done) | (simp only [World.size_alloc, World.size_setCell, World.size_drew]; omega)) only [heap_at, heap_past, heap_set_other, heap_set_same])
  have k5 : W8.heap[w.heap.size + 1 + 1 + 1 + 1 + 1]? = some (.cells #[.int .i64 (-2)] 2 (0, 0)) := by rw [← hW8]; (simp (disch := first | omega | (simp only [World.size_alloc, World.size_setCell, World.size_drew]; done) | (simp only [World.size_alloc, World.size_setCell, World.size_drew]; omega)) only [heap_at, heap_past, heap_set_other, heap_set_same])
  have k6 : W8.heap[w.heap.size + 1 + 1 + 1 + 1 + 1 + 1]? = some (.cells #[.int .i64 1] 2 (0, 0)) := by rw [← hW8]; (simp (disch := first | omega | (simp only [World.size_alloc, World.size_setCell, World.size_drew]; done) | (simp only [World.size_alloc, World.size_setCell, World.size_drew]; omega)) only [heap_at, heap_past, heap_set_other, heap_set_same])
  have k7 : W8.heap[w.heap.size + 1 + 1 + 1 + 1 + 1 + 1 + 1]? = some (.cells #[.int .i64 61, .slice (some ⟨w.heap.size + 1 + 1 + 1, 0, none⟩) 1 1, .slice (some ⟨w.heap.size + 1 + 1 + 1 + 1, 0, none⟩) 1 1, .int .i64 119, .slice (some ⟨w.heap.size + 1 + 1 + 1, 0, none⟩) 1 1, .slice (some ⟨w.heap.size + 1 + 1 + 1 + 1 + 1, 0, none⟩) 1 1, .int .i64 0, .slice (some ⟨w.heap.size + 1 + 1 + 1, 0, none⟩) 1 1, .slice (some ⟨w.heap.size + 1 + 1 + 1 + 1 + 1 + 1, 0, none⟩) 1 1] 28 (0, 0)) := by rw [← hW8]; (simp (disch := first | omega | (simp only [World.size_alloc, World.size_setCell, World.size_drew]; done) | (simp only [World.size_alloc, World.size_setCell, World.size_drew]; omega)) only [heap_at, heap_past, heap_set_other, heap_set_same])
  have hB : Below w.heap.size w W8 := by rw [← hW8]; (repeat' (first | (with_reducible exact Below.refl _ _) | (with_reducible assumption) | (with_reducible refine Below.new ?_ _) | (with_reducible refine Below.alloc ?_ ?_ _) | (with_reducible refine Below.drew ?_) | (with_reducible refine Below.drewN ?_ _) | (with_reducible refine Below.setCell ?_ ?_ _) | (refine Below.step ?_ (by assumption)) | go_size))
  have z8 := blk_lt k7
  have hd : StrsSl W8 (.slice (some ⟨w.heap.size, 0, none⟩) 1 1) shS.ds := SlAt.blk k0 (by decide) (by decide)
  have hm : StrsSl W8 (.slice (some ⟨w.heap.size + 1, 0, none⟩) 1 1) shS.ms := SlAt.blk k1 (by decide) (by decide)
  have hv : ValsSl W8 (.slice (some ⟨w.heap.size + 1 + 1 + 1, 0, none⟩) 1 1) [⟨bX, false⟩] := SlAt.blk k3 (by decide) (by decide)
  have h5 : IntsSl W8 (.slice (some ⟨w.heap.size + 1 + 1 + 1 + 1, 0, none⟩) 1 1) [5] := SlAt.blk k4 (by decide) (by decide)
  have h6 : IntsSl W8 (.slice (some ⟨w.heap.size + 1 + 1 + 1 + 1 + 1, 0, none⟩) 1 1) [-2] := SlAt.blk k5 (by decide) (by decide)
  have h7 : IntsSl W8 (.slice (some ⟨w.heap.size + 1 + 1 + 1 + 1 + 1 + 1, 0, none⟩) 1 1) [1] := SlAt.blk k6 (by decide) (by decide)
  have hr : RowsSl W8 (.slice (some ⟨w.heap.size + 1 + 1 + 1 + 1 + 1 + 1 + 1, 0, none⟩) 3 3) shR := by
    refine ⟨_, 3, rfl, Nat.le_refl _, by decide, (fun h => by cases h), fun _ => ⟨_, 0, rfl, fun i hi => ?_⟩⟩
    have hi3 : i < 3 := hi
    match i, hi3 with
    | 0, _ => exact ⟨[_, _, _], rfl, ⟨_, _, rfl, hv, h5⟩, fun j u hj => by
        have hj3 : j < 3 := (List.getElem?_eq_some_iff.1 hj).1
        rw [blk_cell k7]
        match j, hj3 with
        | 0, _ => exact hj
        | 1, _ => exact hj
        | 2, _ => exact hj⟩
    | 1, _ => exact ⟨[_, _, _], rfl, ⟨_, _, rfl, hv, h6⟩, fun j u hj => by
        have hj3 : j < 3 := (List.getElem?_eq_some_iff.1 hj).1
        rw [blk_cell k7]
        match j, hj3 with
        | 0, _ => exact hj
        | 1, _ => exact hj
        | 2, _ => exact hj⟩
    | 2, _ => exact ⟨[_, _, _], rfl, ⟨_, _, rfl, hv, h7⟩, fun j u hj => by
        have hj3 : j < 3 := (List.getElem?_eq_some_iff.1 hj).1
        rw [blk_cell k7]
        match j, hj3 with
        | 0, _ => exact hj
        | 1, _ => exact hj
        | 2, _ => exact hj⟩
  have HR := hid (HRO.out W8 _ _ _ hd hm hr)
  have HK := hid (And.intro hB (And.intro k2 (And.intro hd hm)))
  have HW8 := hid hW8
  have hz8 : w.heap.size + 1 + 1 < W8.heap.size := blk_lt k2
  clear k0 k1 k2 k3 k4 k5 k6 k7 hB hd hm hv h5 h6 h7 hr HRO hW8 z8
  go_enter Try.func25, Try.ntmps25
  go_wp2_with fail
  rw [HW8.out]
  refine HR.out.mono ?_
  rintro e w2 ⟨hb2, h2⟩
  rw [sh_err] at h2
  rcases h2 with ⟨_, v, ps, rfl, ho2, hc2⟩ | ⟨h2, _⟩
  case inr => exact absurd rfl h2
  rw [sh_roll] at hc2
  have HK2 := hid (And.intro (HK.out.1.trans (hb2.mono HK.out.1.size)) (And.intro (blk_below HK.out.2.1 hb2) (And.intro (HK.out.2.2.1.below hb2) (HK.out.2.2.2.below hb2))))
  obtain ⟨s0, s1, s2, _, _, _⟩ := three_at HK2.out.2.1
  have HO2 := hid ho2; have HC2 := hid hc2
  obtain ⟨vo, vc, e⟩ := row_shape ho2.row
  have hpl : ps.length = 2 := by have := congrArg List.length hc2; simpa [cellsP] using this
  rw [hpl] at e
  subst e
  have hz2 : w.heap.size + 1 + 1 < w2.heap.size := blk_lt HK2.out.2.1
  clear HR HK hb2 ho2 hc2 hpl hz8
  go_wp2_with fail
  refine (HOF.out w2 _ _ HK2.out.2.2.1 HK2.out.2.2.2).mono ?_
  rintro e w3 ⟨hb3, h3⟩
  rw [sh_of] at h3
  rcases h3 with ⟨h3, _⟩ | ⟨_, rfl⟩
  case inl => exact absurd h3 (by decide)
  have hB3 := HK2.out.1.trans (hb3.mono HK2.out.1.size)
  have ho3 := HO2.out.below hb3
  have hc3 := HC2.out
  obtain ⟨p0, p1, rfl⟩ : ∃ p0 p1, ps = [p0, p1] := by
    match ps, hc3 with
    | [p0, p1], _ => exact ⟨p0, p1, rfl⟩
  simp only [cellsP, List.map_cons, List.map_nil, List.cons.injEq, and_true] at hc3
  obtain ⟨hc0, hc1⟩ := hc3
  have hb4 : Below w3.heap.size w3 (w3.alloc (.cells #[.int .i64 0, .slice none 0 0, .int .i64 0, .slice none 0 0, .slice none 0 0, .slice none 0 0] 46)) := (Below.refl _ _).new _
  have ho4 := ho3.below hb4
  obtain ⟨g, cap', e, _, _⟩ := row_some ho4.row (by simp)
  simp only [Value.slice.injEq] at e
  obtain ⟨rfl, _, rfl⟩ := e
  have h1 := ho4.each p1 (by simp)
  rw [hc1] at h1
  obtain ⟨gs, cs, e, _, _⟩ := row_some h1.s (by decide)
  have hsw := h1.s
  rw [e] at hsw
  obtain ⟨t0, t1, _⟩ := row_wide_at (k := 0) hsw (by decide)
  have cAt : ∀ j (x : Value), (rowP p1)[j]? = some x → (w3.alloc (.cells #[.int .i64 0, .slice none 0 0, .int .i64 0, .slice none 0 0, .slice none 0 0, .slice none 0 0] 46)).cell? ⟨g, 6 + j, none⟩ = some x := fun j x hj => by
    have hj6 : j < 6 := (List.getElem?_eq_some_iff.1 hj).1
    rw [ho4.row.cellAt _ (by simp; omega), show 6 + j = 1 * 6 + j from rfl, flat_at 6 rowP rowP_len [p0, p1] 1 j hj6 (by simp)]
    exact hj
  have c0 := cAt 0 (.int .i64 60) (by show some (Value.int .i64 p1.2.t) = _; rw [hc1])
  have c2 := cAt 2 (.int .i64 2) (by show some (Value.int .i64 p1.2.n) = _; rw [hc1])
  have c3 := cAt 3 (.slice (some ⟨gs, 0, none⟩) 1 cs) (by show some p1.1.vs = _; rw [e]; rfl)
  have hcount : countW (cellsP [p0, p1]) = 3 := by
    simp only [cellsP, List.map_cons, List.map_nil, hc0, hc1]
    kernel_rfl
  have hcells := ho4.is
  have HCT := hid (fun x => count_any _ _ (World.plus (w3.alloc (.cells #[.int .i64 0, .slice none 0 0, .int .i64 0, .slice none 0 0, .slice none 0 0, .slice none 0 0] 46)) x) (hcells.below (World.plus_below _ x)))
  rw [hcount] at HCT
  have HOI := hid (fun W => of_any 3 (by decide) W)
  have pc0 := World.plus_cell c0
  have pc2 := World.plus_cell c2
  have pc3 := World.plus_cell c3
  have u0 : (w3.alloc (.cells #[.int .i64 0, .slice none 0 0, .int .i64 0, .slice none 0 0, .slice none 0 0, .slice none 0 0] 46)).cell? ⟨gs, 0, none⟩ = some (.int .i64 (hiW 3)) := t0
  have u1 : (w3.alloc (.cells #[.int .i64 0, .slice none 0 0, .int .i64 0, .slice none 0 0, .slice none 0 0, .slice none 0 0] 46)).cell? ⟨gs, 1, none⟩ = some (.int .u64 (loW 3)) := t1
  have pt0 := World.plus_cell u0
  have pt1 := World.plus_cell u1
  have HB4 := hid (hB3.trans (hb4.mono hB3.size))
  clear ho3 ho4 hc0 hc1 h1 hsw cAt hcount hcells hb3 hB3 hb4 HO2 HC2 e t0 t1
  go_wp2_with fail
  generalize hiW 3 = y1 at *
  generalize loW 3 = y2 at *
  refine wp_region_plus (by kernel_rfl) (by kernel_rfl) ?_
  repeat (first | go_big_quiet_skip | (go_big_quiet_want; go_big_quiet_op; first | go_big_quiet_on | go_big_quiet_call ((first | (go_at_call 55; exact Calls.plus_of (HOI.out _)) | (go_at_call 33; exact Calls.plus_of (HCT.out _))))))
  refine wpQuiet_nil ?_
  rintro _ ⟨xq, rfl⟩
  have kB := World.plus_below (w3.alloc (.cells #[.int .i64 0, .slice none 0 0, .int .i64 0, .slice none 0 0, .slice none 0 0, .slice none 0 0] 46)) xq
  have kW := HB4.out.step kB
  clear kB
  go_wp2
  go_ret
  exact ⟨rfl, kW⟩
end Go.Proofs.Ytdgeinipdphoeaa
/- Rollup: the law's 'Rows'. -/
namespace Go.Proofs.Ytdgeinipdphoeaa
set_option linter.unusedVariables false
set_option linter.unusedSimpArgs false
set_option maxRecDepth 100000
open Go.ChangeShapes Go.WideShapes Go.ChangeAt Go.RowKit

theorem info_row : (Try.prog.info? 28).map (fun i => (i.zero, i.size, i.bytes)) = some (some (.agg #[.int .i64 0, .slice none 0 0, .slice none 0 0]), 3, 56) := by kernel_rfl
def fewR (r : RowD) : RowD := ⟨r.t, valsCut r.l, r.xs.take 10⟩
def rowsCut (n : Nat) (rows : List RowD) : List RowD := (rows.take n).map fewR
abbrev RowP := (Value × Value) × RowD
def rowR (p : RowP) : List Value := [.int .i64 p.2.t, p.1.1, p.1.2]
theorem rowR_len (p : RowP) : (rowR p).length = 3 := rfl
/-- Values, numbers that lie in old memory, or in a row of the call's own. -/
def HeldV (w0 w : World) (v : Value) (l : List ValD) : Prop := ValsSl w0 v l ∨ w.ownsRow w0.heap.size 54 2 v l.length (l.flatMap ValD.cells)
def HeldI (w0 w : World) (v : Value) (l : List Int) : Prop := IntsSl w0 v l ∨ w.ownsRow w0.heap.size 2 1 v l.length (l.map (Value.int .i64))
theorem HeldV.is {w0 w : World} {v : Value} {l : List ValD} (h : HeldV w0 w v l) (hb : Below w0.heap.size w0 w) : ValsSl w v l := h.elim (fun h => h.below hb) ValsSl.own
theorem HeldI.is {w0 w : World} {v : Value} {l : List Int} (h : HeldI w0 w v l) (hb : Below w0.heap.size w0 w) : IntsSl w v l := h.elim (fun h => h.below hb) IntsSl.own
theorem HeldV.step {w0 w w' : World} {v : Value} {l : List ValD} (h : HeldV w0 w v l) (hb : Below w.heap.size w w') : HeldV w0 w' v l := h.imp id fun h => row_below h hb
theorem HeldI.step {w0 w w' : World} {v : Value} {l : List Int} (h : HeldI w0 w v l) (hb : Below w.heap.size w w') : HeldI w0 w' v l := h.imp id fun h => row_below h hb
/-- A list of rows that the call made. -/
structure OwnRs (w0 w : World) (v : Value) (ps : List RowP) : Prop where
  row : w.ownsRow w0.heap.size 28 3 v ps.length (ps.flatMap rowR)
  each : ∀ p ∈ ps, HeldV w0 w p.1.1 p.2.l ∧ HeldI w0 w p.1.2 p.2.xs
  below : Below w0.heap.size w0 w
theorem OwnRs.nil {w0 w : World} (h : Below w0.heap.size w0 w) : OwnRs w0 w (.slice none 0 0) [] := ⟨World.ownsRow_nil _ _ _ _, fun _ h => (by simp at h), h⟩
theorem OwnRs.is {w0 w : World} {v : Value} {ps : List RowP} (h : OwnRs w0 w v ps) : RowsSl w v (ps.map fun p => p.2) := by
  have hr := h.row
  rcases h.row.2 with ⟨rfl, h0⟩ | ⟨g, cap, cur, rfl, _, _, h3, h4, _, _⟩
  · have : ps = [] := List.eq_nil_of_length_eq_zero h0
    subst this
    exact ElemsSl.nil w
  · refine ⟨some ⟨g, 0, none⟩, cap, by simp, by simpa using h3, h4, (fun h => by cases h), fun hl => ⟨g, 0, rfl, fun i hi => ?_⟩⟩
    have hi' : i < ps.length := by simpa using hi
    obtain ⟨e1, e2⟩ := h.each ps[i] (List.getElem_mem hi')
    refine ⟨rowR ps[i], rfl, ⟨ps[i].1.1, ps[i].1.2, ?_, ?_, ?_⟩, fun j u hj => ?_⟩
    · simp [rowR]
    · simpa using e1.is h.below
    · simpa using e2.is h.below
    · have hj3 : j < 3 := (List.getElem?_eq_some_iff.1 hj).1
      rw [show 0 + i * 3 + j = i * 3 + j by omega, hr.cellAt _ (by omega), flat_at 3 rowR rowR_len ps i j hj3 hi', hj]
theorem OwnRs.step {w0 w w' : World} {v : Value} {ps : List RowP} (h : OwnRs w0 w v ps) (hb : Below w.heap.size w w') : OwnRs w0 w' v ps :=
  ⟨row_below h.row hb, fun p hp => ⟨(h.each p hp).1.step hb, (h.each p hp).2.step hb⟩, h.below.step hb⟩
theorem OwnRs.push {w0 w w' : World} {v v' v1 v2 : Value} {ps : List RowP} {r : RowD} (h : OwnRs w0 w v ps) (h1 : HeldV w0 w v1 r.l) (h2 : HeldI w0 w v2 r.xs)
    (hg : w.grownBy w' v.ownBlock) (hown : w'.ownsRow w0.heap.size 28 3 v' (ps.length + 1) (ps.flatMap rowR ++ rowR ((v1, v2), r))) : OwnRs w0 w' v' (ps ++ [((v1, v2), r)]) := by
  have key : ∀ {e : TypeId} {size : Nat} {x : Value} {n : Nat} {xs : List Value}, e ≠ 28 → w.ownsRow w0.heap.size e size x n xs → w'.ownsRow w0.heap.size e size x n xs := fun he hx => by
    refine hx.kept hg ?_
    cases hxo : Value.ownBlock _ with
    | none => exact .inl rfl
    | some g => exact .inr fun e => row_ne hx h.row he hxo e.symm
  have kv : ∀ {x : Value} {l : List ValD}, HeldV w0 w x l → HeldV w0 w' x l := fun hx => hx.imp id (key (by decide))
  have ki : ∀ {x : Value} {l : List Int}, HeldI w0 w x l → HeldI w0 w' x l := fun hx => hx.imp id (key (by decide))
  refine ⟨by simpa using hown, fun p hp => ?_, own_below h.row hg h.below (Nat.le_refl _)⟩
  rcases List.mem_append.1 hp with hp | hp
  · exact ⟨kv (h.each p hp).1, ki (h.each p hp).2⟩
  · obtain rfl : p = ((v1, v2), r) := by simpa using hp
    exact ⟨kv h1, ki h2⟩
def RowsPost (w : World) (rows : List RowD) (e : Ending) (w' : World) : Prop := ∃ v ps, e = .returned v ∧ OwnRs w w' v ps ∧ ps.map (fun p => p.2) = rows

set_option maxHeartbeats 4000000 in
theorem lawRows_any (rows : List RowD) (n : Nat) (v : Value) (w : World) (hv : RowsSl w v rows) (hsz : ∀ r ∈ rows, ∀ x ∈ r.l, x.s.size ≤ 9223372036854775807) (hn : n ≤ 1000) :
    Calls Try.prog 26 #[v, .int .i64 (n : Int)] w (RowsPost w (rowsCut n rows)) := by
  obtain ⟨ic, hi, hiz0, hiz1, hiz2⟩ := info_parts info_row
  have HV := hid hv
  have HF := hid (fun k (hk : k < rows.length) vl vn W (h1 : ValsSl W vl rows[k].l) (h2 : IntsSl W vn rows[k].xs) => fewRow_any vl vn rows[k].t rows[k].l rows[k].xs W h1 (hsz _ (List.getElem_mem hk)) h2)
  obtain ⟨ao, cap, rfl, hc1, hc2, _⟩ := hv.shape
  obtain ⟨N, hN⟩ : ∃ N, min rows.length n = N := ⟨_, rfl⟩
  have HCN : Hid ((N = rows.length ∨ N = n) ∧ N ≤ rows.length ∧ N ≤ n) := by unfold Hid; omega
  have HTK : Hid (rows.take N = rows.take n) := by
    have := HCN.out
    unfold Hid
    rcases this.1 with h | h
    · rw [h, List.take_length, List.take_of_length_le (by omega)]
    · rw [h]
  clear hv hsz hN
  unfold maxLen at hc2
  go_enter Try.func26, Try.ntmps26
  go_wp2
  go_loopw [5, 6] (fun a i wr => ∃ (k : Nat) (qs : List RowP), k ≤ N ∧ i = .int .i64 (k : Nat) ∧ OwnRs w wr a qs ∧ qs.map (fun p => p.2) = (rows.take k).map fewR) (fun _ i _ => N - (intOf i).toNat)
  case atStart => exact ⟨0, [], Nat.zero_le _, rfl, OwnRs.nil (Below.refl _ _), by simp⟩
  case round =>
    obtain ⟨k, qs, hk, rfl, hq, hqc⟩ := hrel
    have HQ := hid hq; have HQC := hid hqc
    have hk0 : (0 : Int) ≤ (k : Int) := Int.natCast_nonneg _
    have hkL : k ≤ rows.length := by have := HCN.out; omega
    have hkn : k ≤ n := by have := HCN.out; omega
    have HQL : Hid (qs.length = k) := by
      have := congrArg List.length hqc
      unfold Hid
      simp at this
      omega
    have hql1 : qs.length ≤ 1000 := by have := HQL.out; omega
    obtain ⟨qo, qc, e⟩ := row_shape hq.row
    subst e
    have hbel := hq.below
    clear hqc hq
    by_cases hlt : k < N
    · have hlen : k < rows.length := by have := HCN.out; omega
      have hlen' : (k : Int) < (rows.length : Int) := by omega
      have hln : (k : Int) < (n : Int) := by have := HCN.out; omega
      obtain ⟨b, off, vl, vn, rfl, g1, g2, c0, c1, c2⟩ := HV.out.at hlen
      have HO := hid (HF.out k hlen vl vn wr (g1.below hbel) (g2.below hbel))
      replace c0 := cell_step c0 hbel; replace c1 := cell_step c1 hbel; replace c2 := cell_step c2 hbel
      have HG2 := hid g2
      obtain ⟨_, _, rfl, _⟩ := SlAt.shape g1
      obtain ⟨_, _, rfl, _⟩ := SlAt.shape g2
      have HTS : Hid (rows.take (k + 1) = rows.take k ++ [rows[k]]) := List.take_succ_eq_append_getElem hlen
      clear g1 g2 hbel
      generalize rows[k] = r at *
      obtain ⟨X, hX⟩ : ∃ X, r.xs.take 10 = X := ⟨_, rfl⟩
      obtain ⟨V, hV⟩ : ∃ V, valsCut r.l = V := ⟨_, rfl⟩
      rw [hX, hV] at HO
      have HFR : Hid (fewR r = ⟨r.t, V, X⟩) := by unfold Hid fewR; rw [hX, hV]
      clear hX hV
      go_wp2_with (first
        | (go_at_call 15; go_loud ((with_reducible refine HO.out.mono ?_); rintro e w2 ⟨v1, v2, rfl, ho2, hi2, hb2⟩; have hr2 := hi2 _ HG2.out; obtain ⟨xa, xc, e1⟩ := row_shape ho2; subst e1; obtain ⟨ya, yc, e2, _⟩ := SlAt.shape hr2; subst e2; have HB2 := hid hb2; have HO2 := hid ho2; have HR2 := hid hr2; have hz2 := hb2.size; clear hb2 ho2 hr2 hi2))
        | (at_builtin; go_loud (refine wpList_append_sl _ rfl _ _ 38 rfl w.heap.size 28 ic _ 3 56 Try.underlying38 hi hiz0 hiz1 hiz2 rfl (by decide) (.slice qo qs.length qc) qs.length _ rfl ((row_below HQ.out.row HB2.out).alloc _) (.slice (some ⟨w2.heap.size, 0, none⟩) 1 1) 1 _ rfl (SlAt.new w2 #[.int .i64 r.t, .slice xa V.length xc, .slice ya X.length yc] 28) (by simp [Value.oneCell']) (by unfold maxLen; omega) (by omega) (by have := HQ.out.below.size; simp; omega) ?_); intro v3 w3 hown3 hg3 hb3))
      have hpush := OwnRs.push (v' := v3) (r := ⟨r.t, V, X⟩) ((HQ.out.step HB2.out).step ((Below.refl _ _).new _)) (.inr ((HO2.out.base_le (b' := w.heap.size) (by have := HQ.out.below.size; omega)).alloc _)) (.inl HR2.out) hg3 (by exact hown3)
      have H3 := hid hpush
      clear hpush hown3 hg3 hb3
      go_roundw
      case rel =>
        refine ⟨k + 1, _, hlt, by go_num, H3.out, ?_⟩
        rw [HTS.out, List.map_append, List.map_append, HQC.out, List.map_cons, List.map_nil, List.map_cons, List.map_nil, HFR.out]
      case measure => simp [intOf]; omega
    · obtain rfl : k = N := by omega
      have HR := hid (show (rows.take k).map fewR = rowsCut n rows by unfold rowsCut; rw [HTK.out])
      have hex : k = rows.length ∨ (k < rows.length ∧ k = n) := by have := HCN.out; omega
      rcases hex with h | ⟨h, h2⟩
      · have g2 : decide ((k : Int) < (rows.length : Int)) = false := by simp; omega
        have g3 : decide (k < rows.length) = false := by simp; omega
        clear h hbel
        go_wp2
        go_ret
        exact ⟨_, qs, rfl, HQ.out, by rw [HQC.out, HR.out]⟩
      · have g2 : (k : Int) < (rows.length : Int) := by omega
        have g3 : decide ((k : Int) < (n : Int)) = false := by simp; omega
        have g4 : decide (k < n) = false := by simp; omega
        clear h h2 hbel
        go_wp2
        go_ret
        exact ⟨_, qs, rfl, HQ.out, by rw [HQC.out, HR.out]⟩
end Go.Proofs.Ytdgeinipdphoeaa
/- How arguments that are lists of rows, of cells are opened. -/
namespace Go.Proofs.Ytdgeinipdphoeaa
set_option linter.unusedVariables false
set_option linter.unusedSimpArgs false
set_option maxRecDepth 100000
open Go.ChangeShapes Go.WideShapes Go.ChangeAt Go.RowKit Go.Joins Go.Deep

theorem list_of {α : Type} {len : Nat} {R : Nat → α → Prop} (h : ∀ i, i < len → ∃ x, R i x) : ∃ l : List α, l.length = len ∧ ∀ i (hi : i < l.length), R i l[i] := by
  refine ⟨List.ofFn fun i : Fin len => Classical.choose (h i.1 i.2), by simp, fun i hi => ?_⟩
  have hi' : i < len := by simpa using hi
  rw [List.getElem_ofFn]
  exact Classical.choose_spec (h i hi')
section
variable {H : Type} {enc : TypeId × Value → H} {W : World} {base : Nat}
def RowFine (r : RowD) : Prop := (∀ x ∈ r.l, x.s.size ≤ 9223372036854775807) ∧ (∀ n ∈ r.xs, I64 n) ∧ I64 r.t
theorem row_of {cs : List Value} {k : Nat} {y : DataW H × List MemPlace} (hl : cs.length = 3) (h : DataW.trod enc Try.prog W 0 (fun _ => true) true k 28 cs = some y) : ∃ r : RowD, RowIs W cs r ∧ RowFine r := by
  obtain ⟨y0, y1, y2, n, _, _, h0, h1, h2⟩ := trod_struct3 Try.underlying28 h
  match cs, hl with
  | [a, b, c], _ =>
    have c0 : Try.prog.cellsOf 2 = 1 := by kernel_rfl
    have c1 : Try.prog.cellsOf 25 = 1 := by kernel_rfl
    have c2 : Try.prog.cellsOf 26 = 1 := by kernel_rfl
    rw [c0] at h0
    rw [c1] at h1
    rw [c2] at h2
    obtain ⟨t, e, _, ht⟩ := DataW.trod_int Try.underlying2 h0
    obtain ⟨l, a1, a2⟩ := open_vals Try.underlying25 h1
    obtain ⟨xs, b1, b2⟩ := open_nums Try.underlying26 h2
    simp at e
    subst e
    exact ⟨⟨t, l, xs⟩, ⟨_, _, rfl, a1, b1⟩, a2, b2, i64_of_wf ht⟩
theorem open_rows {t : TypeId} (ht : Try.prog.underlying t = some (.slice 28)) {v : Value} {fuel : Nat} {x : DataW H × List MemPlace} (h : DataW.trod enc Try.prog W 0 (fun _ => true) true fuel t [v] = some x) :
    ∃ rows, RowsSl W v rows ∧ ∀ r ∈ rows, RowFine r := by
  obtain ⟨ao, len, cap, rfl, h1, h2, h3, hA⟩ := open_sl 3 ht (by kernel_rfl) (by decide) h
  by_cases h0 : 0 < len
  · obtain ⟨b, off, rfl, hc⟩ := hA h0
    obtain ⟨l, hl, hR⟩ := list_of (R := fun i (r : RowD) => RowFine r ∧ ∃ cs : List Value, cs.length = 3 ∧ RowIs W cs r ∧ ∀ j u, cs[j]? = some u → W.cell? ⟨b, off + i * 3 + j, none⟩ = some u) (fun i hi => by
      obtain ⟨cs, k, y, hl, hcell, ht'⟩ := hc i hi
      obtain ⟨r, hr, hf⟩ := row_of hl ht'
      exact ⟨r, hf, cs, hl, hr, fun j u hj => by rw [Nat.add_assoc]; exact hcell j u hj⟩)
    subst hl
    exact ⟨l, ⟨_, cap, rfl, h1, h2, (fun h => by cases h), fun _ => ⟨b, off, rfl, fun i hi => (hR i hi).2⟩⟩, fun r hr => by
      obtain ⟨i, hi, rfl⟩ := List.mem_iff_getElem.1 hr
      exact (hR i hi).1⟩
  · obtain rfl : len = 0 := by omega
    exact ⟨[], ⟨ao, cap, rfl, h1, h2, h3, fun h => by simp at h⟩, by simp⟩
/-- Wide numbers. -/
theorem wide_of {cs : List Value} {k : Nat} {y : DataW H × List MemPlace} (hl : cs.length = 2) (h : DataW.trod enc Try.prog W 0 (fun _ => true) true k 58 cs = some y) : ∃ n : Int, cs = wcells n := by
  obtain ⟨y0, y1, n, _, _, h0, h1⟩ := trod_struct2 Try.underlying58 h
  match cs, hl with
  | [a, b], _ =>
    have c0 : Try.prog.cellsOf 2 = 1 := by kernel_rfl
    have c1 : Try.prog.cellsOf 56 = 1 := by kernel_rfl
    rw [c0] at h0
    rw [c1] at h1
    obtain ⟨x, e0, _, hx⟩ := DataW.trod_int Try.underlying2 h0
    obtain ⟨z, e1, _, hz⟩ := DataW.trod_int Try.underlying56 h1
    simp at e0 e1
    subst e0 e1
    have hw := wv_words (i64_of_wf hx) (u64_of_wf hz)
    simp only [Value.agg.injEq, Array.mk.injEq, List.cons.injEq, and_true] at hw
    exact ⟨_, by unfold wcells; rw [← hw.1, ← hw.2]⟩
theorem open_wides {t : TypeId} (ht : Try.prog.underlying t = some (.slice 58)) {v : Value} {fuel : Nat} {x : DataW H × List MemPlace} (h : DataW.trod enc Try.prog W 0 (fun _ => true) true fuel t [v] = some x) :
    ∃ l, WidesSl W v l := by
  obtain ⟨ao, len, cap, rfl, h1, h2, h3, hA⟩ := open_sl 2 ht (by kernel_rfl) (by decide) h
  by_cases h0 : 0 < len
  · obtain ⟨b, off, rfl, hc⟩ := hA h0
    obtain ⟨l, hl, hR, hcells⟩ := sl_of (W := W) (n := 2) (len := len) (f := wcells) wcells_len (by decide) (b := b) (off := off) (fun _ => True) (fun i hi => by
      obtain ⟨cs, k, y, hl, hcell, ht'⟩ := hc i hi
      obtain ⟨n, hn⟩ := wide_of hl ht'
      subst hn
      exact ⟨n, trivial, hcell⟩)
    subst hl
    exact ⟨l, flat_len 2 _ wcells_len l, _, cap, rfl, h1, h2, (fun h => by cases h), fun _ => ⟨b, off, rfl, hcells⟩⟩
  · obtain rfl : len = 0 := by omega
    exact ⟨[], by simp, ao, cap, rfl, h1, h2, h3, fun h => by simp at h⟩
def CellFine (c : CellD) : Prop := (∀ x ∈ c.l, x.s.size ≤ 9223372036854775807) ∧ (∀ n ∈ c.mins, I64 n) ∧ (∀ n ∈ c.maxs, I64 n) ∧ I64 c.t ∧ I64 c.n
theorem cell_of {cs : List Value} {k : Nat} {y : DataW H × List MemPlace} (hl : cs.length = 6) (h : DataW.trod enc Try.prog W 0 (fun _ => true) true k 46 cs = some y) : ∃ c : CellD, CellIs W cs c ∧ CellFine c := by
  obtain ⟨xs, n, _, _, _, hlen, hf⟩ := DataW.trod_struct Try.underlying46 h
  match cs, hl with
  | [a0, a1, a2, a3, a4, a5], _ =>
    have c0 : Try.prog.cellsOf 2 = 1 := by kernel_rfl
    have c1 : Try.prog.cellsOf 25 = 1 := by kernel_rfl
    have c2 : Try.prog.cellsOf 26 = 1 := by kernel_rfl
    have c3 : Try.prog.cellsOf 44 = 1 := by kernel_rfl
    match xs, hlen with
    | [y0, y1, y2, y3, y4, y5], _ =>
      have h0 : DataW.trod enc Try.prog W 0 (fun _ => true) true n 2 [a0] = some y0 := by simpa [c0] using hf 0 _ rfl
      have h1 : DataW.trod enc Try.prog W 0 (fun _ => true) true n 25 [a1] = some y1 := by simpa [c1] using hf 1 _ rfl
      have h2 : DataW.trod enc Try.prog W 0 (fun _ => true) true n 2 [a2] = some y2 := by simpa [c0] using hf 2 _ rfl
      have h3 : DataW.trod enc Try.prog W 0 (fun _ => true) true n 44 [a3] = some y3 := by simpa [c3] using hf 3 _ rfl
      have h4 : DataW.trod enc Try.prog W 0 (fun _ => true) true n 26 [a4] = some y4 := by simpa [c2] using hf 4 _ rfl
      have h5 : DataW.trod enc Try.prog W 0 (fun _ => true) true n 26 [a5] = some y5 := by simpa [c2] using hf 5 _ rfl
      obtain ⟨t, e, _, ht⟩ := DataW.trod_int Try.underlying2 h0
      obtain ⟨l, p1, p2⟩ := open_vals Try.underlying25 h1
      obtain ⟨n, e', _, hn⟩ := DataW.trod_int Try.underlying2 h2
      obtain ⟨ss, q1⟩ := open_wides Try.underlying44 h3
      obtain ⟨ms, r1, r2⟩ := open_nums Try.underlying26 h4
      obtain ⟨xx, s1, s2⟩ := open_nums Try.underlying26 h5
      simp at e e'
      subst e e'
      exact ⟨⟨t, l, n, ss, ms, xx⟩, ⟨_, _, _, _, rfl, p1, q1, r1, s1⟩, p2, r2, s2, i64_of_wf ht, i64_of_wf hn⟩
theorem open_cellsL {t : TypeId} (ht : Try.prog.underlying t = some (.slice 46)) {v : Value} {fuel : Nat} {x : DataW H × List MemPlace} (h : DataW.trod enc Try.prog W 0 (fun _ => true) true fuel t [v] = some x) :
    ∃ l, CellsSl W v l ∧ ∀ c ∈ l, CellFine c := by
  obtain ⟨ao, len, cap, rfl, h1, h2, h3, hA⟩ := open_sl 6 ht (by kernel_rfl) (by decide) h
  by_cases h0 : 0 < len
  · obtain ⟨b, off, rfl, hc⟩ := hA h0
    obtain ⟨l, hl, hR⟩ := list_of (R := fun i (r : CellD) => CellFine r ∧ ∃ cs : List Value, cs.length = 6 ∧ CellIs W cs r ∧ ∀ j u, cs[j]? = some u → W.cell? ⟨b, off + i * 6 + j, none⟩ = some u) (fun i hi => by
      obtain ⟨cs, k, y, hl, hcell, ht'⟩ := hc i hi
      obtain ⟨r, hr, hf⟩ := cell_of hl ht'
      exact ⟨r, hf, cs, hl, hr, fun j u hj => by rw [Nat.add_assoc]; exact hcell j u hj⟩)
    subst hl
    exact ⟨l, ⟨_, cap, rfl, h1, h2, (fun h => by cases h), fun _ => ⟨b, off, rfl, fun i hi => (hR i hi).2⟩⟩, fun r hr => by
      obtain ⟨i, hi, rfl⟩ := List.mem_iff_getElem.1 hr
      exact (hR i hi).1⟩
  · obtain rfl : len = 0 := by omega
    exact ⟨[], ⟨ao, cap, rfl, h1, h2, h3, fun h => by simp at h⟩, by simp⟩
theorem trod_of {t e : TypeId} (ht : Try.prog.underlying t = some (.slice e)) {v : Value} {d : DataW H} {p : List MemPlace} (hv : Value.okWide Try.prog W .any base t v) (h : DataW.Trod enc Try.prog W 0 (fun _ => true) true t v d p) : ∃ fuel, DataW.trod enc Try.prog W 0 (fun _ => true) true fuel t [v] = some (d, p) := by
  obtain ⟨_, _, _, rfl⟩ := okWide_slice ht hv
  exact h
theorem open_rowsT {t : TypeId} (ht : Try.prog.underlying t = some (.slice 28)) {v : Value} {d : DataW H} {p : List MemPlace} (hv : Value.okWide Try.prog W .any base t v) (h : DataW.Trod enc Try.prog W 0 (fun _ => true) true t v d p) : ∃ rows, RowsSl W v rows ∧ ∀ r ∈ rows, RowFine r := by
  obtain ⟨fuel, hf⟩ := trod_of ht hv h
  exact open_rows ht hf
theorem open_cellsT {t : TypeId} (ht : Try.prog.underlying t = some (.slice 46)) {v : Value} {d : DataW H} {p : List MemPlace} (hv : Value.okWide Try.prog W .any base t v) (h : DataW.Trod enc Try.prog W 0 (fun _ => true) true t v d p) : ∃ l, CellsSl W v l ∧ ∀ c ∈ l, CellFine c := by
  obtain ⟨fuel, hf⟩ := trod_of ht hv h
  exact open_cellsL ht hf
theorem open_numsT {t : TypeId} (ht : Try.prog.underlying t = some (.slice 2)) {v : Value} {d : DataW H} {p : List MemPlace} (hv : Value.okWide Try.prog W .any base t v) (h : DataW.Trod enc Try.prog W 0 (fun _ => true) true t v d p) : ∃ xs, IntsSl W v xs ∧ ∀ n ∈ xs, I64 n := by
  obtain ⟨fuel, hf⟩ := trod_of ht hv h
  exact open_nums ht hf
end
end Go.Proofs.Ytdgeinipdphoeaa
/- Rollup: rows of one time and one value: their one cell. -/
namespace Go.Proofs.Ytdgeinipdphoeaa
set_option linter.unusedVariables false
set_option linter.unusedSimpArgs false
open Go.ChangeShapes Go.WideShapes Go.ChangeAt Go.RowKit

def sS : SchD := ⟨[bA], [bN], 7⟩
def sumRow (t x : Int) : RowD := ⟨t, [⟨bX, false⟩], [x]⟩
theorem sS_right : okSch sS = true := by decide +kernel
theorem okX : okV ⟨bX, false⟩ = true := by decide +kernel
theorem sum_fits (t x : Int) (h0 : 0 ≤ t) (h1 : t ≤ 1000) : fitsR sS (sumRow t x) = true := by
  have h := sS_right
  unfold okSch at h
  unfold fitsR fitsS sumRow
  rw [h]
  simp only [sS, List.length_cons, List.length_nil, List.all_cons, List.all_nil, okX, Bool.and_true, Bool.true_and, Bool.and_eq_true, decide_eq_true_eq]
  exact ⟨by omega, trivial, trivial⟩
theorem sum_puts (c : Int) (l : List ValD) : ∀ (xs : List Int) (n s m M : Int), puts 1 [⟨c, l, n, [s], [m], [M]⟩] (xs.map fun x => (⟨c, l, 1, [x], [x], [x]⟩ : CellD)) = [⟨c, l, n + xs.length, [s + sumI xs], [xs.foldl min m], [xs.foldl max M]⟩]
  | [], n, s, m, M => by simp [puts, Put.puts, sumI]
  | x :: xs, n, s, m, M => by
    have hz : (cellRule 1).c ⟨c, l, n, [s], [m], [M]⟩ ⟨c, l, 1, [x], [x], [x]⟩ = 0 := by
      show cmpC _ _ = 0
      unfold cmpC
      rw [if_neg (by simp), if_neg (by simp)]
      have h := cmpL_neg l l
      show cmpL l l = 0
      omega
    show puts 1 (Put.put (cellRule 1) [⟨c, l, n, [s], [m], [M]⟩] ⟨c, l, 1, [x], [x], [x]⟩) (xs.map _) = _
    rw [Put.put_eq (cellRule 1) [] hz]
    show puts 1 [⟨c, l, n + 1, [s + x], [min m x], [max M x]⟩] (xs.map _) = _
    rw [sum_puts c l xs]
    simp only [List.foldl_cons, List.length_cons, sumI]
    congr 2
    · push_cast; omega
    · congr 1; omega
theorem sums_roll (t x : Int) (xs : List Int) : rollL sS ((x :: xs).map (sumRow t)) = [⟨cutV t 7, [⟨bX, false⟩], (x :: xs).length, [sumI (x :: xs)], [(x :: xs).foldl min x], [(x :: xs).foldl max x]⟩] := by
  unfold rollL
  have e : ((x :: xs).map (sumRow t)).map (ofC sS) = (⟨cutV t 7, [⟨bX, false⟩], 1, [x], [x], [x]⟩ : CellD) :: xs.map fun x => (⟨cutV t 7, [⟨bX, false⟩], 1, [x], [x], [x]⟩ : CellD) := by
    rw [List.map_map]; rfl
  rw [e]
  show puts 1 [⟨cutV t 7, [⟨bX, false⟩], 1, [x], [x], [x]⟩] (xs.map _) = _
  rw [sum_puts]
  simp only [List.foldl_cons, List.length_cons, sumI, Int.min_self, Int.max_self]
  congr 2
  push_cast
  omega
theorem sums_err (t x : Int) (xs : List Int) (h0 : 0 ≤ t) (h1 : t ≤ 1000) (hl : (x :: xs).length ≤ 40) : rollE sS ((x :: xs).map (sumRow t)) = 0 := by
  unfold rollE
  rw [if_pos sS_right, if_pos, if_pos]
  · rw [sums_roll]
    unfold endsB manyB
    simp at hl
    simp
    omega
  · rw [List.all_map, List.all_eq_true]
    intro y _
    exact sum_fits t y h0 h1
theorem cut7 (t : Int) (h0 : 0 ≤ t) (h1 : t ≤ 1000) : cutV t 7 = t / 7 * 7 := by
  unfold cutV isTimeB isGrainB
  rw [if_pos (by simp; omega)]
  omega
end Go.Proofs.Ytdgeinipdphoeaa
