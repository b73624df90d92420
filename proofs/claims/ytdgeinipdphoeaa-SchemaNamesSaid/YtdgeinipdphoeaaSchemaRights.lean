/- SchemaRights holds: which schemas and rows are right and where names stand, as the document says. No condition. -/
import Derived.Test.YtdgeinipdphoeaaSchM
import Derived.Test.YtdgeinipdphoeaaSchQ
import Derived.Test.YtdgeinipdphoeaaOpenS
import Derived.Test.YtdgeinipdphoeaaLaw
import Derived.Test.YtdgeinipdphoeaaQuiet
namespace Go.Proofs.Ytdgeinipdphoeaa
set_option linter.unusedVariables false
set_option linter.unusedSimpArgs false
set_option maxRecDepth 100000
open Go.ChangeShapes Go.WideShapes Go.ChangeAt Go.RowKit Go.Joins

theorem txt_ok (n : Nat) (hn : n ≤ 1000) (ss : List ByteArray) : Texts (txtCut n 10 ss) := by
  refine ⟨by unfold txtCut; simp; omega, fun s hs => ?_⟩
  unfold txtCut at hs
  obtain ⟨a, _, rfl⟩ := List.mem_map.1 hs
  have := cutS_size n a
  omega
theorem vals_ok (l : List ValD) : Vals (valsCut l) := by
  refine ⟨by unfold valsCut; simp; omega, fun s hs => ?_⟩
  unfold valsCut at hs
  obtain ⟨a, _, rfl⟩ := List.mem_map.1 hs
  have := cutS_size 110 a.s
  show (cutS 110 a.s).size ≤ _
  omega

set_option maxHeartbeats 4000000 in
theorem SchemaRights_walk (vd vm : Value) (ds ms : List ByteArray) (g : Int) (vr vn : Value) (t : Int) (l : List ValD) (xs : List Int) (s : ByteArray) (hs : s.size ≤ 9223372036854775807) (w : World)
    (hd : StrsSl w vd ds) (hm : StrsSl w vm ms) (td : ∀ s ∈ ds, s.size ≤ 9223372036854775807) (tm : ∀ s ∈ ms, s.size ≤ 9223372036854775807) (hg : I64 g)
    (hr : ValsSl w vr l) (hn : IntsSl w vn xs) (tl : ∀ v ∈ l, v.s.size ≤ 9223372036854775807) (tx : ∀ n ∈ xs, I64 n) (ht : I64 t) :
    Calls Try.prog 3 #[.agg #[vd, vm, .int .i64 g], .agg #[.int .i64 t, vr, vn], .string s] w fun e w' => e = .returned (.bool true) ∧ Below w.heap.size w w' := by
  have HCUT := hid (fun W (h : Below w.heap.size w W) => cut_any vd vm ds ms g W (hd.below h) (hm.below h) td tm)
  have HFEW := hid (fun W (h : Below w.heap.size w W) => fewRow_any vr vn t l xs W (hr.below h) tl (hn.below h))
  have H5 := hid (fun W : World => few5_any (.slice (some ⟨W.heap.size, 0, none⟩) 1 1) [s] 1 (W.alloc (.cells #[.string s] 9)) (show StrsSl _ _ [s] from SlAt.lit W #[.string s] 9 1 1 rfl (by decide)) (by decide) (fun x hx => by simp at hx; subst hx; exact hs))
  simp only [Int.natCast_one] at H5
  obtain ⟨ad, cd, rfl, _, _, _⟩ := SlAt.shape hd
  obtain ⟨am, cm, rfl, _, _, _⟩ := SlAt.shape hm
  obtain ⟨ar, cr, rfl, _, _, _⟩ := SlAt.shape hr
  obtain ⟨an, cn, rfl, _, _, _⟩ := SlAt.shape hn
  have T1 := txt_ok 30 (by decide) ds; have T2 := txt_ok 30 (by decide) ms; have T3 := vals_ok l
  have hn0 := hn
  clear hd hm hr hn td tm tl tx
  generalize ds.length = nd at *
  generalize ms.length = nm at *
  generalize l.length = nl at *
  have HN0 := hid hn0
  clear hn0
  generalize xs.length = nx at *
  obtain ⟨D, hD⟩ : ∃ D, txtCut 30 10 ds = D := ⟨_, rfl⟩
  obtain ⟨M, hM⟩ : ∃ M, txtCut 30 10 ms = M := ⟨_, rfl⟩
  obtain ⟨V, hV⟩ : ∃ V, valsCut l = V := ⟨_, rfl⟩
  obtain ⟨X, hX⟩ : ∃ X, xs.take 10 = X := ⟨_, rfl⟩
  rw [hD, hM] at HCUT; rw [hV, hX] at HFEW
  rw [hD] at T1; rw [hM] at T2; rw [hV] at T3
  have HX := hid hX
  clear hD hM hV hX
  go_enter Try.func3, Try.ntmps3
  go_wp2_with (go_at_call 13; ((with_reducible refine (shown10_any _).mono ?_); rintro e w1 ⟨rfl, hb1⟩; have r0 : w1.heap[w.heap.size]? = some (.cells #[.slice ad nd cd, .slice am nm cm, .int .i64 g] 24 (0, 0)) := blk_below (by ((simp (disch := first | omega | (simp only [World.size_alloc, World.size_setCell, World.size_drew]; done) | (simp only [World.size_alloc, World.size_setCell, World.size_drew]; omega)) only [heap_at, heap_past, heap_set_other, heap_set_same]))) hb1; have r1 : w1.heap[w.heap.size + 1]? = some (.cells #[.int .i64 t, .slice ar nl cr, .slice an nx cn] 28 (0, 0)) := blk_below (by ((simp (disch := first | omega | (simp only [World.size_alloc, World.size_setCell, World.size_drew]; done) | (simp only [World.size_alloc, World.size_setCell, World.size_drew]; omega)) only [heap_at, heap_past, heap_set_other, heap_set_same]))) hb1; have hB1 : Below w.heap.size w w1 := (by (repeat' (first | (with_reducible exact Below.refl _ _) | (with_reducible assumption) | (with_reducible refine Below.new ?_ _) | (with_reducible refine Below.alloc ?_ ?_ _) | (with_reducible refine Below.drew ?_) | (with_reducible refine Below.drewN ?_ _) | (with_reducible refine Below.setCell ?_ ?_ _) | (refine Below.step ?_ (by assumption)) | go_size))); clear hb1; (obtain ⟨c0, c1, c2, f0, f1, f2⟩ := three_at r0)))
  refine (HCUT.out _ hB1).mono ?_
  rintro e w2 ⟨v1, v2, rfl, ho1, ho2, hb2⟩
  have hB2 := hB1.trans (hb2.mono hB1.size)
  have p0 := blk_below r0 hb2; have p1 := blk_below r1 hb2
  have z1 := blk_lt r1; have z2 := blk_lt p1
  clear c0 c1 c2 f0 f1 f2 hB1 hb2 r0 r1
  obtain ⟨a1, c1, rfl, _, _, _⟩ := SlAt.shape (SlAt.own ho1)
  obtain ⟨a2, c2, rfl, _, _, _⟩ := SlAt.shape (SlAt.own ho2)
  have g1 := (row_far3 (b := w.heap.size) (x' := .slice a1 D.length c1) (y' := .slice a2 M.length c2) (z' := .int .i64 g) ho1 (by omega))
  have g2 := (row_far3 (b := w.heap.size) (x' := .slice a1 D.length c1) (y' := .slice a2 M.length c2) (z' := .int .i64 g) ho2 (by omega))
  generalize D.length = nD at *
  generalize M.length = nM at *
  have q0 := set3 (x' := .slice a1 nD c1) (y' := .slice a2 nM c2) (z' := .int .i64 g) p0
  have q1 := set3_other (b := w.heap.size) (x' := .slice a1 nD c1) (y' := .slice a2 nM c2) (z' := .int .i64 g) p1 (by omega)
  have hBW := below3 (x' := .slice a1 nD c1) (y' := .slice a2 nM c2) (z' := .int .i64 g) hB2 (Nat.le_refl w.heap.size)
  (obtain ⟨k0, k1, k2, l0, l1, l2⟩ := three_at p0)
  (obtain ⟨m0, m1, m2, _, _, _⟩ := three_at p1)
  have HQ := hid (show Below w.heap.size w (((w2.setCell ⟨w.heap.size, 0, none⟩ (.slice a1 nD c1)).setCell ⟨w.heap.size, 1, none⟩ (.slice a2 nM c2)).setCell ⟨w.heap.size, 2, none⟩ (.int .i64 g)) ∧ (((w2.setCell ⟨w.heap.size, 0, none⟩ (.slice a1 nD c1)).setCell ⟨w.heap.size, 1, none⟩ (.slice a2 nM c2)).setCell ⟨w.heap.size, 2, none⟩ (.int .i64 g)).heap[w.heap.size]? = _ ∧ (((w2.setCell ⟨w.heap.size, 0, none⟩ (.slice a1 nD c1)).setCell ⟨w.heap.size, 1, none⟩ (.slice a2 nM c2)).setCell ⟨w.heap.size, 2, none⟩ (.int .i64 g)).heap[w.heap.size + 1]? = _ ∧ (((w2.setCell ⟨w.heap.size, 0, none⟩ (.slice a1 nD c1)).setCell ⟨w.heap.size, 1, none⟩ (.slice a2 nM c2)).setCell ⟨w.heap.size, 2, none⟩ (.int .i64 g)).ownsRow _ 9 1 (.slice a1 nD c1) nD (strsV D) ∧ (((w2.setCell ⟨w.heap.size, 0, none⟩ (.slice a1 nD c1)).setCell ⟨w.heap.size, 1, none⟩ (.slice a2 nM c2)).setCell ⟨w.heap.size, 2, none⟩ (.int .i64 g)).ownsRow _ 9 1 (.slice a2 nM c2) nM (strsV M) from ⟨hBW, q0, q1, g1, g2⟩)
  clear hBW q0 q1 g1 g2 ho1 ho2 hB2 p0 p1
  go_wp2_with fail
  clear k0 k1 k2 l0 l1 l2 m0 m1 m2
  generalize ((w2.setCell ⟨w.heap.size, 0, none⟩ (.slice a1 nD c1)).setCell ⟨w.heap.size, 1, none⟩ (.slice a2 nM c2)).setCell ⟨w.heap.size, 2, none⟩ (.int .i64 g) = W2 at *
  obtain ⟨hBW, q0, q1, g1, g2⟩ := HQ.out
  clear HQ
  (refine (HFEW.out _ hBW).mono ?_)
  rintro e w3 ⟨v3, v4, rfl, ho3, hv4, hb3⟩
  have hv5 := hv4 _ HN0.out
  have hB3 := hBW.trans (hb3.mono hBW.size)
  have p0 := blk_below q0 hb3; have p1 := blk_below q1 hb3
  have h1 := row_below g1 hb3; have h2 := row_below g2 hb3
  have z3 := blk_lt p1
  have zW := blk_lt q1
  clear g1 g2 q0 q1 hv4
  obtain ⟨a3, c3, rfl, _, _, _⟩ := SlAt.shape (SlAt.own ho3)
  obtain ⟨a4, c4, rfl, _, _, _⟩ := SlAt.shape hv5
  have k1 := row_far3 (b := w.heap.size + 1) (x' := .int .i64 t) (y' := .slice a3 V.length c3) (z' := .slice a4 X.length c4) h1 (by omega)
  have k2 := row_far3 (b := w.heap.size + 1) (x' := .int .i64 t) (y' := .slice a3 V.length c3) (z' := .slice a4 X.length c4) h2 (by omega)
  have k3 := row_far3 (b := w.heap.size + 1) (x' := .int .i64 t) (y' := .slice a3 V.length c3) (z' := .slice a4 X.length c4) ho3 (by omega)
  have q0 := set3_other (b := w.heap.size + 1) (x' := .int .i64 t) (y' := .slice a3 V.length c3) (z' := .slice a4 X.length c4) p0 (by omega)
  have q1 := set3 (x' := .int .i64 t) (y' := .slice a3 V.length c3) (z' := .slice a4 X.length c4) p1
  have hB4 := below3 (b := w.heap.size + 1) (x' := .int .i64 t) (y' := .slice a3 V.length c3) (z' := .slice a4 X.length c4) hB3 (by omega)
  have hv6 := hv5.below hB4
  clear hB3 h1 h2 ho3 hb3 p0 hv5 hBW
  (obtain ⟨m0, m1, m2, u0, u1, u2⟩ := three_at p1)
  clear p1
  generalize V.length = nV at *
  generalize X.length = nX at *
  have HQ := hid (show Below w.heap.size w (((w3.setCell ⟨w.heap.size + 1, 0, none⟩ (.int .i64 t)).setCell ⟨w.heap.size + 1, 1, none⟩ (.slice a3 nV c3)).setCell ⟨w.heap.size + 1, 2, none⟩ (.slice a4 nX c4)) ∧ (((w3.setCell ⟨w.heap.size + 1, 0, none⟩ (.int .i64 t)).setCell ⟨w.heap.size + 1, 1, none⟩ (.slice a3 nV c3)).setCell ⟨w.heap.size + 1, 2, none⟩ (.slice a4 nX c4)).heap[w.heap.size]? = _ ∧ (((w3.setCell ⟨w.heap.size + 1, 0, none⟩ (.int .i64 t)).setCell ⟨w.heap.size + 1, 1, none⟩ (.slice a3 nV c3)).setCell ⟨w.heap.size + 1, 2, none⟩ (.slice a4 nX c4)).heap[w.heap.size + 1]? = _ ∧ (((w3.setCell ⟨w.heap.size + 1, 0, none⟩ (.int .i64 t)).setCell ⟨w.heap.size + 1, 1, none⟩ (.slice a3 nV c3)).setCell ⟨w.heap.size + 1, 2, none⟩ (.slice a4 nX c4)).ownsRow _ 9 1 (.slice a1 nD c1) nD (strsV D) ∧ (((w3.setCell ⟨w.heap.size + 1, 0, none⟩ (.int .i64 t)).setCell ⟨w.heap.size + 1, 1, none⟩ (.slice a3 nV c3)).setCell ⟨w.heap.size + 1, 2, none⟩ (.slice a4 nX c4)).ownsRow _ 9 1 (.slice a2 nM c2) nM (strsV M) ∧ (((w3.setCell ⟨w.heap.size + 1, 0, none⟩ (.int .i64 t)).setCell ⟨w.heap.size + 1, 1, none⟩ (.slice a3 nV c3)).setCell ⟨w.heap.size + 1, 2, none⟩ (.slice a4 nX c4)).ownsRow _ 54 2 (.slice a3 nV c3) nV (V.flatMap ValD.cells) ∧ IntsSl (((w3.setCell ⟨w.heap.size + 1, 0, none⟩ (.int .i64 t)).setCell ⟨w.heap.size + 1, 1, none⟩ (.slice a3 nV c3)).setCell ⟨w.heap.size + 1, 2, none⟩ (.slice a4 nX c4)) (.slice a4 nX c4) X from ⟨hB4, q0, q1, k1, k2, k3, hv6⟩)
  clear hB4 q0 q1 k1 k2 k3 hv6
  go_wp2_with fail
  clear m0 m1 m2 u0 u1 u2
  have h5 := H5.out (((w3.setCell ⟨w.heap.size + 1, 0, none⟩ (.int .i64 t)).setCell ⟨w.heap.size + 1, 1, none⟩ (.slice a3 nV c3)).setCell ⟨w.heap.size + 1, 2, none⟩ (.slice a4 nX c4))
  simp only [World.size_setCell] at h5
  have hzz : (((w3.setCell ⟨w.heap.size + 1, 0, none⟩ (.int .i64 t)).setCell ⟨w.heap.size + 1, 1, none⟩ (.slice a3 nV c3)).setCell ⟨w.heap.size + 1, 2, none⟩ (.slice a4 nX c4)).heap.size = w3.heap.size := by simp only [World.size_setCell]
  clear H5
  generalize ((w3.setCell ⟨w.heap.size + 1, 0, none⟩ (.int .i64 t)).setCell ⟨w.heap.size + 1, 1, none⟩ (.slice a3 nV c3)).setCell ⟨w.heap.size + 1, 2, none⟩ (.slice a4 nX c4) = W4 at *
  refine h5.mono ?_
  rintro e w5 ⟨v5, rfl, ho5, hb5⟩
  obtain ⟨hB4, q0, q1, k1, k2, k3, hv6⟩ := HQ.out
  have hbA : Below W4.heap.size W4 w5 := by (repeat' (first | (with_reducible exact Below.refl _ _) | (with_reducible assumption) | (with_reducible refine Below.new ?_ _) | (with_reducible refine Below.alloc ?_ ?_ _) | (with_reducible refine Below.drew ?_) | (with_reducible refine Below.drewN ?_ _) | (with_reducible refine Below.setCell ?_ ?_ _) | (refine Below.step ?_ (by assumption)) | go_size))
  have hB5 := hB4.trans (hbA.mono hB4.size)
  have p0 := blk_below q0 hbA; have p1 := blk_below q1 hbA
  have zp := blk_lt p1
  have r1 : StrsSl w5 (.slice a1 nD c1) D := StrsSl.own (row_below k1 hbA)
  have r2 : StrsSl w5 (.slice a2 nM c2) M := StrsSl.own (row_below k2 hbA)
  have r3 : ValsSl w5 (.slice a3 nV c3) V := ValsSl.own (row_below k3 hbA)
  have r4 : IntsSl w5 (.slice a4 nX c4) X := hv6.below hbA
  have r5 : StrsSl w5 v5 [cutS 110 s] := StrsSl.own ho5
  have HB5 := hid hB5
  clear HQ h5 hB4 q0 q1 k1 k2 k3 hv6 ho5 hb5 hbA hzz hB5
  generalize cutS 110 s = x at *
  obtain ⟨a5, c5, rfl, hl5, hl6, _⟩ := SlAt.shape r5
  obtain ⟨b5, o5, rfl, hc5⟩ := (SlAt.parts r5).2.2.2.2 (by simp)
  have d5 := hc5 0 (.string x) rfl
  rw [Nat.add_zero] at d5
  clear hc5 r5
  have HDIM := hid (fun W (h : Below w5.heap.size w5 W) => dim_any (.slice a1 nD c1) (.slice a2 nM c2) D M g x W (r1.below h) (r2.below h) T1 T2)
  have HMET := hid (fun W (h : Below w5.heap.size w5 W) => metric_any (.slice a1 nD c1) (.slice a2 nM c2) D M g x W (r1.below h) (r2.below h) T1 T2)
  have HRDIM := hid (fun W (h : Below w5.heap.size w5 W) => refDim_any (.slice a1 nD c1) (.slice a2 nM c2) D M g x W (r1.below h) (r2.below h) T1 T2)
  have HRMET := hid (fun W (h : Below w5.heap.size w5 W) => refMetric_any (.slice a1 nD c1) (.slice a2 nM c2) D M g x W (r1.below h) (r2.below h) T1 T2)
  have HR := hid (fun W (h : Below w5.heap.size w5 W) => right_any (.slice a1 nD c1) (.slice a2 nM c2) D M g W (r1.below h) (r2.below h) T1 T2)
  have HRR := hid (fun W (h : Below w5.heap.size w5 W) => refRight_any (.slice a1 nD c1) (.slice a2 nM c2) D M g W (r1.below h) (r2.below h) T1 T2)
  have HF := hid (fun W (h : Below w5.heap.size w5 W) => fits_any (.slice a1 nD c1) (.slice a2 nM c2) (.slice a3 nV c3) (.slice a4 nX c4) D M g t V X.length _ W (r1.below h) (r2.below h) T1 T2 (r3.below h) T3 (SlAt.below (show SlAt w5 (.slice a4 nX c4) X.length 1 _ from r4) h))
  have HRF := hid (fun W (h : Below w5.heap.size w5 W) => refFits_any (.slice a1 nD c1) (.slice a2 nM c2) (.slice a3 nV c3) (.slice a4 nX c4) D M g t V X.length _ W (r1.below h) (r2.below h) T1 T2 (r3.below h) T3 (SlAt.below (show SlAt w5 (.slice a4 nX c4) X.length 1 _ from r4) h))
  generalize fitsS D M g t V X.length = FB at *
  generalize rightS D M g = RB at *
  generalize placeI RB (Lib.idxOfS D x) = i1 at *
  generalize placeB RB (Lib.idxOfS D x) = j1 at *
  generalize placeI RB (Lib.idxOfS M x) = i2 at *
  generalize placeB RB (Lib.idxOfS M x) = j2 at *
  clear r1 r2 r3 r4
  (obtain ⟨m0, m1, m2, _, _, _⟩ := three_at p0)
  go_wp2_with fail
  refine (HDIM.out _ (Below.refl _ _)).mono ?_
  rintro e w6 ⟨rfl, hb6⟩
  have p2 := blk_below p0 hb6
  clear m0 m1 m2
  (obtain ⟨m0, m1, m2, _, _, _⟩ := three_at p2)
  go_wp2_with fail
  refine (HRDIM.out _ hb6).mono ?_
  rintro e w7 ⟨rfl, hb7⟩
  have hb56 := hb6.trans (hb7.mono hb6.size)
  have p3 := blk_below p2 hb7
  clear m0 m1 m2 hb6 hb7 p2
  (obtain ⟨m0, m1, m2, _, _, _⟩ := three_at p3)
  go_wp2_with fail
  refine (HMET.out _ hb56).mono ?_
  rintro e w8 ⟨rfl, hb8⟩
  have hb57 := hb56.trans (hb8.mono hb56.size)
  have p4 := blk_below p3 hb8
  clear m0 m1 m2 hb56 hb8 p3
  (obtain ⟨m0, m1, m2, _, _, _⟩ := three_at p4)
  go_wp2_with fail
  refine (HRMET.out _ hb57).mono ?_
  rintro e w9 ⟨rfl, hb9⟩
  have hb58 := hb57.trans (hb9.mono hb57.size)
  have hB9 := HB5.out.trans (hb58.mono HB5.out.size)
  have p5 := blk_below p0 hb58; have p6 := blk_below p1 hb58
  clear m0 m1 m2 hb57 hb9 p4 p0 p1
  (obtain ⟨m0, m1, m2, _, _, _⟩ := three_at p5)
  (obtain ⟨l0, l1, l2, _, _, _⟩ := three_at p6)
  have x0 := World.plus_cell m0; have x1 := World.plus_cell m1; have x2 := World.plus_cell m2
  have y0 := World.plus_cell l0; have y1 := World.plus_cell l1; have y2 := World.plus_cell l2
  go_wp2_with fail
  clear m0 m1 m2 l0 l1 l2
  refine wp_region_plus (by kernel_rfl) (by kernel_rfl) ?_
  repeat (first | go_big_quiet_skip | (go_big_quiet_want; go_big_quiet_op; first | go_big_quiet_on | go_big_quiet_call ((first | (go_at_call 21; exact Calls.plus_of (HR.out _ (hb58.step (World.plus_below _ _)))) | (go_at_call 22; exact Calls.plus_of (HRR.out _ (hb58.step (World.plus_below _ _)))) | (go_at_call 23; exact Calls.plus_of (HF.out _ (hb58.step (World.plus_below _ _)))) | (go_at_call 24; exact Calls.plus_of (HRF.out _ (hb58.step (World.plus_below _ _))))))))
  refine wpQuiet_nil ?_
  rintro _ ⟨xq, rfl⟩
  go_wp2
  go_ret
  exact ⟨rfl, hB9.step (World.plus_below _ _)⟩

set_option maxRecDepth 100000 in
theorem SchemaRights_lifted (os : Os) (started : os.Started) (H : Type) (enc : TypeId × Value → H) :
    ReturnsInHanded {} Try.checked os 3 .any (Rows.schemaRightsSpec.pre6 enc Try.prog Try.f3 Rows.schemaRightsRow.domain false) (Rows.schemaRightsSpec.post enc Try.prog Try.f3 false true false false) := by
  refine law_lift started (by kernel_rfl) Try.func3
    (ChangeSpec.witness6 (enc := enc) (C := Try.checked) false ⟨#[], #[.agg #[.slice none 0 0, .slice none 0 0, .int .i64 0], .agg #[.int .i64 0, .slice none 0 0, .slice none 0 0], .string { data := #[] }], []⟩ 8 (by kernel_rfl) (by kernel_rfl) (by kernel_rfl) (by kernel_rfl)) rfl rfl (by kernel_rfl) ?_ ?_
  · intro ds hl
    match ds, hl with
    | [_, _, _], _ => exact ⟨rfl, rfl, rfl⟩
  · intro W base args ds p hval hA hsz
    rw [Try.params3] at hA hval hsz
    obtain ⟨v0, vs0, d0, ds0, p0, q0, hargs, rfl, rfl, h0, r0⟩ := trodAll_cons hA
    obtain ⟨v1, vs1, d1, ds1, p1, q1, rfl, rfl, rfl, h1, r1⟩ := trodAll_cons r0
    obtain ⟨v2, vs2, d2, ds2, p2, q2, rfl, rfl, rfl, h2, r2⟩ := trodAll_cons r1
    obtain ⟨rfl, rfl, rfl⟩ := trodAll_nil r2
    obtain rfl : args = #[v0, v1, v2] := by cases args; simp_all
    obtain ⟨va0, vb0, x0, y0, z0, rfl, b0, e0, f0, g0, k0⟩ := open_sch (hval 0 24 v0 rfl rfl) h0
    obtain ⟨va1, vb1, z1, x1, y1, rfl, b1, e1, f1, g1, k1⟩ := open_row (hval 1 28 v1 rfl rfl) h1
    obtain ⟨a2, rfl, b2⟩ := open_str Try.underlying9 (hval 2 9 v2 rfl rfl) h2
    exact SchemaRights_walk _ _ _ _ _ _ _ _ _ _ a2 b2 W b0 e0 f0 g0 k0 b1 e1 f1 g1 k1

theorem SchemaRights_over : Rows.schemaRightsRow.holds Try.pinned (OpenSpec.ofChange Rows.schemaRightsSpec) :=
  OpenClaim.holds_of_wide 3 Try.f3 rfl rfl rfl rfl rfl rfl rfl ⟨rfl, rfl, rfl, rfl, rfl⟩ rfl rfl rfl rfl rfl (by kernel_rfl) Try.func3 (by kernel_rfl)
    (of_decide_eq_true (by kernel_rfl)) (by unfold Func.isWrapper; first | (rw [if_pos (by decide +kernel)]; kernel_rfl) | (rw [if_neg (by decide +kernel)]; exact ⟨rfl, rfl⟩))
    (fun os started H enc _ => SchemaRights_lifted os started H enc)

/-- The statement. -/
theorem SchemaRights_proved : Rows.SchemaRightsSaid := SchemaRights_over
end Go.Proofs.Ytdgeinipdphoeaa
