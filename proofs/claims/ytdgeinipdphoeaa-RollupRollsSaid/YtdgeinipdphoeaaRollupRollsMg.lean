/- RollupRolls holds: what rows come to, and a row's cell, are as the document says. No condition. -/
import Derived.Test.YtdgeinipdphoeaaGl
import Derived.Test.YtdgeinipdphoeaaGa
namespace Go.Proofs.Ytdgeinipdphoeaa
set_option linter.unusedVariables false
set_option linter.unusedSimpArgs false
set_option maxRecDepth 100000
open Go.ChangeShapes Go.WideShapes Go.ChangeAt Go.RowKit Go.Joins

set_option maxHeartbeats 4000000 in
theorem RollupRolls_walk (vd vm : Value) (ds ms : List ByteArray) (g : Int) (v : Value) (rows : List RowD) (vr vn : Value) (t : Int) (l : List ValD) (xs : List Int) (w : World)
    (hd : StrsSl w vd ds) (hm : StrsSl w vm ms) (td : ∀ s ∈ ds, s.size ≤ 9223372036854775807) (tm : ∀ s ∈ ms, s.size ≤ 9223372036854775807) (hg : I64 g) (hv : RowsSl w v rows) (hf : ∀ r ∈ rows, RowFine r)
    (hr : ValsSl w vr l) (hn : IntsSl w vn xs) (tl : ∀ v ∈ l, v.s.size ≤ 9223372036854775807) (tx : ∀ n ∈ xs, I64 n) (ht : I64 t) :
    Calls Try.prog 5 #[.agg #[vd, vm, .int .i64 g], v, .agg #[.int .i64 t, vr, vn]] w fun e w' => e = .returned (.bool true) ∧ Below w.heap.size w w' := by
  have HCUT := hid (fun W (h : Below w.heap.size w W) => cut_any vd vm ds ms g W (hd.below h) (hm.below h) td tm)
  have HROWS : Hid (∀ W, Below w.heap.size w W → Calls Try.prog 26 #[v, .int .i64 50] W (RowsPost2 w W (rowsCut 50 rows))) := fun W h => lawRows2_any rows 50 v w W h hv (fun r hr => (hf r hr).1) (by decide)
  have HFEW := hid (fun W (h : Below w.heap.size w W) => fewRow_any vr vn t l xs W (hr.below h) tl (hn.below h))
  have HNT : Hid (∀ v2, (∀ w0, IntsSl w0 vn xs → IntsSl w0 v2 (xs.take 10)) → IntsSl w v2 (xs.take 10)) := fun v2 h => h w hn
  have HROK := hid (rows_fine (n := 50) hf)
  have HRLN := hid (rows_few 50 rows)
  have HXS : Hid (∀ x ∈ xs.take 10, I64 x) := fun x hx => tx x (List.mem_of_mem_take hx)
  have HXL : Hid ((xs.take 10).length ≤ 10) := by unfold Hid; simp; omega
  have HVS := hid (vals_fine l)
  have HTD := hid (txt_fine ds); have HTM := hid (txt_fine ms)
  obtain ⟨ad, cd, rfl, _, _, _⟩ := SlAt.shape hd
  obtain ⟨am, cm, rfl, _, _, _⟩ := SlAt.shape hm
  obtain ⟨ar, cr, rfl, _, _, _⟩ := SlAt.shape hr
  obtain ⟨an, cn, rfl, _, _, _⟩ := SlAt.shape hn
  obtain ⟨av, cv, rfl, _, _, _⟩ := hv.shape
  clear hd hm hr hn td tm tl tx hv hf
  generalize ds.length = nd at *
  generalize ms.length = nm at *
  generalize l.length = nl at *
  generalize rows.length = nr at *
  generalize xs.length = nx at *
  obtain ⟨D, hD⟩ : ∃ D, txtCut 30 10 ds = D := ⟨_, rfl⟩
  obtain ⟨M, hM⟩ : ∃ M, txtCut 30 10 ms = M := ⟨_, rfl⟩
  obtain ⟨V, hV⟩ : ∃ V, valsCut l = V := ⟨_, rfl⟩
  obtain ⟨X, hX⟩ : ∃ X, xs.take 10 = X := ⟨_, rfl⟩
  obtain ⟨R, hR⟩ : ∃ R, rowsCut 50 rows = R := ⟨_, rfl⟩
  rw [hD, hM] at HCUT; rw [hV, hX] at HFEW; rw [hX] at HNT HXS HXL; rw [hV] at HVS; rw [hD] at HTD; rw [hM] at HTM; rw [hR] at HROWS HROK HRLN
  clear hD hM hV hX hR
  go_enter Try.func5, Try.ntmps5
  go_wp2_with (go_at_call 25; ((with_reducible refine (shown12_any _).mono ?_); rintro e w1 ⟨rfl, hb1⟩; have r0 : w1.heap[w.heap.size]? = some (.cells #[.slice ad nd cd, .slice am nm cm, .int .i64 g] 24 (0, 0)) := blk_below (by ((simp (disch := first | omega | (simp only [World.size_alloc, World.size_setCell, World.size_drew]; done) | (simp only [World.size_alloc, World.size_setCell, World.size_drew]; omega)) only [heap_at, heap_past, heap_set_other, heap_set_same]))) hb1; have r1 : w1.heap[w.heap.size + 1]? = some (.cells #[.int .i64 t, .slice ar nl cr, .slice an nx cn] 28 (0, 0)) := blk_below (by ((simp (disch := first | omega | (simp only [World.size_alloc, World.size_setCell, World.size_drew]; done) | (simp only [World.size_alloc, World.size_setCell, World.size_drew]; omega)) only [heap_at, heap_past, heap_set_other, heap_set_same]))) hb1; have hB1 : Below w.heap.size w w1 := (by (repeat' (first | (with_reducible exact Below.refl _ _) | (with_reducible assumption) | (with_reducible refine Below.new ?_ _) | (with_reducible refine Below.alloc ?_ ?_ _) | (with_reducible refine Below.drew ?_) | (with_reducible refine Below.drewN ?_ _) | (with_reducible refine Below.setCell ?_ ?_ _) | (refine Below.step ?_ (by assumption)) | go_size))); clear hb1; (obtain ⟨c0, c1, c2, f0, f1, f2⟩ := three_at r0)))
  refine (HCUT.out _ hB1).mono ?_
  rintro e w2 ⟨v1, v2, rfl, ho1, ho2, hb2⟩
  obtain ⟨a1, k1, rfl, _, _, _⟩ := SlAt.shape (SlAt.own ho1)
  obtain ⟨a2, k2, rfl, _, _, _⟩ := SlAt.shape (SlAt.own ho2)
  have z1 := blk_lt r1
  have HP := hid (And.intro (pre_sch (g := g) hB1 r0 (Nat.le_refl _) hb2 ho1 ho2) (set3_other (b := w.heap.size) (x' := .slice a1 D.length k1) (y' := .slice a2 M.length k2) (z' := .int .i64 g) (blk_below r1 hb2) (by omega)))
  have p0 := blk_below r0 hb2
  clear c0 c1 c2 f0 f1 f2 r0 r1 ho1 ho2 hb2 hB1
  obtain ⟨c0, c1, c2, f0, f1, f2⟩ := three_at p0
  clear p0
  go_wp2_with fail
  clear c0 c1 c2 f0 f1 f2
  generalize hW2 : ((w2.setCell ⟨w.heap.size, 0, none⟩ (.slice a1 D.length k1)).setCell ⟨w.heap.size, 1, none⟩ (.slice a2 M.length k2)).setCell ⟨w.heap.size, 2, none⟩ (.int .i64 g) = W2 at *
  obtain ⟨⟨hBW, q0, o1, o2⟩, q1⟩ := HP.out
  clear HP hW2
  refine (HROWS.out _ hBW).mono ?_
  rintro e w3 ⟨v3, ps, rfl, hrs, hps, hb3⟩
  have p0 := blk_below q0 hb3; have p1 := blk_below q1 hb3
  have n1 := row_below o1 hb3; have n2 := row_below o2 hb3
  have zW := blk_lt q1
  have hB3 := hBW.step hb3
  obtain ⟨c0, c1, c2, f0, f1, f2⟩ := three_at p1
  clear q0 q1 o1 o2 hb3
  go_wp2_with fail
  clear c0 c1 c2 f0 f1 f2
  refine (HFEW.out _ hB3).mono ?_
  rintro e w4 ⟨v4, v5, rfl, ho4, hv5, hb4⟩
  have hx5 := HNT.out _ hv5
  clear hv5
  have q0 := set3_other (b := w.heap.size + 1) (x' := .int .i64 t) (y' := v4) (z' := v5) (blk_below p0 hb4) (by omega)
  have q1 := set3 (x' := .int .i64 t) (y' := v4) (z' := v5) (blk_below p1 hb4)
  have o1 := row_far3 (b := w.heap.size + 1) (x' := .int .i64 t) (y' := v4) (z' := v5) (row_below n1 hb4) (by omega)
  have o2 := row_far3 (b := w.heap.size + 1) (x' := .int .i64 t) (y' := v4) (z' := v5) (row_below n2 hb4) (by omega)
  have o3 := (hrs.step hb4).far3 (b := w.heap.size + 1) (x := .int .i64 t) (y := v4) (z := v5) (by omega) zW
  have z3 := blk_lt p1
  have o4 := row_far3 (b := w.heap.size + 1) (x' := .int .i64 t) (y' := v4) (z' := v5) ho4 (by omega)
  have hB5 := below3 (b := w.heap.size + 1) (x' := .int .i64 t) (y' := v4) (z' := v5) (hB3.step hb4) (by omega)
  have p2 := blk_below p1 hb4
  obtain ⟨a4, k4, rfl, _, _, _⟩ := SlAt.shape (SlAt.own ho4)
  obtain ⟨a5, k5, rfl, _, _, _⟩ := SlAt.shape hx5
  obtain ⟨c0, c1, c2, f0, f1, f2⟩ := three_at p2
  obtain ⟨e0, e1, e2, _, _, _⟩ := three_at (blk_below p0 hb4)
  have HP := hid (And.intro q0 (And.intro q1 (And.intro o1 (And.intro o2 (And.intro o3 (And.intro o4 hB5))))))
  clear q0 q1 o1 o2 o3 o4 hB5 p0 p1 p2 n1 n2 hrs ho4 hb4 hB3 zW
  go_wp2_with fail
  clear c0 c1 c2 f0 f1 f2 e0 e1 e2
  generalize hW5 : ((w4.setCell ⟨w.heap.size + 1, 0, none⟩ (.int .i64 t)).setCell ⟨w.heap.size + 1, 1, none⟩ (.slice a4 V.length k4)).setCell ⟨w.heap.size + 1, 2, none⟩ (.slice a5 X.length k5) = W5 at *
  obtain ⟨q0, q1, o1, o2, o3, o4, hB5⟩ := HP.out
  clear HP hW5 hBW
  have s1 := StrsSl.own o1; have s2 := StrsSl.own o2; have s4 := ValsSl.own o4; have s3 := o3.is
  rw [hps] at s3
  have s5 := hx5.below hB5
  have HA := hid (fun W (h : Below W5.heap.size W5 W) => roll_out ⟨D, M, g⟩ R _ _ _ W (s1.below h) (s2.below h) HTD.out HTM.out (s3.below h) HROK.out (by have := HRLN.out; omega))
  have HB := hid (fun W (h : Below W5.heap.size W5 W) => refRoll_out ⟨D, M, g⟩ R _ _ _ W (s1.below h) (s2.below h) HTD.out HTM.out (s3.below h) HROK.out (by have := HRLN.out; omega))
  have HC := hid (fun W (h : Below W5.heap.size W5 W) => of_out ⟨D, M, g⟩ ⟨t, V, X⟩ _ _ _ _ W (s1.below h) (s2.below h) HTD.out HTM.out (s4.below h) HVS.out (s5.below h) HXS.out)
  have HD := hid (fun W (h : Below W5.heap.size W5 W) => refOf_out ⟨D, M, g⟩ ⟨t, V, X⟩ _ _ _ _ W (s1.below h) (s2.below h) HTD.out HTM.out (s4.below h) HVS.out (s5.below h) HXS.out)
  have HFL := hid (outL_few ⟨D, M, g⟩ R)
  have HFC := hid (outC_few (s := ⟨D, M, g⟩) (r := ⟨t, V, X⟩) (by have := HXL.out; show X.length ≤ _; omega))
  have HB5 := hid hB5
  clear s1 s2 s3 s4 s5 o1 o2 o3 o4 hx5 hps hB5
  generalize rollE ⟨D, M, g⟩ R = E1 at *
  generalize outL ⟨D, M, g⟩ R = L1 at *
  generalize ofE ⟨D, M, g⟩ ⟨t, V, X⟩ = E2 at *
  generalize outC ⟨D, M, g⟩ ⟨t, V, X⟩ = C2 at *
  obtain ⟨c0, c1, c2, _, _, _⟩ := three_at q0
  obtain ⟨d0, d1, d2, _, _, _⟩ := three_at q1
  have zA := blk_lt q0; have zB := blk_lt q1
  clear q0 q1
  go_wp2_with (first
    | (go_at_call 27; go_loud ((with_reducible refine (HA.out _ (by (repeat' (first | (with_reducible exact Below.refl _ _) | (with_reducible assumption) | (with_reducible refine Below.new ?_ _) | (with_reducible refine Below.alloc ?_ ?_ _) | (with_reducible refine Below.drew ?_) | (with_reducible refine Below.drewN ?_ _) | (with_reducible refine Below.setCell ?_ ?_ _) | (refine Below.step ?_ (by assumption)) | go_size)))).mono ?_); rintro e w6 ⟨va, rfl, hca, hb6⟩; obtain ⟨hc6, hf6, hk6, hz6⟩ := bcell3 hb6; (try simp only [World.size_alloc, World.size_drew] at hz6); have : w.heap.size < w6.heap.size := (by omega); have : w.heap.size + 1 < w6.heap.size := (by omega); have HCA := hid hca; clear hca))
    | (go_at_call 28; go_loud ((with_reducible refine (HB.out _ (by (repeat' (first | (with_reducible exact Below.refl _ _) | (with_reducible assumption) | (with_reducible refine Below.new ?_ _) | (with_reducible refine Below.alloc ?_ ?_ _) | (with_reducible refine Below.drew ?_) | (with_reducible refine Below.drewN ?_ _) | (with_reducible refine Below.setCell ?_ ?_ _) | (refine Below.step ?_ (by assumption)) | go_size)))).mono ?_); rintro e w7 ⟨vb, rfl, hcb, hb7⟩; obtain ⟨hc7, hf7, hk7, hz7⟩ := bcell3 hb7; (try simp only [World.size_alloc, World.size_drew] at hz7); have : w.heap.size < w7.heap.size := (by omega); have : w.heap.size + 1 < w7.heap.size := (by omega); have HCB := hid hcb; clear hcb))
    | (go_at_call 29; go_loud ((with_reducible refine (HC.out _ (by (repeat' (first | (with_reducible exact Below.refl _ _) | (with_reducible assumption) | (with_reducible refine Below.new ?_ _) | (with_reducible refine Below.alloc ?_ ?_ _) | (with_reducible refine Below.drew ?_) | (with_reducible refine Below.drewN ?_ _) | (with_reducible refine Below.setCell ?_ ?_ _) | (refine Below.step ?_ (by assumption)) | go_size)))).mono ?_); rintro e w8 ⟨ul, us, um, ux, rfl, m1, m2, m3, m4, hb8⟩; obtain ⟨_, _, rfl, _⟩ := SlAt.shape m1; obtain ⟨_, _, rfl, _⟩ := SlAt.shape m2; obtain ⟨_, _, rfl, _⟩ := SlAt.shape m3; obtain ⟨_, _, rfl, _⟩ := SlAt.shape m4; obtain ⟨hc8, hf8, hk8, hz8⟩ := bcell3 hb8; (try simp only [World.size_alloc, World.size_drew] at hz8); have : w.heap.size < w8.heap.size := (by omega); have : w.heap.size + 1 < w8.heap.size := (by omega); have HM := hid (And.intro m1 (And.intro m2 (And.intro m3 m4))); clear m1 m2 m3 m4))
    | (go_at_call 30; go_loud ((with_reducible refine (HD.out _ (by (repeat' (first | (with_reducible exact Below.refl _ _) | (with_reducible assumption) | (with_reducible refine Below.new ?_ _) | (with_reducible refine Below.alloc ?_ ?_ _) | (with_reducible refine Below.drew ?_) | (with_reducible refine Below.drewN ?_ _) | (with_reducible refine Below.setCell ?_ ?_ _) | (refine Below.step ?_ (by assumption)) | go_size)))).mono ?_); rintro e w9 ⟨yl, ys, ym, yx, rfl, n1, n2, n3, n4, hb9⟩; obtain ⟨_, _, rfl, _⟩ := SlAt.shape n1; obtain ⟨_, _, rfl, _⟩ := SlAt.shape n2; obtain ⟨_, _, rfl, _⟩ := SlAt.shape n3; obtain ⟨_, _, rfl, _⟩ := SlAt.shape n4; obtain ⟨hc9, hf9, hk9, hz9⟩ := bcell3 hb9; (try simp only [World.size_alloc, World.size_drew] at hz9); have : w.heap.size < w9.heap.size := (by omega); have : w.heap.size + 1 < w9.heap.size := (by omega); have HN := hid (And.intro n1 (And.intro n2 (And.intro n3 n4))); clear n1 n2 n3 n4)))
  clear c0 c1 c2 d0 d1 d2 HA HB HC HD HFEW HNT HROWS HCUT HTD HTM HVS HXL HXS HRLN HROK
  have H9A := hid (HCA.out.below (show Below w6.heap.size w6 w9 by (repeat' (first | (with_reducible exact Below.refl _ _) | (with_reducible assumption) | (with_reducible refine Below.new ?_ _) | (with_reducible refine Below.alloc ?_ ?_ _) | (with_reducible refine Below.drew ?_) | (with_reducible refine Below.drewN ?_ _) | (with_reducible refine Below.setCell ?_ ?_ _) | (refine Below.step ?_ (by assumption)) | go_size))))
  have H9B := hid (HCB.out.below (show Below w7.heap.size w7 w9 by (repeat' (first | (with_reducible exact Below.refl _ _) | (with_reducible assumption) | (with_reducible refine Below.new ?_ _) | (with_reducible refine Below.alloc ?_ ?_ _) | (with_reducible refine Below.drew ?_) | (with_reducible refine Below.drewN ?_ _) | (with_reducible refine Below.setCell ?_ ?_ _) | (refine Below.step ?_ (by assumption)) | go_size))))
  have h89 : Below w8.heap.size w8 w9 := by (repeat' (first | (with_reducible exact Below.refl _ _) | (with_reducible assumption) | (with_reducible refine Below.new ?_ _) | (with_reducible refine Below.alloc ?_ ?_ _) | (with_reducible refine Below.drew ?_) | (with_reducible refine Below.drewN ?_ _) | (with_reducible refine Below.setCell ?_ ?_ _) | (refine Below.step ?_ (by assumption)) | go_size))
  have H9M := hid (And.intro (HM.out.1.below h89) (And.intro (HM.out.2.1.below h89) (And.intro (HM.out.2.2.1.below h89) (HM.out.2.2.2.below h89))))
  have H9W := hid (show Below w.heap.size w w9 by have := HB5.out; (repeat' (first | (with_reducible exact Below.refl _ _) | (with_reducible assumption) | (with_reducible refine Below.new ?_ _) | (with_reducible refine Below.alloc ?_ ?_ _) | (with_reducible refine Below.drew ?_) | (with_reducible refine Below.drewN ?_ _) | (with_reducible refine Below.setCell ?_ ?_ _) | (refine Below.step ?_ (by assumption)) | go_size)))
  have HSA := hid (fun W (h : Below w9.heap.size w9 W) => refSameC_any va vb L1 L1 W (H9A.out.below h) (H9B.out.below h) HFL.out HFL.out)
  have HON := hid (fun W (h : Below w9.heap.size w9 W) => refOne_any C2 C2 _ _ _ _ _ _ _ _ W (H9M.out.1.below h) (H9M.out.2.1.below h) (H9M.out.2.2.1.below h) (H9M.out.2.2.2.below h) (HN.out.1.below h) (HN.out.2.1.below h) (HN.out.2.2.1.below h) (HN.out.2.2.2.below h) HFC.out.1 HFC.out.2 HFC.out.1 HFC.out.2)
  simp only [sameCs_refl] at HSA
  simp only [sameC_refl] at HON
  have HC1 := hid (fun W (h : Below w9.heap.size w9 W) => count_any va L1 W (H9A.out.below h))
  have HC2 := hid (fun W (h : Below w9.heap.size w9 W) => refCount_any vb L1 W (H9B.out.below h))
  generalize countW L1 = N1 at *
  have e8 := blk_below (show (w8.alloc (.cells #[.int .i64 C2.t, _, .int .i64 C2.n, _, _, _] 46)).heap[w8.heap.size]? = _ from heap_at rfl) hb9
  obtain ⟨e0, e1, e2, e3, e4, e5⟩ := six_at e8
  have z8 := blk_lt e8
  clear HCA HCB HM HN HFC HFL hb6 hb7 hb8 hb9 hc6 hc7 hc8 hc9 hf6 hf7 hf8 hf9 hk6 hk7 hk8 hk9 hz6 hz7 hz8 h89 HB5 H9A H9B H9M e8
  go_wp2_with (first
    | (go_at_call 31; go_loud ((with_reducible refine (HSA.out _ (by (repeat' (first | (with_reducible exact Below.refl _ _) | (with_reducible assumption) | (with_reducible refine Below.new ?_ _) | (with_reducible refine Below.alloc ?_ ?_ _) | (with_reducible refine Below.drew ?_) | (with_reducible refine Below.drewN ?_ _) | (with_reducible refine Below.setCell ?_ ?_ _) | (refine Below.step ?_ (by assumption)) | go_size)))).mono ?_); rintro e x1 ⟨rfl, hx1⟩; (obtain ⟨hc1, hf1, hk1, hz1⟩ := bcell3 hx1); simp only [World.size_alloc] at hc1 hk1 hz1; (have zx : w8.heap.size < x1.heap.size := by omega); (have zy : w9.heap.size < x1.heap.size := by omega)))
    | (go_at_call 32; go_loud ((with_reducible refine (HON.out _ (by (repeat' (first | (with_reducible exact Below.refl _ _) | (with_reducible assumption) | (with_reducible refine Below.new ?_ _) | (with_reducible refine Below.alloc ?_ ?_ _) | (with_reducible refine Below.drew ?_) | (with_reducible refine Below.drewN ?_ _) | (with_reducible refine Below.setCell ?_ ?_ _) | (refine Below.step ?_ (by assumption)) | go_size)))).mono ?_); rintro e x2 ⟨rfl, hx2⟩))
    | (go_at_call 33; go_loud ((with_reducible refine (HC1.out _ (by (repeat' (first | (with_reducible exact Below.refl _ _) | (with_reducible assumption) | (with_reducible refine Below.new ?_ _) | (with_reducible refine Below.alloc ?_ ?_ _) | (with_reducible refine Below.drew ?_) | (with_reducible refine Below.drewN ?_ _) | (with_reducible refine Below.setCell ?_ ?_ _) | (refine Below.step ?_ (by assumption)) | go_size)))).mono ?_); rintro e x3 ⟨rfl, hx3⟩))
    | (go_at_call 34; go_loud ((with_reducible refine (HC2.out _ (by (repeat' (first | (with_reducible exact Below.refl _ _) | (with_reducible assumption) | (with_reducible refine Below.new ?_ _) | (with_reducible refine Below.alloc ?_ ?_ _) | (with_reducible refine Below.drew ?_) | (with_reducible refine Below.drewN ?_ _) | (with_reducible refine Below.setCell ?_ ?_ _) | (refine Below.step ?_ (by assumption)) | go_size)))).mono ?_); rintro e x4 ⟨rfl, hx4⟩)))
  go_ret
  exact ⟨rfl, by have := H9W.out; (repeat' (first | (with_reducible exact Below.refl _ _) | (with_reducible assumption) | (with_reducible refine Below.new ?_ _) | (with_reducible refine Below.alloc ?_ ?_ _) | (with_reducible refine Below.drew ?_) | (with_reducible refine Below.drewN ?_ _) | (with_reducible refine Below.setCell ?_ ?_ _) | (refine Below.step ?_ (by assumption)) | go_size))⟩
set_option maxRecDepth 100000 in
theorem RollupRolls_lifted (os : Os) (started : os.Started) (H : Type) (enc : TypeId × Value → H) :
    ReturnsInHanded {} Try.checked os 5 .any (Rows.rollupRollsSpec.pre6 enc Try.prog Try.f5 Rows.rollupRollsRow.domain false) (Rows.rollupRollsSpec.post enc Try.prog Try.f5 false true false false) := by
  refine law_lift started (by kernel_rfl) Try.func5
    (ChangeSpec.witness6 (enc := enc) (C := Try.checked) false ⟨#[], #[.agg #[.slice none 0 0, .slice none 0 0, .int .i64 0], .slice none 0 0, .agg #[.int .i64 0, .slice none 0 0, .slice none 0 0]], []⟩ 8 (by kernel_rfl) (by kernel_rfl) (by kernel_rfl) (by kernel_rfl)) rfl rfl (by kernel_rfl) ?_ ?_
  · intro ds hl
    match ds, hl with
    | [_, _, _], _ => exact ⟨rfl, rfl, rfl⟩
  · intro W base args ds p hval hA hsz
    rw [Try.params5] at hA hval hsz
    obtain ⟨v0, vs0, d0, ds0, p0, q0, hargs, rfl, rfl, h0, r0⟩ := trodAll_cons hA
    obtain ⟨v1, vs1, d1, ds1, p1, q1, rfl, rfl, rfl, h1, r1⟩ := trodAll_cons r0
    obtain ⟨v2, vs2, d2, ds2, p2, q2, rfl, rfl, rfl, h2, r2⟩ := trodAll_cons r1
    obtain ⟨rfl, rfl, rfl⟩ := trodAll_nil r2
    obtain rfl : args = #[v0, v1, v2] := by cases args; simp_all
    obtain ⟨va0, vb0, x0, y0, z0, rfl, b0, e0, f0, g0, k0⟩ := open_sch (hval 0 24 v0 rfl rfl) h0
    obtain ⟨x1, b1, e1⟩ := open_rowsT Try.underlying38 (hval 1 38 v1 rfl rfl) h1
    obtain ⟨va2, vb2, z2, x2, y2, rfl, b2, e2, f2, g2, k2⟩ := open_row (hval 2 28 v2 rfl rfl) h2
    exact RollupRolls_walk _ _ _ _ _ _ _ _ _ _ _ _ W b0 e0 f0 g0 k0 b1 e1 b2 e2 f2 g2 k2

theorem RollupRolls_over : Rows.rollupRollsRow.holds Try.pinned (OpenSpec.ofChange Rows.rollupRollsSpec) :=
  OpenClaim.holds_of_wide 5 Try.f5 rfl rfl rfl rfl rfl rfl rfl ⟨rfl, rfl, rfl, rfl, rfl⟩ rfl rfl rfl rfl rfl (by kernel_rfl) Try.func5 (by kernel_rfl)
    (of_decide_eq_true (by kernel_rfl)) (by unfold Func.isWrapper; first | (rw [if_pos (by decide +kernel)]; kernel_rfl) | (rw [if_neg (by decide +kernel)]; exact ⟨rfl, rfl⟩))
    (fun os started H enc _ => RollupRolls_lifted os started H enc)

/-- The statement. -/
theorem RollupRolls_proved : Rows.RollupRollsSaid := RollupRolls_over
end Go.Proofs.Ytdgeinipdphoeaa
