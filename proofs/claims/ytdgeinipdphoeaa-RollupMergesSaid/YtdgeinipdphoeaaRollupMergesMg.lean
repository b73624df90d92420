/- RollupMerges holds: which cells are right, a row added, cells merged, are as the document says. No condition. -/
import Derived.Test.YtdgeinipdphoeaaGn
import Derived.Test.YtdgeinipdphoeaaGa
namespace Go.Proofs.Ytdgeinipdphoeaa
set_option linter.unusedVariables false
set_option linter.unusedSimpArgs false
set_option maxRecDepth 100000
open Go.ChangeShapes Go.WideShapes Go.ChangeAt Go.RowKit Go.Joins

theorem cells_tame {l : List CellD} (h : ∀ c ∈ l, CellFine c) : ∀ c ∈ cellsCut l, CellTame c := by
  intro c hc
  unfold cellsCut at hc
  obtain ⟨q, hq, rfl⟩ := List.mem_map.1 hc
  have hf := h q (List.mem_of_mem_take hq)
  exact ⟨vals_fine q.l, fun x hx => hf.2.1 x (List.mem_of_mem_take hx), fun x hx => hf.2.2.1 x (List.mem_of_mem_take hx)⟩
theorem cells_few (l : List CellD) : (cellsCut l).length ≤ 50 := by unfold cellsCut; simp; omega
theorem outM_few (s : SchD) (a b : List CellD) : CellsFew (outM s a b) := by
  by_cases h : rightB s a = true ∧ rightB s b = true
  · have ra := right_parts h.1
    have rb := right_parts h.2
    have h4 := okSch_four ra.sch
    unfold outM
    split
    · exact (mergeL_rolled ra rb).few (by omega)
    · intro c hc; simp at hc
  · rw [mergeE_bad h]
    intro c hc; simp at hc
theorem outA_few (s : SchD) (l : List CellD) (r : RowD) : CellsFew (outA s l r) := by
  by_cases h : rightB s l = true ∧ fitsR s r = true
  · have ra := right_parts h.1
    have h4 := okSch_four ra.sch
    have hr : Rolled s.ms.length (puts s.ms.length l [ofC s r]) := ra.rolled.puts (fun c hc => by simp at hc; rw [hc]; exact ofC_ok h.2) (fun c hc => by simp at hc; rw [hc]; exact Int.le_of_lt Int.zero_lt_one)
    unfold outA
    split
    · exact hr.few (by omega)
    · intro c hc; simp at hc
  · rw [addE_bad h]
    intro c hc; simp at hc

set_option maxHeartbeats 4000000 in
theorem RollupMerges_walk (vd vm : Value) (ds ms : List ByteArray) (g : Int) (v : Value) (cl : List CellD) (v' : Value) (cl' : List CellD) (vr vn : Value) (t : Int) (l : List ValD) (xs : List Int) (w : World)
    (hd : StrsSl w vd ds) (hm : StrsSl w vm ms) (td : ∀ s ∈ ds, s.size ≤ 9223372036854775807) (tm : ∀ s ∈ ms, s.size ≤ 9223372036854775807) (hg : I64 g) (hv : CellsSl w v cl) (hf : ∀ c ∈ cl, CellFine c) (hv' : CellsSl w v' cl') (hf' : ∀ c ∈ cl', CellFine c)
    (hr : ValsSl w vr l) (hn : IntsSl w vn xs) (tl : ∀ v ∈ l, v.s.size ≤ 9223372036854775807) (tx : ∀ n ∈ xs, I64 n) (ht : I64 t) :
    Calls Try.prog 11 #[.agg #[vd, vm, .int .i64 g], v, v', .agg #[.int .i64 t, vr, vn]] w fun e w' => e = .returned (.bool true) ∧ Below w.heap.size w w' := by
  have HCUT := hid (fun W (h : Below w.heap.size w W) => cut_any vd vm ds ms g W (hd.below h) (hm.below h) td tm)
  have HFW := hid (fun W (h : Below w.heap.size w W) => lawFew_any cl v w W h hv (fun c hc => (hf c hc).1))
  have HFW' := hid (fun W (h : Below w.heap.size w W) => lawFew_any cl' v' w W h hv' (fun c hc => (hf' c hc).1))
  have HFEW := hid (fun W (h : Below w.heap.size w W) => fewRow_any vr vn t l xs W (hr.below h) tl (hn.below h))
  have HNT : Hid (∀ v2, (∀ w0, IntsSl w0 vn xs → IntsSl w0 v2 (xs.take 10)) → IntsSl w v2 (xs.take 10)) := fun v2 h => h w hn
  have HTL := hid (cells_tame hf); have HTL' := hid (cells_tame hf')
  have HLL := hid (cells_few cl); have HLL' := hid (cells_few cl')
  have HXS : Hid (∀ x ∈ xs.take 10, I64 x) := fun x hx => tx x (List.mem_of_mem_take hx)
  have HXL : Hid ((xs.take 10).length ≤ 10) := by unfold Hid; simp; omega
  have HVS := hid (vals_fine l)
  have HTD := hid (txt_fine ds); have HTM := hid (txt_fine ms)
  obtain ⟨ad, cd, rfl, _, _, _⟩ := SlAt.shape hd
  obtain ⟨am, cm, rfl, _, _, _⟩ := SlAt.shape hm
  obtain ⟨ar, cr, rfl, _, _, _⟩ := SlAt.shape hr
  obtain ⟨an, cn, rfl, _, _, _⟩ := SlAt.shape hn
  obtain ⟨av, cv, rfl, _, _, _⟩ := hv.shape
  obtain ⟨av', cv', rfl, _, _, _⟩ := hv'.shape
  clear hd hm hr hn td tm tl tx hv hf hv' hf'
  generalize ds.length = nd at *
  generalize ms.length = nm at *
  generalize l.length = nl at *
  generalize cl.length = nr at *
  generalize cl'.length = nr' at *
  generalize xs.length = nx at *
  obtain ⟨D, hD⟩ : ∃ D, txtCut 30 10 ds = D := ⟨_, rfl⟩
  obtain ⟨M, hM⟩ : ∃ M, txtCut 30 10 ms = M := ⟨_, rfl⟩
  obtain ⟨V, hV⟩ : ∃ V, valsCut l = V := ⟨_, rfl⟩
  obtain ⟨X, hX⟩ : ∃ X, xs.take 10 = X := ⟨_, rfl⟩
  obtain ⟨R, hR⟩ : ∃ R, cellsCut cl = R := ⟨_, rfl⟩
  obtain ⟨T, hT⟩ : ∃ T, cellsCut cl' = T := ⟨_, rfl⟩
  rw [hD, hM] at HCUT; rw [hV, hX] at HFEW; rw [hX] at HNT HXS HXL; rw [hV] at HVS; rw [hD] at HTD; rw [hM] at HTM; rw [hR] at HFW HTL HLL; rw [hT] at HFW' HTL' HLL'
  clear hD hM hV hX hR hT
  go_enter Try.func11, Try.ntmps11
  go_wp2_with (go_at_call 25; ((with_reducible refine (shown12_any _).mono ?_); rintro e w1 ⟨rfl, hb1⟩; have r0 : w1.heap[w.heap.size]? = some (.cells #[.slice ad nd cd, .slice am nm cm, .int .i64 g] 24 (0, 0)) := blk_below (by ((simp (disch := first | omega | (simp only [World.size_alloc, World.size_setCell, World.size_drew]; done) | (simp only [World.size_alloc, World.size_setCell, World.size_drew]; omega)) only [heap_at, heap_past, heap_set_other, heap_set_same]))) hb1; have r1 : w1.heap[w.heap.size + 1]? = some (.cells #[.int .i64 t, .slice ar nl cr, .slice an nx cn] 28 (0, 0)) := blk_below (by ((simp (disch := first | omega | (simp only [World.size_alloc, World.size_setCell, World.size_drew]; done) | (simp only [World.size_alloc, World.size_setCell, World.size_drew]; omega)) only [heap_at, heap_past, heap_set_other, heap_set_same]))) hb1; have hB1 : Below w.heap.size w w1 := (by (repeat' (first | (with_reducible exact Below.refl _ _) | (with_reducible assumption) | (with_reducible refine Below.new ?_ _) | (with_reducible refine Below.alloc ?_ ?_ _) | (with_reducible refine Below.drew ?_) | (with_reducible refine Below.drewN ?_ _) | (with_reducible refine Below.setCell ?_ ?_ _) | (refine Below.step ?_ (by assumption)) | go_size))); clear hb1; (obtain ⟨c0, c1, c2, f0, f1, f2⟩ := three_at r0)))
  refine (HCUT.out _ hB1).mono ?_
  rintro e w2 ⟨v1, v2, rfl, ho1, ho2, hb2⟩
  obtain ⟨a1, k1, rfl, _, _, _⟩ := SlAt.shape (SlAt.own ho1)
  obtain ⟨a2, k2, rfl, _, _, _⟩ := SlAt.shape (SlAt.own ho2)
  have z1 := blk_lt r1
  have HP := hid (And.intro (pre_sch (g := g) hB1 r0 (Nat.le_refl _) hb2 ho1 ho2) (set3_other (b := w.heap.size) (x' := .slice a1 D.length k1) (y' := .slice a2 M.length k2) (z' := .int .i64 g) (blk_below r1 hb2) (by omega)))
  have p0 := blk_below r0 hb2
  clear c0 c1 c2 f0 f1 f2 r0 r1 ho1 ho2 hb2 hB1
  obtain ⟨c0, c1, c2, f0, f1, f2⟩ := three_at p0
  clear p0
  go_wp2_with fail
  clear c0 c1 c2 f0 f1 f2
  generalize hW2 : ((w2.setCell ⟨w.heap.size, 0, none⟩ (.slice a1 D.length k1)).setCell ⟨w.heap.size, 1, none⟩ (.slice a2 M.length k2)).setCell ⟨w.heap.size, 2, none⟩ (.int .i64 g) = W2 at *
  obtain ⟨⟨hBW, q0, o1, o2⟩, q1⟩ := HP.out
  clear HP hW2
  refine (HFW.out _ hBW).mono ?_
  rintro e w3 ⟨v3, ps, rfl, hrs, hps, hb3⟩
  obtain ⟨fo, fc, e⟩ := row_shape hrs.row
  subst e
  go_wp2_with fail
  refine (HFW'.out _ (hBW.step hb3)).mono ?_
  rintro e w3' ⟨v3', ps', rfl, hrs', hps', hb3'⟩
  obtain ⟨fo', fc', e⟩ := row_shape hrs'.row
  subst e
  replace hrs := hrs.step hb3'
  have hz33 := hb3.size
  replace hb3 := hb3.step hb3'
  clear hb3'
  obtain ⟨w3s, hw3s⟩ : ∃ b, w3.heap.size = b := ⟨_, rfl⟩
  rw [hw3s] at hrs' hz33
  clear hw3s
  clear w3
  rename World => w3
  have p0 := blk_below q0 hb3; have p1 := blk_below q1 hb3
  have n1 := row_below o1 hb3; have n2 := row_below o2 hb3
  have zW := blk_lt q1
  have hB3 := hBW.step hb3
  obtain ⟨c0, c1, c2, f0, f1, f2⟩ := three_at p1
  clear q0 q1 o1 o2 hb3
  go_wp2_with fail
  clear c0 c1 c2 f0 f1 f2
  refine (HFEW.out _ hB3).mono ?_
  rintro e w4 ⟨v4, v5, rfl, ho4, hv5, hb4⟩
  have hx5 := HNT.out _ hv5
  clear hv5
  have q0 := set3_other (b := w.heap.size + 1) (x' := .int .i64 t) (y' := v4) (z' := v5) (blk_below p0 hb4) (by omega)
  have q1 := set3 (x' := .int .i64 t) (y' := v4) (z' := v5) (blk_below p1 hb4)
  have o1 := row_far3 (b := w.heap.size + 1) (x' := .int .i64 t) (y' := v4) (z' := v5) (row_below n1 hb4) (by omega)
  have o2 := row_far3 (b := w.heap.size + 1) (x' := .int .i64 t) (y' := v4) (z' := v5) (row_below n2 hb4) (by omega)
  have o3 := (hrs.step hb4).far3 (b := w.heap.size + 1) (x := .int .i64 t) (y := v4) (z := v5) (by omega) zW
  have o3' := (hrs'.step hb4).far3 (b := w.heap.size + 1) (x := .int .i64 t) (y := v4) (z := v5) (by omega) (by omega)
  have z3 := blk_lt p1
  have o4 := row_far3 (b := w.heap.size + 1) (x' := .int .i64 t) (y' := v4) (z' := v5) ho4 (by omega)
  have hB5 := below3 (b := w.heap.size + 1) (x' := .int .i64 t) (y' := v4) (z' := v5) (hB3.step hb4) (by omega)
  have p2 := blk_below p1 hb4
  obtain ⟨a4, k4, rfl, _, _, _⟩ := SlAt.shape (SlAt.own ho4)
  obtain ⟨a5, k5, rfl, _, _, _⟩ := SlAt.shape hx5
  obtain ⟨c0, c1, c2, f0, f1, f2⟩ := three_at p2
  obtain ⟨e0, e1, e2, _, _, _⟩ := three_at (blk_below p0 hb4)
  have HP := hid (And.intro q0 (And.intro q1 (And.intro o1 (And.intro o2 (And.intro o3 (And.intro o3' (And.intro o4 hB5)))))))
  clear q0 q1 o1 o2 o3 o3' o4 hB5 p0 p1 p2 n1 n2 hrs hrs' ho4 hb4 hB3 zW hz33
  go_wp2_with fail
  clear c0 c1 c2 f0 f1 f2 e0 e1 e2
  generalize hW5 : ((w4.setCell ⟨w.heap.size + 1, 0, none⟩ (.int .i64 t)).setCell ⟨w.heap.size + 1, 1, none⟩ (.slice a4 V.length k4)).setCell ⟨w.heap.size + 1, 2, none⟩ (.slice a5 X.length k5) = W5 at *
  obtain ⟨q0, q1, o1, o2, o3, o3', o4, hB5⟩ := HP.out
  clear HP hW5 hBW
  have s1 := StrsSl.own o1; have s2 := StrsSl.own o2; have s4 := ValsSl.own o4; have s3 := o3.is; have s3' := o3'.is
  rw [hps] at s3
  rw [hps'] at s3'
  have s5 := hx5.below hB5
  have hlR : ps.length = R.length := by rw [← hps]; simp [cellsP]
  have hlT : ps'.length = T.length := by rw [← hps']; simp [cellsP]
  have HA := hid (fun W (h : Below W5.heap.size W5 W) => add_out ⟨D, M, g⟩ R ⟨t, V, X⟩ _ _ _ _ _ W (s1.below h) (s2.below h) HTD.out HTM.out (s3.below h) HTL.out (s4.below h) HVS.out (s5.below h) HXS.out)
  have HB := hid (fun W (h : Below W5.heap.size W5 W) => refAdd_out ⟨D, M, g⟩ R ⟨t, V, X⟩ _ _ _ _ _ W (s1.below h) (s2.below h) HTD.out HTM.out (s3.below h) HTL.out (by have := HLL.out; omega) (s4.below h) HVS.out (s5.below h) HXS.out)
  have HC := hid (fun W (h : Below W5.heap.size W5 W) => merge_out ⟨D, M, g⟩ R T _ _ _ _ W (s1.below h) (s2.below h) HTD.out HTM.out (s3.below h) (s3'.below h) HTL.out HTL'.out)
  have HD := hid (fun W (h : Below W5.heap.size W5 W) => refMerge_out ⟨D, M, g⟩ R T _ _ _ _ W (s1.below h) (s2.below h) HTD.out HTM.out (s3.below h) (s3'.below h) HTL.out HTL'.out (by have := HLL.out; omega) (by have := HLL'.out; omega))
  have HR1 := hid (fun W (h : Below W5.heap.size W5 W) => rollRight_any ⟨D, M, g⟩ R _ _ _ W (s1.below h) (s2.below h) HTD.out HTM.out (s3.below h) HTL.out)
  have HR2 := hid (fun W (h : Below W5.heap.size W5 W) => refRight12_any ⟨D, M, g⟩ R _ _ _ W (s1.below h) (s2.below h) HTD.out HTM.out (s3.below h) HTL.out (by have := HLL.out; omega))
  have HC1 := hid (fun W (h : Below W5.heap.size W5 W) => count_any _ R W (s3.below h))
  have HC2 := hid (fun W (h : Below W5.heap.size W5 W) => refCount_any _ R W (s3.below h))
  have HF1 := hid (outA_few ⟨D, M, g⟩ R ⟨t, V, X⟩)
  have HF2 := hid (outM_few ⟨D, M, g⟩ R T)
  have HB5 := hid hB5
  clear s1 s2 s3 s3' s4 s5 o1 o2 o3 o3' o4 hx5 hps hps' hB5 hlR hlT
  generalize addE ⟨D, M, g⟩ R ⟨t, V, X⟩ = E1 at *
  generalize outA ⟨D, M, g⟩ R ⟨t, V, X⟩ = L1 at *
  generalize mergeE ⟨D, M, g⟩ R T = E2 at *
  generalize outM ⟨D, M, g⟩ R T = L2 at *
  generalize rightB ⟨D, M, g⟩ R = RB at *
  generalize countW R = CW at *
  obtain ⟨c0, c1, c2, _, _, _⟩ := three_at q0
  obtain ⟨d0, d1, d2, _, _, _⟩ := three_at q1
  have HQ0 := hid q0
  have zA := blk_lt q0; have zB := blk_lt q1
  clear q0 q1
  go_wp2_with (first
    | (go_at_call 38; go_loud ((with_reducible refine (HA.out _ (by (repeat' (first | (with_reducible exact Below.refl _ _) | (with_reducible assumption) | (with_reducible refine Below.new ?_ _) | (with_reducible refine Below.alloc ?_ ?_ _) | (with_reducible refine Below.drew ?_) | (with_reducible refine Below.drewN ?_ _) | (with_reducible refine Below.setCell ?_ ?_ _) | (refine Below.step ?_ (by assumption)) | go_size)))).mono ?_); rintro e w6 ⟨va, rfl, hca, hb6⟩; obtain ⟨hc6, hf6, hk6, hz6⟩ := bcell3 hb6; (try simp only [World.size_alloc, World.size_drew] at hz6); have : w.heap.size < w6.heap.size := (by omega); have : w.heap.size + 1 < w6.heap.size := (by omega); have HCA := hid hca; clear hca))
    | (go_at_call 40; go_loud ((with_reducible refine (HB.out _ (by (repeat' (first | (with_reducible exact Below.refl _ _) | (with_reducible assumption) | (with_reducible refine Below.new ?_ _) | (with_reducible refine Below.alloc ?_ ?_ _) | (with_reducible refine Below.drew ?_) | (with_reducible refine Below.drewN ?_ _) | (with_reducible refine Below.setCell ?_ ?_ _) | (refine Below.step ?_ (by assumption)) | go_size)))).mono ?_); rintro e w7 ⟨vb, rfl, hcb, hb7⟩; obtain ⟨hc7, hf7, hk7, hz7⟩ := bcell3 hb7; (try simp only [World.size_alloc, World.size_drew] at hz7); have : w.heap.size < w7.heap.size := (by omega); have : w.heap.size + 1 < w7.heap.size := (by omega); have HCB := hid hcb; clear hcb))
    | (go_at_call 37; go_loud ((with_reducible refine (HC.out _ (by (repeat' (first | (with_reducible exact Below.refl _ _) | (with_reducible assumption) | (with_reducible refine Below.new ?_ _) | (with_reducible refine Below.alloc ?_ ?_ _) | (with_reducible refine Below.drew ?_) | (with_reducible refine Below.drewN ?_ _) | (with_reducible refine Below.setCell ?_ ?_ _) | (refine Below.step ?_ (by assumption)) | go_size)))).mono ?_); rintro e w8 ⟨vc, rfl, hcc, hb8⟩; obtain ⟨hc8, hf8, hk8, hz8⟩ := bcell3 hb8; (try simp only [World.size_alloc, World.size_drew] at hz8); have : w.heap.size < w8.heap.size := (by omega); have : w.heap.size + 1 < w8.heap.size := (by omega); have HCC := hid hcc; clear hcc))
    | (go_at_call 41; go_loud ((with_reducible refine (HD.out _ (by (repeat' (first | (with_reducible exact Below.refl _ _) | (with_reducible assumption) | (with_reducible refine Below.new ?_ _) | (with_reducible refine Below.alloc ?_ ?_ _) | (with_reducible refine Below.drew ?_) | (with_reducible refine Below.drewN ?_ _) | (with_reducible refine Below.setCell ?_ ?_ _) | (refine Below.step ?_ (by assumption)) | go_size)))).mono ?_); rintro e w9 ⟨vd', rfl, hcd, hb9⟩; have HCD := hid hcd; clear hcd)))
  have h89 : Below w8.heap.size w8 w9 := hb9
  have h79 : Below w7.heap.size w7 w9 := hb8.step hb9
  have h69 : Below w6.heap.size w6 w9 := hb7.step h79
  have h59 : Below W5.heap.size W5 w9 := hb6.step h69
  have HS1 := hid (fun x => refSameC_any va vb L1 L1 (World.plus w9 x) ((HCA.out.below h69).below (World.plus_below w9 x)) ((HCB.out.below h79).below (World.plus_below w9 x)) HF1.out HF1.out)
  have HS2 := hid (fun x => refSameC_any vc vd' L2 L2 (World.plus w9 x) ((HCC.out.below h89).below (World.plus_below w9 x)) (HCD.out.below (World.plus_below w9 x)) HF2.out HF2.out)
  simp only [sameCs_refl] at HS1 HS2
  have H59 := hid h59
  have H9W := hid (HB5.out.step h59)
  clear c0 c1 c2
  obtain ⟨c0, c1, c2, _, _, _⟩ := three_at (blk_below HQ0.out h59)
  have pc0 := World.plus_cell c0; have pc1 := World.plus_cell c1; have pc2 := World.plus_cell c2
  clear c0 c1 c2 d0 d1 d2 hb6 hb7 hb8 hb9 hc6 hc7 hc8 hf6 hf7 hf8 hk6 hk7 hk8 hz6 hz7 hz8 h69 h79 h89 h59 HA HB HC HD HCA HCB HCC HCD HF1 HF2 HQ0 zA zB HFEW HNT HCUT HTD HTM HVS HXL HXS HFW HFW' HTL HTL' HLL HLL' HB5
  have hRB : (RB == RB) = true := by simp
  have hCW : (CW == CW) = true := by simp
  refine wp_region_plus (by kernel_rfl) (by kernel_rfl) ?_
  repeat (first | go_big_quiet_skip | (go_big_quiet_want; go_big_quiet_op; first | go_big_quiet_on | go_big_quiet_call ((first | (go_at_call 36; exact Calls.plus_of (HR1.out _ (H59.out.step (World.plus_below w9 _)))) | (go_at_call 42; exact Calls.plus_of (HR2.out _ (H59.out.step (World.plus_below w9 _)))) | (go_at_call 31; first | (with_reducible exact Calls.plus_of (HS1.out _)) | (with_reducible exact Calls.plus_of (HS2.out _))) | (go_at_call 33; exact Calls.plus_of (HC1.out _ (H59.out.step (World.plus_below w9 _)))) | (go_at_call 34; exact Calls.plus_of (HC2.out _ (H59.out.step (World.plus_below w9 _))))))))
  refine wpQuiet_nil ?_
  rintro _ ⟨xq, rfl⟩
  have HX := hid (H9W.out.step (World.plus_below w9 xq))
  go_wp2
  go_ret
  exact ⟨rfl, HX.out⟩
set_option maxRecDepth 100000 in
theorem RollupMerges_lifted (os : Os) (started : os.Started) (H : Type) (enc : TypeId × Value → H) :
    ReturnsInHanded {} Try.checked os 11 .any (Rows.rollupMergesSpec.pre6 enc Try.prog Try.f11 Rows.rollupMergesRow.domain false) (Rows.rollupMergesSpec.post enc Try.prog Try.f11 false true false false) := by
  refine law_lift started (by kernel_rfl) Try.func11
    (ChangeSpec.witness6 (enc := enc) (C := Try.checked) false ⟨#[], #[.agg #[.slice none 0 0, .slice none 0 0, .int .i64 0], .slice none 0 0, .slice none 0 0, .agg #[.int .i64 0, .slice none 0 0, .slice none 0 0]], []⟩ 8 (by kernel_rfl) (by kernel_rfl) (by kernel_rfl) (by kernel_rfl)) rfl rfl (by kernel_rfl) ?_ ?_
  · intro ds hl
    match ds, hl with
    | [_, _, _, _], _ => exact ⟨rfl, rfl, rfl⟩
  · intro W base args ds p hval hA hsz
    rw [Try.params11] at hA hval hsz
    obtain ⟨v0, vs0, d0, ds0, p0, q0, hargs, rfl, rfl, h0, r0⟩ := trodAll_cons hA
    obtain ⟨v1, vs1, d1, ds1, p1, q1, rfl, rfl, rfl, h1, r1⟩ := trodAll_cons r0
    obtain ⟨v2, vs2, d2, ds2, p2, q2, rfl, rfl, rfl, h2, r2⟩ := trodAll_cons r1
    obtain ⟨v3, vs3, d3, ds3, p3, q3, rfl, rfl, rfl, h3, r3⟩ := trodAll_cons r2
    obtain ⟨rfl, rfl, rfl⟩ := trodAll_nil r3
    obtain rfl : args = #[v0, v1, v2, v3] := by cases args; simp_all
    obtain ⟨va0, vb0, x0, y0, z0, rfl, b0, e0, f0, g0, k0⟩ := open_sch (hval 0 24 v0 rfl rfl) h0
    obtain ⟨x1, b1, e1⟩ := open_cellsT Try.underlying40 (hval 1 40 v1 rfl rfl) h1
    obtain ⟨x2, b2, e2⟩ := open_cellsT Try.underlying40 (hval 2 40 v2 rfl rfl) h2
    obtain ⟨va3, vb3, z3, x3, y3, rfl, b3, e3, f3, g3, k3⟩ := open_row (hval 3 28 v3 rfl rfl) h3
    exact RollupMerges_walk _ _ _ _ _ _ _ _ _ _ _ _ _ _ W b0 e0 f0 g0 k0 b1 e1 b2 e2 b3 e3 f3 g3 k3

theorem RollupMerges_over : Rows.rollupMergesRow.holds Try.pinned (OpenSpec.ofChange Rows.rollupMergesSpec) :=
  OpenClaim.holds_of_wide 11 Try.f11 rfl rfl rfl rfl rfl rfl rfl ⟨rfl, rfl, rfl, rfl, rfl⟩ rfl rfl rfl rfl rfl (by kernel_rfl) Try.func11 (by kernel_rfl)
    (of_decide_eq_true (by kernel_rfl)) (by unfold Func.isWrapper; first | (rw [if_pos (by decide +kernel)]; kernel_rfl) | (rw [if_neg (by decide +kernel)]; exact ⟨rfl, rfl⟩))
    (fun os started H enc _ => RollupMerges_lifted os started H enc)

/-- The statement. -/
theorem RollupMerges_proved : Rows.RollupMergesSaid := RollupMerges_over
end Go.Proofs.Ytdgeinipdphoeaa
