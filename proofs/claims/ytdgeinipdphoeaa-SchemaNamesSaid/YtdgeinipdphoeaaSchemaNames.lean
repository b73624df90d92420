/- SchemaNames holds: each name of a right schema stands at its place, among its own. No condition. -/
import Derived.Test.YtdgeinipdphoeaaSchM
import Derived.Test.YtdgeinipdphoeaaSchQ
import Derived.Test.YtdgeinipdphoeaaOpenS
import Derived.Test.YtdgeinipdphoeaaLaw
import Derived.Test.YtdgeinipdphoeaaQuiet
import Derived.Test.YtdgeinipdphoeaaSchemaRights
namespace Go.Proofs.Ytdgeinipdphoeaa
set_option linter.unusedVariables false
set_option linter.unusedSimpArgs false
set_option maxRecDepth 100000
open Go.ChangeShapes Go.WideShapes Go.ChangeAt Go.RowKit Go.Joins

theorem names_apart {ss : List ByteArray} (h : namesB ss = true) : ∀ i j (hi : i < j) (hj : j < ss.length), ss[i]'(Nat.lt_trans hi hj) ≠ ss[j] := by
  intro i j hi hj he
  unfold namesB at h
  have h1 := List.all_eq_true.1 h j (List.mem_range.2 hj)
  unfold okAt strAt at h1
  simp only [Bool.and_eq_true, Bool.not_eq_true'] at h1
  have h2 := h1.1
  unfold seenB at h2
  rw [List.any_eq_false] at h2
  have h3 := h2 (ss[i]'(Nat.lt_trans hi hj)) (by
    rw [List.mem_take_iff_getElem]
    exact ⟨i, by omega, rfl⟩)
  rw [List.getElem?_eq_getElem hj] at h3
  simp [he] at h3
theorem idx_self {l : List ByteArray} (h : ∀ i j (hi : i < j) (hj : j < l.length), l[i]'(Nat.lt_trans hi hj) ≠ l[j]) (k : Nat) (hk : k < l.length) : Lib.idxOfS l l[k] = (k : Int) := by
  rcases idx_is l l[k] with ⟨_, h2⟩ | ⟨j, hj, h1, h2, _⟩
  · have := h2 k hk
    simp at this
  · rw [h1]
    have : j = k := by
      rcases Nat.lt_trichotomy j k with h3 | h3 | h3
      · exact absurd h2 (h j k h3 hk)
      · exact h3
      · exact absurd h2.symm (h k j h3 hj)
    rw [this]
theorem idx_none {l : List ByteArray} {x : ByteArray} (h : ∀ i (hi : i < l.length), l[i] ≠ x) : Lib.idxOfS l x = -1 := by
  rcases idx_is l x with ⟨h1, _⟩ | ⟨j, hj, _, h2, _⟩
  · exact h1
  · exact absurd h2 (h j hj)
theorem right_names {D M : List ByteArray} {g : Int} (h : rightS D M g = true) : (∀ i (hi : i < D.length), Lib.idxOfS D D[i] = (i : Int) ∧ Lib.idxOfS M D[i] = -1) ∧ (∀ i (hi : i < M.length), Lib.idxOfS M M[i] = (i : Int) ∧ Lib.idxOfS D M[i] = -1) := by
  unfold rightS at h
  simp only [Bool.and_eq_true, decide_eq_true_eq] at h
  have ha := names_apart h.2.2.2
  have hD : ∀ i (hi : i < D.length), (D ++ M)[i]'(by simp; omega) = D[i] := fun i hi => List.getElem_append_left hi
  have hM : ∀ i (hi : i < M.length), (D ++ M)[D.length + i]'(by simp; omega) = M[i] := fun i hi => by rw [List.getElem_append_right (by omega)]; simp
  have d1 : ∀ i j (hi : i < j) (hj : j < D.length), D[i]'(Nat.lt_trans hi hj) ≠ D[j] := fun i j hi hj => by
    rw [← hD i (by omega), ← hD j hj]; exact ha i j hi (by simp; omega)
  have d2 : ∀ i j (hi : i < j) (hj : j < M.length), M[i]'(Nat.lt_trans hi hj) ≠ M[j] := fun i j hi hj => by
    rw [← hM i (by omega), ← hM j hj]; exact ha _ _ (by omega) (by simp; omega)
  have d3 : ∀ i j (hi : i < D.length) (hj : j < M.length), D[i] ≠ M[j] := fun i j hi hj => by
    rw [← hD i hi, ← hM j hj]; exact ha _ _ (by omega) (by simp; omega)
  exact ⟨fun i hi => ⟨idx_self d1 i hi, idx_none fun j hj e => d3 i j hi hj e.symm⟩, fun i hi => ⟨idx_self d2 i hi, idx_none fun j hj e => d3 j i hj hi e⟩⟩

set_option maxHeartbeats 4000000 in
theorem SchemaNames_walk (vd vm : Value) (ds ms : List ByteArray) (g : Int) (w : World)
    (hd : StrsSl w vd ds) (hm : StrsSl w vm ms) (td : ∀ s ∈ ds, s.size ≤ 9223372036854775807) (tm : ∀ s ∈ ms, s.size ≤ 9223372036854775807) (hg : I64 g) :
    Calls Try.prog 4 #[.agg #[vd, vm, .int .i64 g]] w fun e w' => e = .returned (.bool true) ∧ Below w.heap.size w w' := by
  have HCUT := hid (fun W (h : Below w.heap.size w W) => cut_any vd vm ds ms g W (hd.below h) (hm.below h) td tm)
  obtain ⟨ad, cd, rfl, _, _, _⟩ := SlAt.shape hd
  obtain ⟨am, cm, rfl, _, _, _⟩ := SlAt.shape hm
  have T1 := txt_ok 30 (by decide) ds; have T2 := txt_ok 30 (by decide) ms
  clear hd hm td tm
  generalize ds.length = nd at *
  generalize ms.length = nm at *
  obtain ⟨D, hD⟩ : ∃ D, txtCut 30 10 ds = D := ⟨_, rfl⟩
  obtain ⟨M, hM⟩ : ∃ M, txtCut 30 10 ms = M := ⟨_, rfl⟩
  rw [hD, hM] at HCUT
  rw [hD] at T1; rw [hM] at T2
  clear hD hM
  go_enter Try.func4, Try.ntmps4
  go_wp2_with (go_at_call 13; ((with_reducible refine (shown10_any _).mono ?_); rintro e w1 ⟨rfl, hb1⟩; have r0 : w1.heap[w.heap.size]? = some (.cells #[.slice ad nd cd, .slice am nm cm, .int .i64 g] 24 (0, 0)) := blk_below (by ((simp (disch := first | omega | (simp only [World.size_alloc, World.size_setCell, World.size_drew]; done) | (simp only [World.size_alloc, World.size_setCell, World.size_drew]; omega)) only [heap_at, heap_past, heap_set_other, heap_set_same]))) hb1; have hB1 : Below w.heap.size w w1 := (by (repeat' (first | (with_reducible exact Below.refl _ _) | (with_reducible assumption) | (with_reducible refine Below.new ?_ _) | (with_reducible refine Below.alloc ?_ ?_ _) | (with_reducible refine Below.drew ?_) | (with_reducible refine Below.drewN ?_ _) | (with_reducible refine Below.setCell ?_ ?_ _) | (refine Below.step ?_ (by assumption)) | go_size))); clear hb1; (obtain ⟨c0, c1, c2, f0, f1, f2⟩ := three_at r0)))
  refine (HCUT.out _ hB1).mono ?_
  rintro e w2 ⟨v1, v2, rfl, ho1, ho2, hb2⟩
  have hB2 := hB1.trans (hb2.mono hB1.size)
  have p0 := blk_below r0 hb2
  have z1 := blk_lt r0; have z2 := blk_lt p0
  clear c0 c1 c2 f0 f1 f2 hB1 hb2 r0
  obtain ⟨a1, c1, rfl, _, _, _⟩ := SlAt.shape (SlAt.own ho1)
  obtain ⟨a2, c2, rfl, _, _, _⟩ := SlAt.shape (SlAt.own ho2)
  have g1 := StrsSl.own (row_far3 (b := w.heap.size) (x' := .slice a1 D.length c1) (y' := .slice a2 M.length c2) (z' := .int .i64 g) ho1 (by omega))
  have g2 := StrsSl.own (row_far3 (b := w.heap.size) (x' := .slice a1 D.length c1) (y' := .slice a2 M.length c2) (z' := .int .i64 g) ho2 (by omega))
  obtain ⟨nD, hnD⟩ : ∃ n, D.length = n := ⟨_, rfl⟩
  obtain ⟨nM, hnM⟩ : ∃ n, M.length = n := ⟨_, rfl⟩
  have HND := hid hnD; have HNM := hid hnM
  rw [hnD, hnM] at g1 g2 ⊢
  clear hnD hnM
  have q0 := set3 (x' := .slice a1 nD c1) (y' := .slice a2 nM c2) (z' := .int .i64 g) p0
  have hBW := below3 (x' := .slice a1 nD c1) (y' := .slice a2 nM c2) (z' := .int .i64 g) hB2 (Nat.le_refl w.heap.size)
  (obtain ⟨k0, k1, k2, l0, l1, l2⟩ := three_at p0)
  have HQ := hid (show Below w.heap.size w (((w2.setCell ⟨w.heap.size, 0, none⟩ (.slice a1 nD c1)).setCell ⟨w.heap.size, 1, none⟩ (.slice a2 nM c2)).setCell ⟨w.heap.size, 2, none⟩ (.int .i64 g)) ∧ (((w2.setCell ⟨w.heap.size, 0, none⟩ (.slice a1 nD c1)).setCell ⟨w.heap.size, 1, none⟩ (.slice a2 nM c2)).setCell ⟨w.heap.size, 2, none⟩ (.int .i64 g)).heap[w.heap.size]? = _ ∧ StrsSl (((w2.setCell ⟨w.heap.size, 0, none⟩ (.slice a1 nD c1)).setCell ⟨w.heap.size, 1, none⟩ (.slice a2 nM c2)).setCell ⟨w.heap.size, 2, none⟩ (.int .i64 g)) (.slice a1 nD c1) D ∧ StrsSl (((w2.setCell ⟨w.heap.size, 0, none⟩ (.slice a1 nD c1)).setCell ⟨w.heap.size, 1, none⟩ (.slice a2 nM c2)).setCell ⟨w.heap.size, 2, none⟩ (.int .i64 g)) (.slice a2 nM c2) M from ⟨hBW, q0, g1, g2⟩)
  clear hBW q0 g1 g2 ho1 ho2 hB2 p0
  go_wp2_with fail
  clear k0 k1 k2 l0 l1 l2
  generalize ((w2.setCell ⟨w.heap.size, 0, none⟩ (.slice a1 nD c1)).setCell ⟨w.heap.size, 1, none⟩ (.slice a2 nM c2)).setCell ⟨w.heap.size, 2, none⟩ (.int .i64 g) = W2 at *
  obtain ⟨hBW, q0, g1, g2⟩ := HQ.out
  clear HQ
  have hl1 := SlAt.shape g1
  obtain ⟨_, _, e1, hd1, hd2, _⟩ := hl1
  have hl2 := SlAt.shape g2
  obtain ⟨_, _, e2, hm1, hm2, _⟩ := hl2
  have hnd : nD ≤ 1000 := by have := T1.1; rw [HND.out] at this; exact this
  have hnm : nM ≤ 1000 := by have := T2.1; rw [HNM.out] at this; exact this
  clear e1 e2 hd1 hd2 hm1 hm2
  refine (right_any _ _ D M g W2 g1 g2 T1 T2).mono ?_
  rintro e w5 ⟨rfl, hb5⟩
  have r1 := g1.below hb5; have r2 := g2.below hb5
  have p5 := blk_below q0 hb5
  have hB5 := hBW.trans (hb5.mono hBW.size)
  have HB5 := hid hB5
  clear g1 g2 q0 hBW hb5 hB5
  cases hrs : rightS D M g with
  | false =>
    clear hrs
    go_wp2
    go_ret
    exact ⟨rfl, HB5.out⟩
  | true =>
    obtain ⟨n1, n2⟩ := right_names hrs
    have HA1 : Hid (∀ k (hk : k < D.length) W, Below w5.heap.size w5 W → Calls Try.prog 17 #[.agg #[.slice a1 nD c1, .slice a2 nM c2, .int .i64 g], .string D[k]] W fun e w' => e = .returned (.tuple #[.int .i64 (k : Int), .bool true]) ∧ Below W.heap.size W w') := fun k hk W h => by
      have := dim_any _ _ D M g D[k] W (r1.below h) (r2.below h) T1 T2
      rw [hrs, (n1 k hk).1] at this
      simpa [placeI, placeB] using this
    have HA2 : Hid (∀ k (hk : k < D.length) W, Below w5.heap.size w5 W → Calls Try.prog 19 #[.agg #[.slice a1 nD c1, .slice a2 nM c2, .int .i64 g], .string D[k]] W fun e w' => e = .returned (.tuple #[.int .i64 0, .bool false]) ∧ Below W.heap.size W w') := fun k hk W h => by
      have := metric_any _ _ D M g D[k] W (r1.below h) (r2.below h) T1 T2
      rw [hrs, (n1 k hk).2] at this
      simpa [placeI, placeB] using this
    have HC1 : Hid (∀ k (hk : k < M.length) W, Below w5.heap.size w5 W → Calls Try.prog 19 #[.agg #[.slice a1 nD c1, .slice a2 nM c2, .int .i64 g], .string M[k]] W fun e w' => e = .returned (.tuple #[.int .i64 (k : Int), .bool true]) ∧ Below W.heap.size W w') := fun k hk W h => by
      have := metric_any _ _ D M g M[k] W (r1.below h) (r2.below h) T1 T2
      rw [hrs, (n2 k hk).1] at this
      simpa [placeI, placeB] using this
    have HC2 : Hid (∀ k (hk : k < M.length) W, Below w5.heap.size w5 W → Calls Try.prog 17 #[.agg #[.slice a1 nD c1, .slice a2 nM c2, .int .i64 g], .string M[k]] W fun e w' => e = .returned (.tuple #[.int .i64 0, .bool false]) ∧ Below W.heap.size W w') := fun k hk W h => by
      have := dim_any _ _ D M g M[k] W (r1.below h) (r2.below h) T1 T2
      rw [hrs, (n2 k hk).2] at this
      simpa [placeI, placeB] using this
    have HR1 := hid (show SlAt w5 (.slice a1 nD c1) D.length 1 (strsV D) from r1); have HR2 := hid (show SlAt w5 (.slice a2 nM c2) M.length 1 (strsV M) from r2)
    (obtain ⟨m0, m1, m2, _, _, _⟩ := three_at p5)
    clear hrs n1 n2 r1 r2 p5
    go_wp2
    go_loopw [4] (fun i wr => ∃ k : Nat, k ≤ nD ∧ i = .int .i64 k ∧ Below w5.heap.size w5 wr) (fun i _ => nD - (intOf i).toNat)
    case atStart => exact ⟨0, Nat.zero_le _, rfl, Below.refl _ _⟩
    case round =>
      obtain ⟨k, hk, rfl, hbel⟩ := hrel
      have t0 := cell_step m0 hbel; have t1 := cell_step m1 hbel; have t2 := cell_step m2 hbel
      have x0 := World.plus_cell (cell_step m0 hbel); have x1 := World.plus_cell (cell_step m1 hbel); have x2 := World.plus_cell (cell_step m2 hbel)
      by_cases hkN : k < nD
      · have hlen : k < D.length := by rw [HND.out]; exact hkN
        obtain ⟨b, off, rfl, hcell⟩ := (SlAt.parts HR1.out).2.2.2.2 (by simp; omega)
        have ck := cell_step (hcell k (.string D[k]) (by rw [List.getElem?_map, List.getElem?_eq_getElem hlen]; rfl)) hbel
        have dk := World.plus_cell ck
        have HA := hid (HA1.out k hlen); have HBx := hid (HA2.out k hlen)
        generalize D[k] = s at *
        have HB := hid hbel
        clear hcell ck hbel
        have q1 : (0 : Int) ≤ (k : Int) := Int.natCast_nonneg _
        have q2 : (k : Int) < (nD : Int) := by omega
        go_wp2
        refine wp_region_plus (by kernel_rfl) (by kernel_rfl) ?_
        repeat (first | go_big_quiet_skip | (go_big_quiet_want; go_big_quiet_op; first | go_big_quiet_on | go_big_quiet_call (((go_at_call 17; exact Calls.plus_of (HA.out _ (HB.out.step (World.plus_below _ _))))))))
        refine wpQuiet_nil ?_
        rintro _ ⟨xq, rfl⟩
        have hbq := HB.out.step (World.plus_below wr xq)
        have y0 := World.plus_cell (x0 xq); have y1 := World.plus_cell (x1 xq); have y2 := World.plus_cell (x2 xq); have ek := World.plus_cell (dk xq)
        have HBq := hid hbq
        clear x0 x1 x2 dk hbq HB t0 t1 t2
        generalize World.plus wr xq = W6 at *
        go_wp2
        refine wp_region_plus (by kernel_rfl) (by kernel_rfl) ?_
        repeat (first | go_big_quiet_skip | (go_big_quiet_want; go_big_quiet_op; first | go_big_quiet_on | go_big_quiet_call (((go_at_call 19; exact Calls.plus_of (HBx.out _ (HBq.out.step (World.plus_below _ _))))))))
        refine wpQuiet_nil ?_
        rintro _ ⟨xq, rfl⟩
        have HB6 := hid (HBq.out.step (World.plus_below W6 xq))
        clear y0 y1 y2 ek
        go_wp2
        go_roundw
        case rel => exact ⟨k + 1, hkN, by go_num, HB6.out⟩
        case measure => simp [intOf]; omega
      · obtain rfl : k = nD := by omega
        have hz5 := hbel.size
        have HBE := hid hbel
        clear x0 x1 x2 hbel
        go_wp2
        go_loopw [9] (fun i wr => ∃ k : Nat, k ≤ nM ∧ i = .int .i64 k ∧ Below w5.heap.size w5 wr) (fun i _ => nM - (intOf i).toNat)
        case atStart => exact ⟨0, Nat.zero_le _, rfl, HBE.out⟩
        case round =>
          obtain ⟨k, hk, rfl, hbel⟩ := hrel
          have t0 := cell_step m0 hbel; have t1 := cell_step m1 hbel; have t2 := cell_step m2 hbel
          have x0 := World.plus_cell (cell_step m0 hbel); have x1 := World.plus_cell (cell_step m1 hbel); have x2 := World.plus_cell (cell_step m2 hbel)
          by_cases hkN : k < nM
          · have hlen : k < M.length := by rw [HNM.out]; exact hkN
            obtain ⟨b, off, rfl, hcell⟩ := (SlAt.parts HR2.out).2.2.2.2 (by simp; omega)
            have ck := cell_step (hcell k (.string M[k]) (by rw [List.getElem?_map, List.getElem?_eq_getElem hlen]; rfl)) hbel
            have dk := World.plus_cell ck
            have HA := hid (HC1.out k hlen); have HBx := hid (HC2.out k hlen)
            generalize M[k] = s at *
            have HB := hid hbel
            clear hcell ck hbel
            have q1 : (0 : Int) ≤ (k : Int) := Int.natCast_nonneg _
            have q2 : (k : Int) < (nM : Int) := by omega
            go_wp2
            refine wp_region_plus (by kernel_rfl) (by kernel_rfl) ?_
            repeat (first | go_big_quiet_skip | (go_big_quiet_want; go_big_quiet_op; first | go_big_quiet_on | go_big_quiet_call (((go_at_call 19; exact Calls.plus_of (HA.out _ (HB.out.step (World.plus_below _ _))))))))
            refine wpQuiet_nil ?_
            rintro _ ⟨xq, rfl⟩
            have hbq := HB.out.step (World.plus_below wr xq)
            have y0 := World.plus_cell (x0 xq); have y1 := World.plus_cell (x1 xq); have y2 := World.plus_cell (x2 xq); have ek := World.plus_cell (dk xq)
            have HBq := hid hbq
            clear x0 x1 x2 dk hbq HB t0 t1 t2
            generalize World.plus wr xq = W6 at *
            go_wp2
            refine wp_region_plus (by kernel_rfl) (by kernel_rfl) ?_
            repeat (first | go_big_quiet_skip | (go_big_quiet_want; go_big_quiet_op; first | go_big_quiet_on | go_big_quiet_call (((go_at_call 17; exact Calls.plus_of (HBx.out _ (HBq.out.step (World.plus_below _ _))))))))
            refine wpQuiet_nil ?_
            rintro _ ⟨xq, rfl⟩
            have HB6 := hid (HBq.out.step (World.plus_below W6 xq))
            clear y0 y1 y2 ek
            go_wp2
            go_roundw
            case rel => exact ⟨k + 1, hkN, by go_num, HB6.out⟩
            case measure => simp [intOf]; omega
          · obtain rfl : k = nM := by omega
            have HBF := hid hbel
            clear x0 x1 x2 hbel
            go_wp2
            go_ret
            exact ⟨rfl, HB5.out.trans (HBF.out.mono HB5.out.size)⟩

set_option maxRecDepth 100000 in
theorem SchemaNames_lifted (os : Os) (started : os.Started) (H : Type) (enc : TypeId × Value → H) :
    ReturnsInHanded {} Try.checked os 4 .any (Rows.schemaNamesSpec.pre6 enc Try.prog Try.f4 Rows.schemaNamesRow.domain false) (Rows.schemaNamesSpec.post enc Try.prog Try.f4 false true false false) := by
  refine law_lift started (by kernel_rfl) Try.func4
    (ChangeSpec.witness6 (enc := enc) (C := Try.checked) false ⟨#[], #[.agg #[.slice none 0 0, .slice none 0 0, .int .i64 0]], []⟩ 8 (by kernel_rfl) (by kernel_rfl) (by kernel_rfl) (by kernel_rfl)) rfl rfl (by kernel_rfl) ?_ ?_
  · intro ds hl
    match ds, hl with
    | [_], _ => exact ⟨rfl, rfl, rfl⟩
  · intro W base args ds p hval hA hsz
    rw [Try.params4] at hA hval hsz
    obtain ⟨v0, vs0, d0, ds0, p0, q0, hargs, rfl, rfl, h0, r0⟩ := trodAll_cons hA
    obtain ⟨rfl, rfl, rfl⟩ := trodAll_nil r0
    obtain rfl : args = #[v0] := by cases args; simp_all
    obtain ⟨va0, vb0, x0, y0, z0, rfl, b0, e0, f0, g0, k0⟩ := open_sch (hval 0 24 v0 rfl rfl) h0
    exact SchemaNames_walk _ _ _ _ _ W b0 e0 f0 g0 k0

theorem SchemaNames_over : Rows.schemaNamesRow.holds Try.pinned (OpenSpec.ofChange Rows.schemaNamesSpec) :=
  OpenClaim.holds_of_wide 4 Try.f4 rfl rfl rfl rfl rfl rfl rfl ⟨rfl, rfl, rfl, rfl, rfl⟩ rfl rfl rfl rfl rfl (by kernel_rfl) Try.func4 (by kernel_rfl)
    (of_decide_eq_true (by kernel_rfl)) (by unfold Func.isWrapper; first | (rw [if_pos (by decide +kernel)]; kernel_rfl) | (rw [if_neg (by decide +kernel)]; exact ⟨rfl, rfl⟩))
    (fun os started H enc _ => SchemaNames_lifted os started H enc)

/-- The statement. -/
theorem SchemaNames_proved : Rows.SchemaNamesSaid := SchemaNames_over
end Go.Proofs.Ytdgeinipdphoeaa
