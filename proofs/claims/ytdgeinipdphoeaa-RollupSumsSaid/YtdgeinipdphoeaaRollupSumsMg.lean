/- RollupSums holds: a cell's sum is that of its rows' numbers, its least one the least. No condition. -/
import Derived.Test.YtdgeinipdphoeaaGh
import Derived.Test.YtdgeinipdphoeaaGi
import Derived.Test.YtdgeinipdphoeaaGa
namespace Go.Proofs.Ytdgeinipdphoeaa
set_option linter.unusedVariables false
set_option linter.unusedSimpArgs false
set_option maxRecDepth 100000
open Go.ChangeShapes Go.WideShapes Go.ChangeAt Go.RowKit Go.Joins

theorem sums_out (v : Value) (l : List Int) (t : Int) (w : World) (hv : IntsSl w v l) (hb : t < 0 ∨ 1000 < t ∨ l.length = 0) :
    Calls Try.prog 7 #[v, .int .i64 t] w fun e w' => e = .returned (.bool true) ∧ Below w.heap.size w w' := by
  have HS := hid (fun W => shown12_any W)
  obtain ⟨ao, cap, rfl, _⟩ := SlAt.shape hv
  clear hv
  by_cases h1 : t < 0
  · have g1 : decide (t < 0) = true := by simpa using h1
    clear hb h1
    go_enter Try.func7, Try.ntmps7
    go_wp2_with (go_at_call 25; ((with_reducible refine (HS.out _).mono ?_); rintro e w1 ⟨rfl, hb1⟩))
    go_ret
    exact ⟨rfl, by (repeat' (first | (with_reducible exact Below.refl _ _) | (with_reducible assumption) | (with_reducible refine Below.new ?_ _) | (with_reducible refine Below.alloc ?_ ?_ _) | (with_reducible refine Below.drew ?_) | (with_reducible refine Below.drewN ?_ _) | (with_reducible refine Below.setCell ?_ ?_ _) | (refine Below.step ?_ (by assumption)) | go_size))⟩
  · have g1 : decide (t < 0) = false := by simpa using h1
    by_cases h2 : 1000 < t
    · have g2 : decide (1000 < t) = true := by simpa using h2
      have g3 : decide (t > 1000) = true := by simpa using h2
      clear hb h1 h2
      go_enter Try.func7, Try.ntmps7
      go_wp2_with (go_at_call 25; ((with_reducible refine (HS.out _).mono ?_); rintro e w1 ⟨rfl, hb1⟩))
      go_ret
      exact ⟨rfl, by (repeat' (first | (with_reducible exact Below.refl _ _) | (with_reducible assumption) | (with_reducible refine Below.new ?_ _) | (with_reducible refine Below.alloc ?_ ?_ _) | (with_reducible refine Below.drew ?_) | (with_reducible refine Below.drewN ?_ _) | (with_reducible refine Below.setCell ?_ ?_ _) | (refine Below.step ?_ (by assumption)) | go_size))⟩
    · have g2 : decide (1000 < t) = false := by simpa using h2
      have g3 : decide (t > 1000) = false := by simpa using h2
      have hl : l.length = 0 := by omega
      rw [hl]
      clear hb h1 h2 hl
      go_enter Try.func7, Try.ntmps7
      go_wp2_with (go_at_call 25; ((with_reducible refine (HS.out _).mono ?_); rintro e w1 ⟨rfl, hb1⟩))
      go_ret
      exact ⟨rfl, by (repeat' (first | (with_reducible exact Below.refl _ _) | (with_reducible assumption) | (with_reducible refine Below.new ?_ _) | (with_reducible refine Below.alloc ?_ ?_ _) | (with_reducible refine Below.drew ?_) | (with_reducible refine Below.drewN ?_ _) | (with_reducible refine Below.setCell ?_ ?_ _) | (refine Below.step ?_ (by assumption)) | go_size))⟩
theorem SlAt.new3 (w : World) (o o' : Obj) (cs : Array Value) (T : TypeId) : SlAt (((w.alloc o).alloc o').alloc (.cells cs T)) (.slice (some ⟨w.heap.size + 1 + 1, 0, none⟩) 1 1) 1 cs.size cs.toList := by
  have := SlAt.new ((w.alloc o).alloc o') cs T
  simpa using this

theorem cellsP_one {ps : List CellP} {c : CellD} (h : cellsP ps = [c]) : ∃ p, ps = [p] ∧ p.2 = c := by
  unfold cellsP at h
  match ps, h with
  | [p], h => exact ⟨p, rfl, by simpa using h⟩
set_option maxHeartbeats 4000000 in
theorem sums_in (v : Value) (l : List Int) (t : Int) (w : World) (hv : IntsSl w v l) (hx : ∀ n ∈ l, I64 n) (h0 : 0 ≤ t) (h1 : t ≤ 1000) (hl : 0 < l.length) :
    Calls Try.prog 7 #[v, .int .i64 t] w fun e w' => e = .returned (.bool true) ∧ Below w.heap.size w w' := by
  obtain ⟨ic, hi, hiz0, hiz1, hiz2⟩ := info_parts info_row
  have HS := hid (fun W => shown12_any W)
  obtain ⟨ao, cap, rfl, hc1, hc2, _⟩ := SlAt.shape hv
  have htk := IntsSl.take hv 40
  obtain ⟨N, hN⟩ : ∃ N, min l.length 40 = N := ⟨_, rfl⟩
  have HNL : Hid (N ≤ l.length ∧ N ≤ 40 ∧ 0 < N) := by unfold Hid; omega
  obtain ⟨l', hl'⟩ : ∃ l', l.take 40 = l' := ⟨_, rfl⟩
  have HLN : Hid (l'.length = N) := by unfold Hid; rw [← hl', ← hN]; simp [Nat.min_comm]
  have hx' : ∀ n ∈ l', I64 n := fun n hn => hx n (by rw [← hl'] at hn; exact List.mem_of_mem_take hn)
  rw [hl'] at htk
  rw [hN] at htk
  have HT := hid htk; have HX := hid hx'
  have HNN := hid hN
  unfold maxLen at hc2
  have g1 : decide (t < 0) = false := by simp; omega
  have g2 : decide (1000 < t) = false := by simp; omega
  have g3 : decide (t > 1000) = false := by simp; omega
  have g4 : decide ((l.length : Int) = 0) = false := decide_eq_false (by omega)
  have g5 : ((l.length : Int) == 0) = false := decide_eq_false (by omega)
  have g6 : (l.length == 0) = false := beq_eq_false_iff_ne.2 (by omega)
  have g7 : N ≤ cap := by have := HNL.out; omega
  have im := ite_min
  have hmin : min (l.length : Int) 40 = (N : Int) := by omega
  have hpos := (SlAt.parts htk).2.2.2.2
  obtain ⟨b, off, rfl, hcell⟩ := hpos (by have h1 := HLN.out; have h2 := HNL.out; simp; omega)
  have hl0 : 0 < l'.length := by have h1 := HLN.out; have h2 := HNL.out; omega
  have HCL : Hid (∀ k (hk : k < l'.length), w.cell? ⟨b, off + k, none⟩ = some (.int .i64 l'[k])) := fun k hk => hcell k _ (by rw [List.getElem?_map, List.getElem?_eq_getElem hk]; rfl)
  have c0 : w.cell? ⟨b, off, none⟩ = some (.int .i64 l'[0]) := HCL.out 0 hl0
  have g8 : (0 : Int) < (N : Int) := by have := HNL.out; omega
  have hblt : b < w.heap.size := World.block_lt_of_cell? _ _ c0
  clear hv hl' hx hx' htk hN hpos hcell
  obtain ⟨x0, hx0⟩ : ∃ x0, l'[0] = x0 := ⟨_, rfl⟩
  rw [hx0] at c0
  have HX0 := hid hx0; clear hx0
  go_enter Try.func7, Try.ntmps7
  go_wp2_with (go_at_call 25; ((with_reducible refine (HS.out _).mono ?_); rintro e w1 ⟨rfl, hb1⟩; obtain ⟨hc1, hf1, hk1, hz1⟩ := bcell3 hb1; (try simp only [World.size_alloc, World.size_drew] at hz1); have hbb := hk1 b hblt; have hbb2 : b < w1.heap.size + 1 := (by omega); have hbb3 : b < w1.heap.size + 1 + 1 := (by omega)))
  have HB1 := hid hb1
  obtain ⟨W3, hW3⟩ : ∃ W3, (((w1.alloc (.cells #[.string bA] 9)).alloc (.cells #[.string bN] 9)).alloc (.cells #[.slice (some ⟨w1.heap.size, 0, none⟩) 1 1, .slice (some ⟨w1.heap.size + 1, 0, none⟩) 1 1, .int .i64 7] 24)) = W3 := ⟨_, rfl⟩
  have k0 : W3.heap[w1.heap.size]? = some (.cells #[.string bA] 9 (0, 0)) := by rw [← hW3]; (simp (disch := first | omega | (simp only [World.size_alloc, World.size_setCell, World.size_drew]; done) | (simp only [World.size_alloc, World.size_setCell, World.size_drew]; omega)) only [heap_at, heap_past, heap_set_other, heap_set_same])
  have k1 : W3.heap[w1.heap.size + 1]? = some (.cells #[.string bN] 9 (0, 0)) := by rw [← hW3]; (simp (disch := first | omega | (simp only [World.size_alloc, World.size_setCell, World.size_drew]; done) | (simp only [World.size_alloc, World.size_setCell, World.size_drew]; omega)) only [heap_at, heap_past, heap_set_other, heap_set_same])
  have k2 : W3.heap[w1.heap.size + 1 + 1]? = some (.cells #[.slice (some ⟨w1.heap.size, 0, none⟩) 1 1, .slice (some ⟨w1.heap.size + 1, 0, none⟩) 1 1, .int .i64 7] 24 (0, 0)) := by rw [← hW3]; (simp (disch := first | omega | (simp only [World.size_alloc, World.size_setCell, World.size_drew]; done) | (simp only [World.size_alloc, World.size_setCell, World.size_drew]; omega)) only [heap_at, heap_past, heap_set_other, heap_set_same])
  have hBW : Below w.heap.size w W3 := by rw [← hW3]; (repeat' (first | (with_reducible exact Below.refl _ _) | (with_reducible assumption) | (with_reducible refine Below.new ?_ _) | (with_reducible refine Below.alloc ?_ ?_ _) | (with_reducible refine Below.drew ?_) | (with_reducible refine Below.drewN ?_ _) | (with_reducible refine Below.setCell ?_ ?_ _) | (refine Below.step ?_ (by assumption)) | go_size))
  have hsd : StrsSl W3 (.slice (some ⟨w1.heap.size, 0, none⟩) 1 1) sS.ds := SlAt.blk k0 (by decide) (by decide)
  have hsm : StrsSl W3 (.slice (some ⟨w1.heap.size + 1, 0, none⟩) 1 1) sS.ms := SlAt.blk k1 (by decide) (by decide)
  rw [hW3]
  obtain ⟨B2, hB2⟩ : ∃ B2, w1.heap.size + 1 + 1 = B2 := ⟨_, rfl⟩
  rw [hB2] at k2 ⊢
  generalize w1.heap.size + 1 = B1 at *
  generalize w1.heap.size = B0 at *
  have HK := hid (And.intro k2 (And.intro hBW (And.intro hsd hsm)))
  clear k0 k1 k2 hBW hsd hsm hW3 hB2 hb1 hc1 hf1 hk1 hz1 hbb hbb2 hbb3 c0
  go_loopw [7, 8, 9, 10] (fun a lo hi' i wr => ∃ (k : Nat) (ps : List RowP), k ≤ N ∧ i = .int .i64 (k : Nat) ∧ OwnRs W3 wr a ps ∧ ps.map (fun p => p.2) = (l'.take k).map (sumRow t) ∧ lo = .int .i64 ((l'.take k).foldl min x0) ∧ hi' = .int .i64 ((l'.take k).foldl max x0)) (fun _ _ _ i _ => N - (intOf i).toNat)
  case atStart => exact ⟨0, [], Nat.zero_le _, rfl, OwnRs.nil (Below.refl _ _), by simp, rfl, rfl⟩
  case round =>
    obtain ⟨k, ps, hk, rfl, hq, hqc, rfl, rfl⟩ := hrel
    have HQ := hid hq; have HQC := hid hqc
    have hk0 : (0 : Int) ≤ (k : Int) := Int.natCast_nonneg _
    have hk40 : k ≤ 40 := by have := HNL.out; omega
    have HQL : Hid (ps.length = k) := by
      have h1 := congrArg List.length hqc
      have h2 := HLN.out
      unfold Hid
      simp at h1
      omega
    have hql1 : ps.length ≤ 40 := by have := HQL.out; omega
    obtain ⟨qo, qc, e⟩ := row_shape hq.row
    subst e
    have hbel := hq.below
    have hz3 := hbel.size
    clear hqc hq
    by_cases hlt : k < N
    · have hlen : k < l'.length := by rw [HLN.out]; exact hlt
      have ck := HCL.out k hlen
      have dk := cell_step (cell_step ck HK.out.2.1) hbel
      have HTS : Hid (l'.take (k + 1) = l'.take k ++ [l'[k]]) := List.take_succ_eq_append_getElem hlen
      have hblr : b < wr.heap.size := World.block_lt_of_cell? _ _ dk
      have hblr2 : b < wr.heap.size + 1 := by omega
      have hblr3 : b < wr.heap.size + 1 + 1 := by omega
      have ix := ite_max
      have hbW3 : b < W3.heap.size := by have := HK.out.2.1.size; omega
      have g9 : (k : Int) < (N : Int) := by omega
      clear ck hbel
      generalize l'[k] = x at *
      obtain ⟨lo, hlo⟩ : ∃ lo, (l'.take k).foldl min x0 = lo := ⟨_, rfl⟩
      obtain ⟨mo, hmo⟩ : ∃ mo, (l'.take k).foldl max x0 = mo := ⟨_, rfl⟩
      rw [hlo, hmo]
      have HLO := hid hlo; have HMO := hid hmo
      clear hlo hmo
      go_wp2_with (at_builtin; go_loud (refine wpList_append_sl _ rfl _ _ 38 rfl W3.heap.size 28 ic _ 3 56 Try.underlying38 hi hiz0 hiz1 hiz2 rfl (by decide) (.slice qo ps.length qc) ps.length _ rfl (((HQ.out.row.alloc _).alloc _).alloc _) (.slice (some ⟨wr.heap.size + 1 + 1, 0, none⟩) 1 1) 1 _ rfl (SlAt.new3 wr _ _ #[.int .i64 t, .slice (some ⟨wr.heap.size, 0, none⟩) 1 1, .slice (some ⟨wr.heap.size + 1, 0, none⟩) 1 1] 28) (by simp [Value.oneCell']) (by unfold maxLen; omega) (by omega) (by simp; omega) ?_); intro v3 w3 hown3 hg3 hb3; have dk3 := own_far (((HQ.out.row.alloc _).alloc _).alloc _) hg3 hbW3 (cell_new (cell_new (cell_new dk _) _) _); have H3 := hid (And.intro hown3 hg3); clear hown3 hg3 hb3)
      have hval : ∀ w' : World, Below (wr.alloc (.cells #[.string bX, .bool false] 54)).heap.size (wr.alloc (.cells #[.string bX, .bool false] 54)) w' → w'.ownsRow W3.heap.size 54 2 (.slice (some ⟨wr.heap.size, 0, none⟩) 1 1) 1 [.string bX, .bool false] := fun w' hw' => row_below (World.ownsRow_lit wr #[.string bX, .bool false] 1 hz3 (by decide) rfl) hw'
      have hint : ∀ w' : World, Below ((wr.alloc (.cells #[.string bX, .bool false] 54)).alloc (.cells #[.int .i64 x] 2)).heap.size ((wr.alloc (.cells #[.string bX, .bool false] 54)).alloc (.cells #[.int .i64 x] 2)) w' → w'.ownsRow W3.heap.size 2 1 (.slice (some ⟨wr.heap.size + 1, 0, none⟩) 1 1) 1 [.int .i64 x] := fun w' hw' => row_below (by
        have := World.ownsRow_lit (base := W3.heap.size) (e := 2) (size := 1) (wr.alloc (.cells #[.string bX, .bool false] 54)) #[.int .i64 x] 1 (by simp; omega) (by decide) rfl
        simpa using this) hw'
      have hpush := OwnRs.push (v' := v3) (v1 := .slice (some ⟨wr.heap.size, 0, none⟩) 1 1) (v2 := .slice (some ⟨wr.heap.size + 1, 0, none⟩) 1 1) (r := sumRow t x) (HQ.out.step (((Below.refl _ _).new _).new _ |>.new _)) (.inr (hval _ (((Below.refl _ _).new _).new _))) (.inr (hint _ ((Below.refl _ _).new _))) H3.out.2 H3.out.1
      have HPU := hid hpush
      clear hval hint hpush
      go_roundw
      case rel =>
        refine ⟨k + 1, _, hlt, by go_num, HPU.out, ?_, ?_, ?_⟩
        · rw [HTS.out, List.map_append, List.map_append, HQC.out]; rfl
        · rw [HTS.out, List.foldl_append, HLO.out]; rfl
        · rw [HTS.out, List.foldl_append, HMO.out]; rfl
      case measure => simp [intOf]; omega
    · obtain rfl : k = N := by omega
      obtain ⟨xs, hxs⟩ : ∃ xs, l' = x0 :: xs := by
        have h1 := HX0.out
        match l', hl0, h1 with
        | y :: ys, _, h1 => exact ⟨ys, by rw [← h1]; rfl⟩
      have hall : l'.take k = l' := List.take_of_length_le (by rw [HLN.out]; exact Nat.le_refl _)
      have hq2 : ps.map (fun p => p.2) = l'.map (sumRow t) := by have := HQC.out; rwa [hall] at this
      have hrs : RowsSl wr (.slice qo ps.length qc) (l'.map (sumRow t)) := by rw [← hq2]; exact HQ.out.is
      have td : Texts sS.ds := ⟨by decide, fun s hs => by simp [sS] at hs; subst hs; decide⟩
      have tm : Texts sS.ms := ⟨by decide, fun s hs => by simp [sS] at hs; subst hs; decide⟩
      have hok : RowsOk (l'.map (sumRow t)) := fun r hr => by
        obtain ⟨x, hx, rfl⟩ := List.mem_map.1 hr
        exact ⟨⟨by simp [sumRow], fun v hv => by simp [sumRow] at hv; subst hv; decide⟩, fun y hy => by simp [sumRow] at hy; subst hy; exact HX.out _ hx⟩
      have hlen' : (l'.map (sumRow t)).length ≤ 100000 := by simp; rw [HLN.out]; omega
      have HRO := rollRoll_any sS (l'.map (sumRow t)) _ _ _ wr (HK.out.2.2.1.below hbel) (HK.out.2.2.2.below hbel) td tm hrs hok hlen'
      have hrl : rollL sS (l'.map (sumRow t)) = [⟨t / 7 * 7, [⟨bX, false⟩], (k : Int), [sumI l'], [l'.foldl min x0], [l'.foldl max x0]⟩] := by
        have hln := HLN.out
        rw [hxs] at hln ⊢
        rw [sums_roll, cut7 t h0 h1, hln]
      have hre : rollE sS (l'.map (sumRow t)) = 0 := by
        have hln := HLN.out
        rw [hxs] at hln ⊢
        exact sums_err t x0 xs h0 h1 (by omega)
      rw [hrl, hre] at HRO
      have hk2 := blk_below HK.out.1 hbel
      obtain ⟨s0, s1, s2, _, _, _⟩ := three_at hk2
      have HR2 := hid HRO
      have HBW := hid (HK.out.2.1.trans (hbel.mono HK.out.2.1.size))
      rw [hall]
      have HIN := hid (HT.out.below HBW.out)
      clear HRO hrl hre hok hlen' td tm hrs hq2 hall hxs hk2 hbel
      go_wp2_with fail
      refine HR2.out.mono ?_
      rintro e w2 ⟨hb2, h2⟩
      rcases h2 with ⟨_, v, ps2, rfl, ho2, hc2⟩ | ⟨h2, _⟩
      case inr => exact absurd rfl h2
      obtain ⟨p0, rfl, hcp⟩ := cellsP_one hc2
      clear hc2
      have hc2 := hcp; clear hcp
      obtain ⟨g, vc, e, _, _⟩ := row_some ho2.row (by simp)
      subst e
      have hc1' := ho2.each p0 (by simp)
      rw [hc2] at hc1'
      obtain ⟨gs, cs, e1, _, _⟩ := row_some hc1'.s (by simp)
      obtain ⟨gm, cm, e2, _, _⟩ := row_some hc1'.m (by simp)
      obtain ⟨gx, cx, e3, _, _⟩ := row_some hc1'.x (by simp)
      have hsw := hc1'.s
      rw [e1] at hsw
      have hsm := hc1'.m
      rw [e2] at hsm
      have hsx := hc1'.x
      rw [e3] at hsx
      have t0 : w2.cell? ⟨gs, 0, none⟩ = some (.int .i64 (hiW (sumI l'))) := (row_wide_at (k := 0) hsw (by simp)).1
      have t1 : w2.cell? ⟨gs, 1, none⟩ = some (.int .u64 (loW (sumI l'))) := (row_wide_at (k := 0) hsw (by simp)).2.1
      have t2 : w2.cell? ⟨gm, 0, none⟩ = some (.int .i64 (l'.foldl min x0)) := (row_int_at (k := 0) hsm (by simp)).1
      have t3 : w2.cell? ⟨gx, 0, none⟩ = some (.int .i64 (l'.foldl max x0)) := (row_int_at (k := 0) hsx (by simp)).1
      have cAt : ∀ j (x : Value), (rowP p0)[j]? = some x → w2.cell? ⟨g, j, none⟩ = some x := fun j x hj => by
        have hj6 : j < 6 := (List.getElem?_eq_some_iff.1 hj).1
        rw [ho2.row.cellAt _ (by simp; omega), show j = 0 * 6 + j by omega, flat_at 6 rowP rowP_len [p0] 0 j hj6 (by simp)]
        exact hj
      have c0 := cAt 0 (.int .i64 (t / 7 * 7)) (by show some (Value.int .i64 p0.2.t) = _; rw [hc2])
      have c2 := cAt 2 (.int .i64 (k : Int)) (by show some (Value.int .i64 p0.2.n) = _; rw [hc2])
      have c3 := cAt 3 (.slice (some ⟨gs, 0, none⟩) 1 cs) (by show some p0.1.vs = _; rw [e1]; rfl)
      have c4 := cAt 4 (.slice (some ⟨gm, 0, none⟩) 1 cm) (by show some p0.1.vm = _; rw [e2]; rfl)
      have c5 := cAt 5 (.slice (some ⟨gx, 0, none⟩) 1 cx) (by show some p0.1.vx = _; rw [e3]; rfl)
      have HSU := hid (fun x => sum_any (.slice (some ⟨b, off, none⟩) k cap) l' (World.plus w2 x) (((HIN.out.below hb2).below (World.plus_below w2 x)).ints) (by rw [HLN.out]; omega) (fun j hj => by rw [List.getElem?_eq_getElem hj]; exact HX.out _ (List.getElem_mem hj)))
      have HB2 := hid (HBW.out.trans (hb2.mono HBW.out.size))
      have pc0 := World.plus_cell c0; have pc2 := World.plus_cell c2; have pc3 := World.plus_cell c3; have pc4 := World.plus_cell c4; have pc5 := World.plus_cell c5
      have pt0 := World.plus_cell t0; have pt1 := World.plus_cell t1; have pt2 := World.plus_cell t2; have pt3 := World.plus_cell t3
      generalize hiW (sumI l') = y1 at *
      generalize loW (sumI l') = y2 at *
      generalize l'.foldl min x0 = lo at *
      generalize l'.foldl max x0 = mo at *
      clear hc2 hc1' hsw hsm hsx e1 e2 e3 cAt ho2 hb2 HR2
      go_wp2_with fail
      refine wp_region_plus (by kernel_rfl) (by kernel_rfl) ?_
      repeat (first | go_big_quiet_skip | (go_big_quiet_want; go_big_quiet_op; first | go_big_quiet_on | go_big_quiet_call (((go_at_call 35; exact Calls.plus_of (HSU.out _))))))
      refine wpQuiet_nil ?_
      rintro _ ⟨xq, rfl⟩
      have kB := World.plus_below w2 xq
      have kW := HB2.out.step kB
      clear kB
      go_wp2
      go_ret
      exact ⟨rfl, kW⟩
theorem RollupSums_walk (v : Value) (l : List Int) (t : Int) (ht : I64 t) (w : World) (hv : IntsSl w v l) (hx : ∀ n ∈ l, I64 n) :
    Calls Try.prog 7 #[v, .int .i64 t] w fun e w' => e = .returned (.bool true) ∧ Below w.heap.size w w' := by
  by_cases h : t < 0 ∨ 1000 < t ∨ l.length = 0
  · exact sums_out v l t w hv h
  · exact sums_in v l t w hv hx (by omega) (by omega) (by omega)
set_option maxRecDepth 100000 in
theorem RollupSums_lifted (os : Os) (started : os.Started) (H : Type) (enc : TypeId × Value → H) :
    ReturnsInHanded {} Try.checked os 7 .any (Rows.rollupSumsSpec.pre6 enc Try.prog Try.f7 Rows.rollupSumsRow.domain false) (Rows.rollupSumsSpec.post enc Try.prog Try.f7 false true false false) := by
  refine law_lift started (by kernel_rfl) Try.func7
    (ChangeSpec.witness6 (enc := enc) (C := Try.checked) false ⟨#[], #[.slice none 0 0, .int .i64 0], []⟩ 8 (by kernel_rfl) (by kernel_rfl) (by kernel_rfl) (by kernel_rfl)) rfl rfl (by kernel_rfl) ?_ ?_
  · intro ds hl
    match ds, hl with
    | [_, _], _ => exact ⟨rfl, rfl, rfl⟩
  · intro W base args ds p hval hA hsz
    rw [Try.params7] at hA hval hsz
    obtain ⟨v0, vs0, d0, ds0, p0, q0, hargs, rfl, rfl, h0, r0⟩ := trodAll_cons hA
    obtain ⟨v1, vs1, d1, ds1, p1, q1, rfl, rfl, rfl, h1, r1⟩ := trodAll_cons r0
    obtain ⟨rfl, rfl, rfl⟩ := trodAll_nil r1
    obtain rfl : args = #[v0, v1] := by cases args; simp_all
    obtain ⟨x0, b0, e0⟩ := open_numsT Try.underlying26 (hval 0 26 v0 rfl rfl) h0
    obtain ⟨a1, rfl, b1⟩ := open_i64 Try.underlying2 (hval 1 2 v1 rfl rfl) h1
    exact RollupSums_walk _ _ a1 b1 W b0 e0

theorem RollupSums_over : Rows.rollupSumsRow.holds Try.pinned (OpenSpec.ofChange Rows.rollupSumsSpec) :=
  OpenClaim.holds_of_wide 7 Try.f7 rfl rfl rfl rfl rfl rfl rfl ⟨rfl, rfl, rfl, rfl, rfl⟩ rfl rfl rfl rfl rfl (by kernel_rfl) Try.func7 (by kernel_rfl)
    (of_decide_eq_true (by kernel_rfl)) (by unfold Func.isWrapper; first | (rw [if_pos (by decide +kernel)]; kernel_rfl) | (rw [if_neg (by decide +kernel)]; exact ⟨rfl, rfl⟩))
    (fun os started H enc _ => RollupSums_lifted os started H enc)

/-- The statement. -/
theorem RollupSums_proved : Rows.RollupSumsSaid := RollupSums_over
end Go.Proofs.Ytdgeinipdphoeaa
