/- RollupFull holds: a thousand cells are right, more are not. No condition. -/
import Derived.Test.YtdgeinipdphoeaaGm
import Derived.Test.YtdgeinipdphoeaaGh
import Derived.Test.YtdgeinipdphoeaaGa
namespace Go.Proofs.Ytdgeinipdphoeaa
set_option linter.unusedVariables false
set_option linter.unusedSimpArgs false
set_option maxRecDepth 100000
open Go.ChangeShapes Go.WideShapes Go.ChangeAt Go.RowKit Go.Joins

theorem full_out (n num : Int) (w : World) (h : n < 990 ∨ 1010 < n) :
    Calls Try.prog 10 #[.int .i64 n, .int .i64 num] w fun e w' => e = .returned (.bool true) ∧ Below w.heap.size w w' := by
  by_cases h1 : n < 990
  · have g1 : decide (n < 990) = true := by simpa using h1
    clear h h1
    go_enter Try.func10, Try.ntmps10
    go_wp2_with (go_at_call 25; ((with_reducible refine (shown12_any _).mono ?_); rintro e w1 ⟨rfl, hb1⟩))
    go_ret
    exact ⟨rfl, by (repeat' (first | (with_reducible exact Below.refl _ _) | (with_reducible assumption) | (with_reducible refine Below.new ?_ _) | (with_reducible refine Below.alloc ?_ ?_ _) | (with_reducible refine Below.drew ?_) | (with_reducible refine Below.drewN ?_ _) | (with_reducible refine Below.setCell ?_ ?_ _) | (refine Below.step ?_ (by assumption)) | go_size))⟩
  · have g1 : decide (n < 990) = false := by simpa using h1
    have g2 : decide (1010 < n) = true := by simp; omega
    have g3 : decide (n > 1010) = true := by simp; omega
    clear h h1
    go_enter Try.func10, Try.ntmps10
    go_wp2_with (go_at_call 25; ((with_reducible refine (shown12_any _).mono ?_); rintro e w1 ⟨rfl, hb1⟩))
    go_ret
    exact ⟨rfl, by (repeat' (first | (with_reducible exact Below.refl _ _) | (with_reducible assumption) | (with_reducible refine Below.new ?_ _) | (with_reducible refine Below.alloc ?_ ?_ _) | (with_reducible refine Below.drew ?_) | (with_reducible refine Below.drewN ?_ _) | (with_reducible refine Below.setCell ?_ ?_ _) | (refine Below.step ?_ (by assumption)) | go_size))⟩
theorem SlAt.new3f (w : World) (o o' : Obj) (cs : Array Value) (T : TypeId) : SlAt (((w.alloc o).alloc o').alloc (.cells cs T)) (.slice (some ⟨w.heap.size + 1 + 1, 0, none⟩) 1 1) 1 cs.size cs.toList := by
  have := SlAt.new ((w.alloc o).alloc o') cs T
  simpa using this
theorem fRows_succ (num : Int) (k : Nat) : fRows num (k + 1) = fRows num k ++ [fRow num (k : Nat)] := by
  unfold fRows
  rw [List.range_succ, List.map_append]
  rfl
set_option maxHeartbeats 4000000 in
theorem full_in (n : Nat) (num : Int) (hn : I64 num) (w : World) (h0 : 990 ≤ n) (h1 : n ≤ 1010) :
    Calls Try.prog 10 #[.int .i64 (n : Int), .int .i64 num] w fun e w' => e = .returned (.bool true) ∧ Below w.heap.size w w' := by
  obtain ⟨ic, hi, hiz0, hiz1, hiz2⟩ := info_parts info_row
  have HS := hid (fun W => shown12_any W)
  have g1 : decide ((n : Int) < 990) = false := by simp; omega
  have g2 : decide ((1010 : Int) < (n : Int)) = false := by simp; omega
  have g3 : decide ((n : Int) > 1010) = false := by simp; omega
  have k1 : decide (n < 990) = false := by simp; omega
  have k2 : decide (1010 < n) = false := by simp; omega
  go_enter Try.func10, Try.ntmps10
  go_wp2_with (go_at_call 25; ((with_reducible refine (HS.out _).mono ?_); rintro e w1 ⟨rfl, hb1⟩; obtain ⟨hc1, hf1, hk1, hz1⟩ := bcell3 hb1; (try simp only [World.size_alloc, World.size_drew] at hz1)))
  have HB1 := hid hb1
  obtain ⟨W3, hW3⟩ : ∃ W3, (((w1.alloc (.cells #[.string bA] 9)).alloc (.cells #[.string bN] 9)).alloc (.cells #[.slice (some ⟨w1.heap.size, 0, none⟩) 1 1, .slice (some ⟨w1.heap.size + 1, 0, none⟩) 1 1, .int .i64 1] 24)) = W3 := ⟨_, rfl⟩
  have k0 : W3.heap[w1.heap.size]? = some (.cells #[.string bA] 9 (0, 0)) := by rw [← hW3]; (simp (disch := first | omega | (simp only [World.size_alloc, World.size_setCell, World.size_drew]; done) | (simp only [World.size_alloc, World.size_setCell, World.size_drew]; omega)) only [heap_at, heap_past, heap_set_other, heap_set_same])
  have k1 : W3.heap[w1.heap.size + 1]? = some (.cells #[.string bN] 9 (0, 0)) := by rw [← hW3]; (simp (disch := first | omega | (simp only [World.size_alloc, World.size_setCell, World.size_drew]; done) | (simp only [World.size_alloc, World.size_setCell, World.size_drew]; omega)) only [heap_at, heap_past, heap_set_other, heap_set_same])
  have k2 : W3.heap[w1.heap.size + 1 + 1]? = some (.cells #[.slice (some ⟨w1.heap.size, 0, none⟩) 1 1, .slice (some ⟨w1.heap.size + 1, 0, none⟩) 1 1, .int .i64 1] 24 (0, 0)) := by rw [← hW3]; (simp (disch := first | omega | (simp only [World.size_alloc, World.size_setCell, World.size_drew]; done) | (simp only [World.size_alloc, World.size_setCell, World.size_drew]; omega)) only [heap_at, heap_past, heap_set_other, heap_set_same])
  have hBW : Below w.heap.size w W3 := by rw [← hW3]; (repeat' (first | (with_reducible exact Below.refl _ _) | (with_reducible assumption) | (with_reducible refine Below.new ?_ _) | (with_reducible refine Below.alloc ?_ ?_ _) | (with_reducible refine Below.drew ?_) | (with_reducible refine Below.drewN ?_ _) | (with_reducible refine Below.setCell ?_ ?_ _) | (refine Below.step ?_ (by assumption)) | go_size))
  have hsd : StrsSl W3 (.slice (some ⟨w1.heap.size, 0, none⟩) 1 1) fS.ds := SlAt.blk k0 (by decide) (by decide)
  have hsm : StrsSl W3 (.slice (some ⟨w1.heap.size + 1, 0, none⟩) 1 1) fS.ms := SlAt.blk k1 (by decide) (by decide)
  rw [hW3]
  obtain ⟨B2, hB2⟩ : ∃ B2, w1.heap.size + 1 + 1 = B2 := ⟨_, rfl⟩
  rw [hB2] at k2 ⊢
  generalize w1.heap.size + 1 = B1 at *
  generalize w1.heap.size = B0 at *
  have HK := hid (And.intro k2 (And.intro hBW (And.intro hsd hsm)))
  clear k0 k1 k2 hBW hsd hsm hW3 hB2 hb1 hc1 hf1 hk1 hz1
  go_loopw [7, 8] (fun a i wr => ∃ (k : Nat) (ps : List RowP), k ≤ n ∧ i = .int .i64 (k : Nat) ∧ OwnRs W3 wr a ps ∧ ps.map (fun p => p.2) = fRows num k) (fun _ i _ => n - (intOf i).toNat)
  case atStart => exact ⟨0, [], Nat.zero_le _, rfl, OwnRs.nil (Below.refl _ _), rfl⟩
  case round =>
    obtain ⟨k, ps, hk, rfl, hq, hqc⟩ := hrel
    have HQ := hid hq; have HQC := hid hqc
    have hk0 : (0 : Int) ≤ (k : Int) := Int.natCast_nonneg _
    have hk40 : (k : Int) ≤ 1010 := by omega
    have HQL : Hid (ps.length = k) := by
      have h1 := congrArg List.length hqc
      unfold Hid
      simpa [fRows] using h1
    have hql1 : ps.length ≤ 1010 := by have := HQL.out; omega
    obtain ⟨qo, qc, e⟩ := row_shape hq.row
    subst e
    have hbel := hq.below
    have hz3 := hbel.size
    clear hqc hq
    by_cases hlt : k < n
    · have g9 : (k : Int) < (n : Int) := by omega
      clear hbel
      go_wp2_with (at_builtin; go_loud (refine wpList_append_sl _ rfl _ _ 38 rfl W3.heap.size 28 ic _ 3 56 Try.underlying38 hi hiz0 hiz1 hiz2 rfl (by decide) (.slice qo ps.length qc) ps.length _ rfl (((HQ.out.row.alloc _).alloc _).alloc _) (.slice (some ⟨wr.heap.size + 1 + 1, 0, none⟩) 1 1) 1 _ rfl (SlAt.new3f wr _ _ #[.int .i64 (k : Int), .slice (some ⟨wr.heap.size, 0, none⟩) 1 1, .slice (some ⟨wr.heap.size + 1, 0, none⟩) 1 1] 28) (by simp [Value.oneCell']) (by unfold maxLen; omega) (by omega) (by simp; omega) ?_); intro v3 w3 hown3 hg3 hb3; have H3 := hid (And.intro hown3 hg3); clear hown3 hg3 hb3)
      have hval : ∀ w' : World, Below (wr.alloc (.cells #[.string { data := #[] }, .bool true] 54)).heap.size (wr.alloc (.cells #[.string { data := #[] }, .bool true] 54)) w' → w'.ownsRow W3.heap.size 54 2 (.slice (some ⟨wr.heap.size, 0, none⟩) 1 1) 1 [.string { data := #[] }, .bool true] := fun w' hw' => row_below (World.ownsRow_lit wr #[.string { data := #[] }, .bool true] 1 hz3 (by decide) rfl) hw'
      have hint : ∀ w' : World, Below ((wr.alloc (.cells #[.string { data := #[] }, .bool true] 54)).alloc (.cells #[.int .i64 num] 2)).heap.size ((wr.alloc (.cells #[.string { data := #[] }, .bool true] 54)).alloc (.cells #[.int .i64 num] 2)) w' → w'.ownsRow W3.heap.size 2 1 (.slice (some ⟨wr.heap.size + 1, 0, none⟩) 1 1) 1 [.int .i64 num] := fun w' hw' => row_below (by
        have := World.ownsRow_lit (base := W3.heap.size) (e := 2) (size := 1) (wr.alloc (.cells #[.string { data := #[] }, .bool true] 54)) #[.int .i64 num] 1 (by simp; omega) (by decide) rfl
        simpa using this) hw'
      have hpush := OwnRs.push (v' := v3) (v1 := .slice (some ⟨wr.heap.size, 0, none⟩) 1 1) (v2 := .slice (some ⟨wr.heap.size + 1, 0, none⟩) 1 1) (r := fRow num (k : Nat)) (HQ.out.step (((Below.refl _ _).new _).new _ |>.new _)) (.inr (hval _ (((Below.refl _ _).new _).new _))) (.inr (hint _ ((Below.refl _ _).new _))) H3.out.2 H3.out.1
      have HPU := hid hpush
      clear hval hint hpush
      go_roundw
      case rel =>
        refine ⟨k + 1, _, hlt, by go_num, HPU.out, ?_⟩
        rw [fRows_succ, List.map_append, HQC.out]; rfl
      case measure => simp [intOf]; omega
    · obtain rfl : k = n := by omega
      have hrs : RowsSl wr (.slice qo ps.length qc) (fRows num k) := by rw [← HQC.out]; exact HQ.out.is
      have td : Texts fS.ds := ⟨by decide, fun s hs => by simp [fS] at hs; subst hs; decide⟩
      have tm : Texts fS.ms := ⟨by decide, fun s hs => by simp [fS] at hs; subst hs; decide⟩
      have hrl : (fRows num k).length = k := by simp [fRows]
      have HRO := roll_out fS (fRows num k) _ _ _ wr (HK.out.2.2.1.below hbel) (HK.out.2.2.2.below hbel) td tm hrs (fRows_ok hn k) (by omega)
      have hk2 := blk_below HK.out.1 hbel
      obtain ⟨s0, s1, s2, _, _, _⟩ := three_at hk2
      have HBW := hid (HK.out.2.1.trans (hbel.mono HK.out.2.1.size))
      by_cases hk1 : k ≤ 1000
      · have hE : rollE fS (fRows num k) = 0 := by rw [fRows_err num (by omega), if_pos hk1]
        rw [hE, outL_ok hE] at HRO
        have HR2 := hid HRO
        have hln : (rollL fS (fRows num k)).length = k := by rw [fRows_roll num (by omega)]; simp
        have hg := rollL_good (rollE_ok hE).2.1 (fRows_ok hn k)
        have hrt := rightB_roll hE (fRows_ok hn k)
        have hae := fAdd_err hn hk1
        have HSS := hid (And.intro HK.out.2.2.1 HK.out.2.2.2)
        have g1 : decide ((1000 : Int) < (k : Int)) = false := by simp; omega
        have g2 : decide ((k : Int) > 1000) = false := by simp; omega
        have HBL := hid hbel; have HK2 := hid hk2
        have hq5 : (⟨5000, [nullV], [num]⟩ : RowD) = fRow num 5000 := rfl
        clear HRO hE hrl hrs hk2 hbel
        go_wp2_with fail
        refine HR2.out.mono ?_
        rintro e w2 ⟨va, rfl, hca, hb2⟩
        obtain ⟨vo, vc, rfl, _⟩ := hca.shape
        have hp2 := blk_below HK2.out hb2
        clear s0 s1 s2
        obtain ⟨s0, s1, s2, _, _, _⟩ := three_at hp2
        have zp := blk_lt hp2
        have hBL2 := HBL.out.step hb2
        have hadd : ∀ W, Below w2.heap.size w2 W → ∀ vl vn, ValsSl W vl [nullV] → IntsSl W vn [num] → _ := fun W h vl vn h1 h2 => add_out fS (rollL fS (fRows num k)) (fRow num 5000) _ _ _ vl vn W (HSS.out.1.below (hBL2.step h)) (HSS.out.2.below (hBL2.step h)) td tm (hca.below h) (fun c hc => (hg c hc).tame) h1 ⟨by simp [fRow], fun v hv => by simp [fRow] at hv; subst hv; decide⟩ h2 (fun x hx => by simp [fRow] at hx; rw [hx]; exact hn)
        have HRT := hid (fun W (h : Below w2.heap.size w2 W) => rollRight_any fS (rollL fS (fRows num k)) _ _ _ W (HSS.out.1.below (hBL2.step h)) (HSS.out.2.below (hBL2.step h)) td tm (hca.below h) (fun c hc => (hg c hc).tame))
        simp only [hrt] at HRT
        rw [hln] at HRT
        have HRT2 : Hid (∀ W, Below w2.heap.size w2 W → Calls Try.prog 36 #[.agg #[.slice (some ⟨B0, 0, none⟩) 1 1, .slice (some ⟨B1, 0, none⟩) 1 1, .int .i64 1], .slice vo k vc] W fun e w' => e = .returned (.bool true) ∧ Below W.heap.size W w') := fun W h => HRT.out W h
        have HADD := hid hadd
        have HB2 := hid (HBW.out.step hb2)
        have HV : Hid (ValsSl (w2.alloc (.cells #[.string { data := #[] }, .bool true] 54)) (.slice (some ⟨w2.heap.size, 0, none⟩) 1 1) [nullV]) := SlAt.blk (heap_at rfl) (by decide) (by decide) rfl
        have HI : Hid (IntsSl ((w2.alloc (.cells #[.string { data := #[] }, .bool true] 54)).alloc (.cells #[.int .i64 num] 2)) (.slice (some ⟨w2.heap.size + 1, 0, none⟩) 1 1) [num]) := SlAt.blk (heap_at (by simp)) (by rfl) (by show (1 : Nat) ≤ 1000; omega) rfl
        have HAE := hid hae
        have hlenl := hln
        rw [hln] at HADD ⊢
        clear hadd hca hb2 hBL2 hg hrt hae hln HR2
        by_cases hk3 : k < 1000
        · have hE2 : addE fS (rollL fS (fRows num k)) (fRow num 5000) = 0 := by rw [HAE.out, if_pos hk3]
          have HAD : Hid (∀ W, Below w2.heap.size w2 W → ∀ vl vn, ValsSl W vl [nullV] → IntsSl W vn [num] → Calls Try.prog 38 #[.agg #[.slice (some ⟨B0, 0, none⟩) 1 1, .slice (some ⟨B1, 0, none⟩) 1 1, .int .i64 1], .slice vo k vc, .agg #[.int .i64 5000, vl, vn]] W (OutPost W (outA fS (rollL fS (fRows num k)) (fRow num 5000)) 0)) := fun W h vl vn a b => by
            have := HADD.out W h vl vn a b
            rw [hE2] at this
            exact this
          have q1 : decide ((k : Int) < 1000) = true := by simp; omega
          have q2 : decide (k < 1000) = true := by simpa using hk3
          clear HADD HAE hE2 hk3
          generalize outA fS (rollL fS (fRows num k)) (fRow num 5000) = LA at *
          go_wp2_with (first
            | (go_at_call 38; go_loud ((with_reducible refine (HAD.out _ (((Below.refl _ _).new _).new _) _ _ (HV.out.below ((Below.refl _ _).new _)) HI.out).mono ?_); rintro e w3 ⟨vb, rfl, hcb, hb3⟩; obtain ⟨bo, bc, rfl, _⟩ := hcb.shape; have hb3' : Below w2.heap.size w2 w3 := (((Below.refl _ _).new _).new _).trans (hb3.mono (by simp; omega)); (obtain ⟨t0, t1, t2, _, _, _⟩ := three_at (blk_below hp2 hb3'))))
            | (go_at_call 36; go_loud ((with_reducible refine (HRT2.out _ (by (repeat' (first | (with_reducible exact Below.refl _ _) | (with_reducible assumption) | (with_reducible refine Below.new ?_ _) | (with_reducible refine Below.alloc ?_ ?_ _) | (with_reducible refine Below.drew ?_) | (with_reducible refine Below.drewN ?_ _) | (with_reducible refine Below.setCell ?_ ?_ _) | (refine Below.step ?_ (by assumption)) | go_size)))).mono ?_); rintro e w4 ⟨rfl, hb4⟩)))
          go_ret
          exact ⟨rfl, by have := HB2.out; (repeat' (first | (with_reducible exact Below.refl _ _) | (with_reducible assumption) | (with_reducible refine Below.new ?_ _) | (with_reducible refine Below.alloc ?_ ?_ _) | (with_reducible refine Below.drew ?_) | (with_reducible refine Below.drewN ?_ _) | (with_reducible refine Below.setCell ?_ ?_ _) | (refine Below.step ?_ (by assumption)) | go_size))⟩
        · have hE2 : addE fS (rollL fS (fRows num k)) (fRow num 5000) = 121 := by rw [HAE.out, if_neg hk3]
          have hO2 : outA fS (rollL fS (fRows num k)) (fRow num 5000) = [] := by unfold outA; rw [hE2]; rfl
          have HAD : Hid (∀ W, Below w2.heap.size w2 W → ∀ vl vn, ValsSl W vl [nullV] → IntsSl W vn [num] → Calls Try.prog 38 #[.agg #[.slice (some ⟨B0, 0, none⟩) 1 1, .slice (some ⟨B1, 0, none⟩) 1 1, .int .i64 1], .slice vo k vc, .agg #[.int .i64 5000, vl, vn]] W (OutPost W [] 121)) := fun W h vl vn a b => by
            have := HADD.out W h vl vn a b
            rw [hE2, hO2] at this
            exact this
          have q1 : decide ((k : Int) < 1000) = false := by simp; omega
          have q2 : decide (k < 1000) = false := by simpa using hk3
          clear HADD HAE hE2 hO2 hk3
          go_wp2_with (first
            | (go_at_call 38; go_loud ((with_reducible refine (HAD.out _ (((Below.refl _ _).new _).new _) _ _ (HV.out.below ((Below.refl _ _).new _)) HI.out).mono ?_); rintro e w3 ⟨vb, rfl, hcb, hb3⟩; obtain ⟨bo, bc, rfl, _⟩ := hcb.shape; have hb3' : Below w2.heap.size w2 w3 := (((Below.refl _ _).new _).new _).trans (hb3.mono (by simp; omega)); (obtain ⟨t0, t1, t2, _, _, _⟩ := three_at (blk_below hp2 hb3'))))
            | (go_at_call 36; go_loud ((with_reducible refine (HRT2.out _ (by (repeat' (first | (with_reducible exact Below.refl _ _) | (with_reducible assumption) | (with_reducible refine Below.new ?_ _) | (with_reducible refine Below.alloc ?_ ?_ _) | (with_reducible refine Below.drew ?_) | (with_reducible refine Below.drewN ?_ _) | (with_reducible refine Below.setCell ?_ ?_ _) | (refine Below.step ?_ (by assumption)) | go_size)))).mono ?_); rintro e w4 ⟨rfl, hb4⟩)))
          go_ret
          exact ⟨rfl, by have := HB2.out; (repeat' (first | (with_reducible exact Below.refl _ _) | (with_reducible assumption) | (with_reducible refine Below.new ?_ _) | (with_reducible refine Below.alloc ?_ ?_ _) | (with_reducible refine Below.drew ?_) | (with_reducible refine Below.drewN ?_ _) | (with_reducible refine Below.setCell ?_ ?_ _) | (refine Below.step ?_ (by assumption)) | go_size))⟩
      · have hE : rollE fS (fRows num k) = 121 := by rw [fRows_err num (by omega), if_neg hk1]
        have hO : outL fS (fRows num k) = [] := by unfold outL; rw [hE]; rfl
        rw [hE, hO] at HRO
        have HR2 : Hid (Calls Try.prog 27 #[.agg #[.slice (some ⟨B0, 0, none⟩) 1 1, .slice (some ⟨B1, 0, none⟩) 1 1, .int .i64 1], .slice qo ps.length qc] wr (OutPost wr [] 121)) := HRO
        have g1 : decide ((1000 : Int) < (k : Int)) = true := by simp; omega
        have g2 : decide ((k : Int) > 1000) = true := by simp; omega
        clear HRO hE hO hrl hrs hk2 hbel
        go_wp2_with (go_at_call 27; go_loud ((with_reducible refine HR2.out.mono ?_); rintro e w2 ⟨va, rfl, hca, hb2⟩; obtain ⟨vo, vc, rfl, _⟩ := hca.shape))
        go_ret
        exact ⟨rfl, by have := HBW.out; (repeat' (first | (with_reducible exact Below.refl _ _) | (with_reducible assumption) | (with_reducible refine Below.new ?_ _) | (with_reducible refine Below.alloc ?_ ?_ _) | (with_reducible refine Below.drew ?_) | (with_reducible refine Below.drewN ?_ _) | (with_reducible refine Below.setCell ?_ ?_ _) | (refine Below.step ?_ (by assumption)) | go_size))⟩
theorem RollupFull_walk (n : Int) (hn' : I64 n) (num : Int) (hn : I64 num) (w : World) :
    Calls Try.prog 10 #[.int .i64 n, .int .i64 num] w fun e w' => e = .returned (.bool true) ∧ Below w.heap.size w w' := by
  by_cases h : n < 990 ∨ 1010 < n
  · exact full_out n num w h
  · obtain ⟨k, rfl⟩ : ∃ k : Nat, n = (k : Int) := ⟨n.toNat, by omega⟩
    exact full_in k num hn w (by omega) (by omega)
set_option maxRecDepth 100000 in
theorem RollupFull_lifted (os : Os) (started : os.Started) (H : Type) (enc : TypeId × Value → H) :
    ReturnsInHanded {} Try.checked os 10 .any (Rows.rollupFullSpec.pre6 enc Try.prog Try.f10 Rows.rollupFullRow.domain false) (Rows.rollupFullSpec.post enc Try.prog Try.f10 false true false false) := by
  refine law_lift started (by kernel_rfl) Try.func10
    (ChangeSpec.witness6 (enc := enc) (C := Try.checked) false ⟨#[], #[.int .i64 0, .int .i64 0], []⟩ 8 (by kernel_rfl) (by kernel_rfl) (by kernel_rfl) (by kernel_rfl)) rfl rfl (by kernel_rfl) ?_ ?_
  · intro ds hl
    match ds, hl with
    | [_, _], _ => exact ⟨rfl, rfl, rfl⟩
  · intro W base args ds p hval hA hsz
    rw [Try.params10] at hA hval hsz
    obtain ⟨v0, vs0, d0, ds0, p0, q0, hargs, rfl, rfl, h0, r0⟩ := trodAll_cons hA
    obtain ⟨v1, vs1, d1, ds1, p1, q1, rfl, rfl, rfl, h1, r1⟩ := trodAll_cons r0
    obtain ⟨rfl, rfl, rfl⟩ := trodAll_nil r1
    obtain rfl : args = #[v0, v1] := by cases args; simp_all
    obtain ⟨a0, rfl, b0⟩ := open_i64 Try.underlying3 (hval 0 3 v0 rfl rfl) h0
    obtain ⟨a1, rfl, b1⟩ := open_i64 Try.underlying2 (hval 1 2 v1 rfl rfl) h1
    exact RollupFull_walk a0 b0 a1 b1 W

theorem RollupFull_over : Rows.rollupFullRow.holds Try.pinned (OpenSpec.ofChange Rows.rollupFullSpec) :=
  OpenClaim.holds_of_wide 10 Try.f10 rfl rfl rfl rfl rfl rfl rfl ⟨rfl, rfl, rfl, rfl, rfl⟩ rfl rfl rfl rfl rfl (by kernel_rfl) Try.func10 (by kernel_rfl)
    (of_decide_eq_true (by kernel_rfl)) (by unfold Func.isWrapper; first | (rw [if_pos (by decide +kernel)]; kernel_rfl) | (rw [if_neg (by decide +kernel)]; exact ⟨rfl, rfl⟩))
    (fun os started H enc _ => RollupFull_lifted os started H enc)

/-- The statement. -/
theorem RollupFull_proved : Rows.RollupFullSaid := RollupFull_over
end Go.Proofs.Ytdgeinipdphoeaa
