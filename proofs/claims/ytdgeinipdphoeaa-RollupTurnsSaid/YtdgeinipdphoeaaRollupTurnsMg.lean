/- RollupTurns holds: in whatever order rows come, the cells are the same, and right. No condition. -/
import Derived.Test.YtdgeinipdphoeaaGl
import Derived.Test.YtdgeinipdphoeaaGm
import Derived.Test.YtdgeinipdphoeaaGa
namespace Go.Proofs.Ytdgeinipdphoeaa
set_option linter.unusedVariables false
set_option linter.unusedSimpArgs false
set_option maxRecDepth 100000
open Go.ChangeShapes Go.WideShapes Go.ChangeAt Go.RowKit Go.Joins

set_option maxHeartbeats 4000000 in
theorem RollupTurns_walk (vd vm : Value) (ds ms : List ByteArray) (g : Int) (v : Value) (rows : List RowD) (w : World)
    (hd : StrsSl w vd ds) (hm : StrsSl w vm ms) (td : ∀ s ∈ ds, s.size ≤ 9223372036854775807) (tm : ∀ s ∈ ms, s.size ≤ 9223372036854775807) (hg : I64 g) (hv : RowsSl w v rows) (hf : ∀ r ∈ rows, RowFine r) :
    Calls Try.prog 8 #[.agg #[vd, vm, .int .i64 g], v] w fun e w' => e = .returned (.bool true) ∧ Below w.heap.size w w' := by
  obtain ⟨ic, hi, hiz0, hiz1, hiz2⟩ := info_parts info_row
  have HCUT := hid (fun W (h : Below w.heap.size w W) => cut_any vd vm ds ms g W (hd.below h) (hm.below h) td tm)
  have HROWS : Hid (∀ W, Below w.heap.size w W → Calls Try.prog 26 #[v, .int .i64 50] W (RowsPost2 w W (rowsCut 50 rows))) := fun W h => lawRows2_any rows 50 v w W h hv (fun r hr => (hf r hr).1) (by decide)
  have HROK := hid (rows_fine (n := 50) hf)
  have HRLN := hid (rows_few 50 rows)
  have HTD := hid (txt_fine ds); have HTM := hid (txt_fine ms)
  obtain ⟨ad, cd, rfl, _, _, _⟩ := SlAt.shape hd
  obtain ⟨am, cm, rfl, _, _, _⟩ := SlAt.shape hm
  obtain ⟨av, cv, rfl, _, _, _⟩ := hv.shape
  clear hd hm td tm hv hf
  generalize ds.length = nd at *
  generalize ms.length = nm at *
  generalize rows.length = nr at *
  obtain ⟨D, hD⟩ : ∃ D, txtCut 30 10 ds = D := ⟨_, rfl⟩
  obtain ⟨M, hM⟩ : ∃ M, txtCut 30 10 ms = M := ⟨_, rfl⟩
  obtain ⟨R, hR⟩ : ∃ R, rowsCut 50 rows = R := ⟨_, rfl⟩
  rw [hD, hM] at HCUT; rw [hD] at HTD; rw [hM] at HTM; rw [hR] at HROWS HROK HRLN
  clear hD hM hR
  go_enter Try.func8, Try.ntmps8
  go_wp2_with (go_at_call 25; ((with_reducible refine (shown12_any _).mono ?_); rintro e w1 ⟨rfl, hb1⟩; have r0 : w1.heap[w.heap.size]? = some (.cells #[.slice ad nd cd, .slice am nm cm, .int .i64 g] 24 (0, 0)) := blk_below (by ((simp (disch := first | omega | (simp only [World.size_alloc, World.size_setCell, World.size_drew]; done) | (simp only [World.size_alloc, World.size_setCell, World.size_drew]; omega)) only [heap_at, heap_past, heap_set_other, heap_set_same]))) hb1; have hB1 : Below w.heap.size w w1 := (by (repeat' (first | (with_reducible exact Below.refl _ _) | (with_reducible assumption) | (with_reducible refine Below.new ?_ _) | (with_reducible refine Below.alloc ?_ ?_ _) | (with_reducible refine Below.drew ?_) | (with_reducible refine Below.drewN ?_ _) | (with_reducible refine Below.setCell ?_ ?_ _) | (refine Below.step ?_ (by assumption)) | go_size))); clear hb1; (obtain ⟨c0, c1, c2, f0, f1, f2⟩ := three_at r0)))
  refine (HCUT.out _ hB1).mono ?_
  rintro e w2 ⟨v1, v2, rfl, ho1, ho2, hb2⟩
  obtain ⟨a1, k1, rfl, _, _, _⟩ := SlAt.shape (SlAt.own ho1)
  obtain ⟨a2, k2, rfl, _, _, _⟩ := SlAt.shape (SlAt.own ho2)
  have HP := hid (pre_sch (g := g) hB1 r0 (Nat.le_refl _) hb2 ho1 ho2)
  have p0 := blk_below r0 hb2
  clear c0 c1 c2 f0 f1 f2 r0 ho1 ho2 hb2 hB1
  obtain ⟨c0, c1, c2, f0, f1, f2⟩ := three_at p0
  clear p0
  go_wp2_with fail
  clear c0 c1 c2 f0 f1 f2
  generalize hW2 : ((w2.setCell ⟨w.heap.size, 0, none⟩ (.slice a1 D.length k1)).setCell ⟨w.heap.size, 1, none⟩ (.slice a2 M.length k2)).setCell ⟨w.heap.size, 2, none⟩ (.int .i64 g) = W2 at *
  obtain ⟨hBW, q0, o1, o2⟩ := HP.out
  clear HP hW2
  refine (HROWS.out _ hBW).mono ?_
  rintro e w3 ⟨v3, ps, rfl, hrs, hps, hb3⟩
  have p0 := blk_below q0 hb3
  have s1 := (StrsSl.own o1).below hb3; have s2 := (StrsSl.own o2).below hb3; have s3 := hrs.is
  rw [hps] at s3
  have hB3 := hBW.step hb3
  have HB3 := hid hB3
  have hs1 := s1; have hs2 := s2; have hs3 := s3
  obtain ⟨vo, vc, rfl, hv1, hv2, _⟩ := s3.shape
  have HRW := hid s3
  have HS := hid (And.intro s1 s2)
  have zA := blk_lt p0
  have HP0 := hid p0
  obtain ⟨N, hN⟩ : ∃ N, R.length = N := ⟨_, rfl⟩
  have HNN := hid hN
  have hN50 : N ≤ 50 := by have := HRLN.out; omega
  rw [hN]
  clear q0 o1 o2 s1 s2 s3 hs1 hs2 hs3 hps hrs hb3 hBW hB3 HROWS HCUT hN p0
  go_wp2_with fail
  go_loopw [6, 7] (fun a i wr => ∃ (k : Nat) (qs : List RowP), k ≤ N ∧ i = .int .i64 ((N : Int) - 1 - (k : Nat)) ∧ OwnRs w3 wr a qs ∧ qs.map (fun p => p.2) = R.reverse.take k) (fun _ i _ => (intOf i + 1).toNat)
  case atStart => exact ⟨0, [], Nat.zero_le _, by simp, OwnRs.nil (Below.refl _ _), by simp⟩
  case round =>
    obtain ⟨k, qs, hk, rfl, hq, hqc⟩ := hrel
    have HQ := hid hq; have HQC := hid hqc
    have HQL : Hid (qs.length = k) := by
      have h1 := congrArg List.length hqc
      have h2 := HNN.out
      unfold Hid
      simp at h1
      omega
    have hql1 : qs.length ≤ 50 := by have := HQL.out; omega
    obtain ⟨qo, qc, e⟩ := row_shape hq.row
    subst e
    have hbel := hq.below
    have hz3 := hbel.size
    clear hqc hq
    by_cases hlt : k < N
    · obtain ⟨j, hj⟩ : ∃ j, j + k + 1 = N := ⟨N - 1 - k, by omega⟩
      have hji : (N : Int) - 1 - (k : Nat) = (j : Int) := by omega
      rw [hji]
      have hjl : j < R.length := by rw [HNN.out]; omega
      have hj0 : (0 : Int) ≤ (j : Int) := Int.natCast_nonneg _
      have hjN : (j : Int) < (N : Int) := by omega
      have hj50 : (j : Int) ≤ 50 := by omega
      have hrw := HRW.out
      obtain ⟨b, off, vl, vn, rfl, g1, g2, c0, c1, c2⟩ := hrw.at hjl
      have HTS : Hid (R.reverse.take (k + 1) = R.reverse.take k ++ [R[j]]) := by
        have hkr : k < R.reverse.length := by simp; have := HNN.out; omega
        unfold Hid
        rw [List.take_succ_eq_append_getElem hkr, List.getElem_reverse]
        congr 3
        have := HNN.out
        omega
      replace c0 := cell_step c0 hbel; replace c1 := cell_step c1 hbel; replace c2 := cell_step c2 hbel
      have HG := hid (And.intro g1 g2)
      obtain ⟨xa, xc, rfl, _⟩ := SlAt.shape g1
      obtain ⟨ya, yc, rfl, _⟩ := SlAt.shape g2
      have hn1 : (0 : Int) ≤ (N : Int) - 1 - (k : Int) := by omega
      clear g1 g2 hrw hji
      generalize R[j] = r at *
      go_wp2_with (at_builtin; go_loud (refine wpList_append_sl _ rfl _ _ 38 rfl w3.heap.size 28 ic _ 3 56 Try.underlying38 hi hiz0 hiz1 hiz2 rfl (by decide) (.slice qo qs.length qc) qs.length _ rfl (HQ.out.row.alloc _) (.slice (some ⟨wr.heap.size, 0, none⟩) 1 1) 1 _ rfl (SlAt.new wr #[.int .i64 r.t, .slice xa r.l.length xc, .slice ya r.xs.length yc] 28) (by simp [Value.oneCell']) (by unfold maxLen; omega) (by omega) (by simp; omega) ?_); intro v4 w4 hown4 hg4 hb4)
      have hpush := OwnRs.push (v' := v4) (r := r) (HQ.out.step ((Below.refl _ _).new _)) (.inl HG.out.1) (.inl HG.out.2) hg4 (by exact hown4)
      have H4 := hid hpush
      clear hpush hown4 hg4 hb4
      go_roundw
      case rel =>
        refine ⟨k + 1, _, hlt, by first | (congr 1; omega; done) | go_num | (simp; omega), H4.out, ?_⟩
        rw [HTS.out, List.map_append, HQC.out]; rfl
      case measure => first | (simp [intOf]; done) | (simp [intOf]; omega)
    · obtain rfl : k = N := by omega
      have hkk : (k : Int) - 1 - (k : Int) = -1 := by omega
      rw [hkk]
      have hrev : qs.map (fun p => p.2) = R.reverse := by
        rw [HQC.out]
        exact List.take_of_length_le (by simp; rw [HNN.out]; exact Nat.le_refl _)
      have hrr := HQ.out.is
      rw [hrev] at hrr
      have HRR := hid hrr
      have hperm : R.Perm R.reverse := (List.reverse_perm R).symm
      have HE := hid (rollE_perm (s := ⟨D, M, g⟩) hperm)
      have HO := hid (outL_perm (s := ⟨D, M, g⟩) hperm)
      have hrokr : RowsOk R.reverse := fun r hr => HROK.out r (by simpa using hr)
      have hA := fun W (h : Below wr.heap.size wr W) => roll_out ⟨D, M, g⟩ R _ _ _ W (HS.out.1.below (hbel.step h)) (HS.out.2.below (hbel.step h)) HTD.out HTM.out (HRW.out.below (hbel.step h)) HROK.out (by have := HRLN.out; omega)
      have hB := fun W (h : Below wr.heap.size wr W) => roll_out ⟨D, M, g⟩ R.reverse _ _ _ W (HS.out.1.below (hbel.step h)) (HS.out.2.below (hbel.step h)) HTD.out HTM.out (hrr.below h) hrokr (by simp; have := HRLN.out; omega)
      simp only [← HE.out, ← HO.out] at hB
      rw [HNN.out] at hA
      have HA := hid hA; have HB := hid hB
      have HBW := hid (HB3.out.step hbel)
      have hp2 := blk_below HP0.out hbel
      obtain ⟨c0, c1, c2, _, _, _⟩ := three_at hp2
      have zr := blk_lt hp2
      have hmm : decide ((0 : Int) ≤ -1) = false := by decide
      clear hrr hA hB hrev hrokr hperm hkk
      cases hcase : decide (rollE ⟨D, M, g⟩ R = 0) with
      | false =>
        have hne : ¬ rollE ⟨D, M, g⟩ R = 0 := by simpa using hcase
        generalize rollE ⟨D, M, g⟩ R = E1 at *
        generalize outL ⟨D, M, g⟩ R = L1 at *
        have g1 : (E1 == 0) = false := by simpa using hne
        go_wp2_with fail
        refine (HA.out _ (Below.refl _ _)).mono ?_
        rintro e w4 ⟨va, rfl, hca, hb4⟩
        clear c0 c1 c2
        obtain ⟨c0, c1, c2, _, _, _⟩ := three_at (blk_below hp2 hb4)
        go_wp2_with fail
        refine (HB.out _ hb4).mono ?_
        rintro e w5 ⟨vb, rfl, hcb, hb5⟩
        have HB5 := hid (HBW.out.step (hb4.step hb5))
        clear c0 c1 c2 hca hcb hb4 hb5
        go_wp2_with fail
        go_ret
        exact ⟨rfl, HB5.out⟩
      | true =>
        have he0 : rollE ⟨D, M, g⟩ R = 0 := by simpa using hcase
        have HLE := hid (outL_ok he0)
        have HRG := hid (rightB_roll he0 HROK.out)
        obtain ⟨ok1, ok2, ok3⟩ := rollE_ok he0
        have hgood := rollL_good ok2 HROK.out
        have hrl := rollL_rolled ok2
        have hcn : countW (rollL ⟨D, M, g⟩ R) = (R.length : Int) := by
          have h1 := rollL_count ⟨D, M, g⟩ R
          rw [countW_is hrl.nonneg (by rw [h1, HNN.out]; omega), h1]
        have HFL := hid (outL_few ⟨D, M, g⟩ R)
        rw [he0, HLE.out] at HA HB
        rw [HLE.out] at HFL
        have HTM2 : Hid (∀ c ∈ rollL ⟨D, M, g⟩ R, CellTame c) := fun c hc => (hgood c hc).tame
        rw [HNN.out] at hcn
        have HCN := hid hcn
        clear he0 hcase HLE hgood hrl ok1 ok2 ok3 hcn
        generalize rollL ⟨D, M, g⟩ R = L1 at *
        go_wp2_with fail
        refine (HA.out _ (Below.refl _ _)).mono ?_
        rintro e w4 ⟨va, rfl, hca, hb4⟩
        clear c0 c1 c2
        obtain ⟨c0, c1, c2, _, _, _⟩ := three_at (blk_below hp2 hb4)
        go_wp2_with fail
        refine (HB.out _ hb4).mono ?_
        rintro e w5 ⟨vb, rfl, hcb, hb5⟩
        have hb45 := hb4.step hb5
        have HB5 := hid (HBW.out.step hb45)
        have hca5 := hca.below hb5
        have s1 := HS.out.1.below (hbel.step hb45); have s2 := HS.out.2.below (hbel.step hb45)
        have HSA := hid (fun W (h : Below w5.heap.size w5 W) => refSameC_any va vb L1 L1 W (hca5.below h) (hcb.below h) HFL.out HFL.out)
        simp only [sameCs_refl] at HSA
        have HRT := hid (fun W (h : Below w5.heap.size w5 W) => rollRight_any ⟨D, M, g⟩ L1 _ _ va W (s1.below h) (s2.below h) HTD.out HTM.out (hca5.below h) HTM2.out)
        simp only [HRG.out] at HRT
        have HCT := hid (fun W (h : Below w5.heap.size w5 W) => count_any va L1 W (hca5.below h))
        simp only [HCN.out] at HCT
        have hp5 := blk_below hp2 hb45
        clear c0 c1 c2
        obtain ⟨c0, c1, c2, _, _, _⟩ := three_at hp5
        have z5 := blk_lt hp5
        obtain ⟨vao, vac, rfl, _⟩ := hca5.shape
        clear hca hcb hca5 hb4 hb5 hb45 s1 s2 hp5 hp2
        go_wp2_with (first
          | (go_at_call 31; go_loud ((with_reducible refine (HSA.out _ (by (repeat' (first | (with_reducible exact Below.refl _ _) | (with_reducible assumption) | (with_reducible refine Below.new ?_ _) | (with_reducible refine Below.alloc ?_ ?_ _) | (with_reducible refine Below.drew ?_) | (with_reducible refine Below.drewN ?_ _) | (with_reducible refine Below.setCell ?_ ?_ _) | (refine Below.step ?_ (by assumption)) | go_size)))).mono ?_); rintro e x1 ⟨rfl, hx1⟩; (obtain ⟨hc1, hf1, hk1, hz1⟩ := bcell3 hx1); have zx1 : w.heap.size < x1.heap.size := (by have := hx1.size; omega)))
          | (go_at_call 36; go_loud ((with_reducible refine (HRT.out _ (by (repeat' (first | (with_reducible exact Below.refl _ _) | (with_reducible assumption) | (with_reducible refine Below.new ?_ _) | (with_reducible refine Below.alloc ?_ ?_ _) | (with_reducible refine Below.drew ?_) | (with_reducible refine Below.drewN ?_ _) | (with_reducible refine Below.setCell ?_ ?_ _) | (refine Below.step ?_ (by assumption)) | go_size)))).mono ?_); rintro e x2 ⟨rfl, hx2⟩))
          | (go_at_call 33; go_loud ((with_reducible refine (HCT.out _ (by (repeat' (first | (with_reducible exact Below.refl _ _) | (with_reducible assumption) | (with_reducible refine Below.new ?_ _) | (with_reducible refine Below.alloc ?_ ?_ _) | (with_reducible refine Below.drew ?_) | (with_reducible refine Below.drewN ?_ _) | (with_reducible refine Below.setCell ?_ ?_ _) | (refine Below.step ?_ (by assumption)) | go_size)))).mono ?_); rintro e x3 ⟨rfl, hx3⟩)))
        go_ret
        exact ⟨rfl, by have := HB5.out; (repeat' (first | (with_reducible exact Below.refl _ _) | (with_reducible assumption) | (with_reducible refine Below.new ?_ _) | (with_reducible refine Below.alloc ?_ ?_ _) | (with_reducible refine Below.drew ?_) | (with_reducible refine Below.drewN ?_ _) | (with_reducible refine Below.setCell ?_ ?_ _) | (refine Below.step ?_ (by assumption)) | go_size))⟩
set_option maxRecDepth 100000 in
theorem RollupTurns_lifted (os : Os) (started : os.Started) (H : Type) (enc : TypeId × Value → H) :
    ReturnsInHanded {} Try.checked os 8 .any (Rows.rollupTurnsSpec.pre6 enc Try.prog Try.f8 Rows.rollupTurnsRow.domain false) (Rows.rollupTurnsSpec.post enc Try.prog Try.f8 false true false false) := by
  refine law_lift started (by kernel_rfl) Try.func8
    (ChangeSpec.witness6 (enc := enc) (C := Try.checked) false ⟨#[], #[.agg #[.slice none 0 0, .slice none 0 0, .int .i64 0], .slice none 0 0], []⟩ 8 (by kernel_rfl) (by kernel_rfl) (by kernel_rfl) (by kernel_rfl)) rfl rfl (by kernel_rfl) ?_ ?_
  · intro ds hl
    match ds, hl with
    | [_, _], _ => exact ⟨rfl, rfl, rfl⟩
  · intro W base args ds p hval hA hsz
    rw [Try.params8] at hA hval hsz
    obtain ⟨v0, vs0, d0, ds0, p0, q0, hargs, rfl, rfl, h0, r0⟩ := trodAll_cons hA
    obtain ⟨v1, vs1, d1, ds1, p1, q1, rfl, rfl, rfl, h1, r1⟩ := trodAll_cons r0
    obtain ⟨rfl, rfl, rfl⟩ := trodAll_nil r1
    obtain rfl : args = #[v0, v1] := by cases args; simp_all
    obtain ⟨va0, vb0, x0, y0, z0, rfl, b0, e0, f0, g0, k0⟩ := open_sch (hval 0 24 v0 rfl rfl) h0
    obtain ⟨x1, b1, e1⟩ := open_rowsT Try.underlying38 (hval 1 38 v1 rfl rfl) h1
    exact RollupTurns_walk _ _ _ _ _ _ _ W b0 e0 f0 g0 k0 b1 e1

theorem RollupTurns_over : Rows.rollupTurnsRow.holds Try.pinned (OpenSpec.ofChange Rows.rollupTurnsSpec) :=
  OpenClaim.holds_of_wide 8 Try.f8 rfl rfl rfl rfl rfl rfl rfl ⟨rfl, rfl, rfl, rfl, rfl⟩ rfl rfl rfl rfl rfl (by kernel_rfl) Try.func8 (by kernel_rfl)
    (of_decide_eq_true (by kernel_rfl)) (by unfold Func.isWrapper; first | (rw [if_pos (by decide +kernel)]; kernel_rfl) | (rw [if_neg (by decide +kernel)]; exact ⟨rfl, rfl⟩))
    (fun os started H enc _ => RollupTurns_lifted os started H enc)

/-- The statement. -/
theorem RollupTurns_proved : Rows.RollupTurnsSaid := RollupTurns_over
end Go.Proofs.Ytdgeinipdphoeaa
