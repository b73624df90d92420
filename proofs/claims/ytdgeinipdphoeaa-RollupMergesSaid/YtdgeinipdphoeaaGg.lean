/- Texts joined: RolU, RolX, RolY, RolZ. -/
import Derived.Test.YtdgeinipdphoeaaGf
import Derived.Test.YtdgeinipdphoeaaGa
import Derived.Deep.DeepCutAuto
import Derived.Test.YtdgeinipdphoeaaGe
import Derived.Test.YtdgeinipdphoeaaGd
/- Rollup: the walk of 'put'. -/
namespace Go.Proofs.Ytdgeinipdphoeaa
set_option linter.unusedVariables false
set_option linter.unusedSimpArgs false
set_option maxRecDepth 100000
open Go.ChangeShapes Go.WideShapes Go.ChangeAt Go.RowKit

def PutPost (w0 : World) (l : List CellD) (e : Ending) (w' : World) : Prop := ∃ v ps, e = .returned v ∧ OwnCs w' w0.heap.size v ps ∧ cellsP ps = l ∧ Below w0.heap.size w0 w'
/-- At the head of the loop: the box holds the list so far. -/
structure PutAt (m : Nat) (w0 : World) (b1 : Nat) (l : List CellD) (w : World) (v : Value) (ps : List CellP) : Prop where
  box : w.heap[b1]? = some (.cells #[v] 40 (0, 0))
  own : OwnCs w w0.heap.size v ps
  is : cellsP ps = l
  below : Below w0.heap.size w0 w

/-- Is it put together with the one at its place? -/
def mergeB (l : List CellD) (d : CellD) (P : Nat) : Bool := if h : P < l.length then !aheadC d l[P] else false

theorem info_cell : (Try.prog.info? 46).map (fun i => (i.zero, i.size, i.bytes)) = some (some (.agg #[.int .i64 0, .slice none 0 0, .int .i64 0, .slice none 0 0, .slice none 0 0, .slice none 0 0]), 6, 112) := by kernel_rfl

set_option maxHeartbeats 4000000 in
/-- 'put', of cells that lie as they lay in a world u whenever they are read. -/
theorem rput_gen (m : Nat) (w0 u w : World) (v vm : Value) (ps : List CellP) (more : List CellD) (hw : Below w0.heap.size w0 w) (ho : OwnCs w w0.heap.size v ps) (hmore : CellsSl u vm more)
    (hsrc0 : ∀ (k : Nat) (wr : World), k < more.length → Below w0.heap.size w0 wr → (k = 0 → Below w.heap.size w wr) → Below u.heap.size u wr)
    (hr : Rolled m (cellsP ps)) (ha : Put.All (cellRule m) more) (hn : NonNeg more) (hl : ∀ c ∈ more, c.l.length ≤ 1000000) (hm : m ≤ 1000000) (hlen : ps.length + more.length ≤ 1000000) (hcount : countT (cellsP ps) + countT more ≤ 4611686018427387904) :
    Calls Try.prog 57 #[v, vm] w (PutPost w0 (puts m (cellsP ps) more)) := by
  have hz := hw.size
  have H0 : Hid (PutAt m w0 w.heap.size (puts m (cellsP ps) (more.take 0)) (w.alloc (.cells #[v] 40)) v ps) := ⟨heap_at rfl, ho.below ((Below.refl _ _).alloc (Nat.le_refl _) _), rfl, hw.alloc hz _⟩
  have HMO := hid hmore; have HSRC := hid hsrc0; have HR := hid hr; have HA := hid ha; have HN := hid hn; have HL := hid hl; have HLEN := hid hlen; have HC := hid hcount; have HM := hid hm
  obtain ⟨ao, cap, rfl, _⟩ := hmore.shape
  obtain ⟨bo, bc, rfl⟩ := row_shape ho.row
  clear hmore hsrc0 hr ha hn hl hlen hcount ho hw
  go_enter Try.func57, Try.ntmps57
  go_wp2
  go_loopw [13] (fun i wr => ∃ k : Nat, k ≤ more.length ∧ i = .int .i64 k ∧ (k = 0 → Below w.heap.size w wr) ∧ ∃ v ps', PutAt m w0 w.heap.size (puts m (cellsP ps) (more.take k)) wr v ps') (fun i _ => more.length - (intOf i).toNat)
  case atStart => exact ⟨0, Nat.zero_le _, rfl, fun _ => (Below.refl _ _).new _, _, _, H0.out⟩
  case round =>
    obtain ⟨k, hk, rfl, hfst, v, qs, hat⟩ := hrel
    by_cases hlt : k < more.length
    · have HAT := hid hat
      have hb : wr.cell? ⟨w.heap.size, 0, none⟩ = some v := (blk_cell hat.box).trans rfl
      obtain ⟨b, off, vl, vs, vm, vx, rfl, h1, h2, h3, h4, c0, c1, c2, c3, c4, c5⟩ := HMO.out.at hlt
      have hu := HSRC.out k wr hlt hat.below hfst
      clear hfst
      replace c0 := cell_step c0 hu; replace c1 := cell_step c1 hu; replace c2 := cell_step c2 hu; replace c3 := cell_step c3 hu; replace c4 := cell_step c4 hu; replace c5 := cell_step c5 hu
      have hok := HA.out more[k] (List.getElem_mem hlt)
      have hll := HL.out more[k] (List.getElem_mem hlt)
      have HO := hid (fun W (h : Below u.heap.size u W) => own_is more[k] vl vs vm vx W (h1.below h) (h2.below h) (h3.below h) (h4.below h) hll (by rw [hok.2.1]; exact HM.out) (by rw [hok.2.2.1]; exact HM.out) (by rw [hok.2.2.2]; exact HM.out))
      have HD := hid hok
      obtain ⟨xl, yl, rfl, _⟩ := SlAt.shape h1
      obtain ⟨xs, ys, rfl, _⟩ := SlAt.shape h2
      obtain ⟨xm, ym, rfl, _⟩ := SlAt.shape h3
      obtain ⟨xx, yx, rfl, _⟩ := SlAt.shape h4
      have HNL := hid (HN.out more[k] (List.getElem_mem hlt))
      have HCT := hid (countT_take HN.out k hlt)
      have HPS := hid (puts_succ m (cellsP ps) more k hlt)
      have hzw : w.heap.size < wr.heap.size := blk_lt hat.box
      have hbel := hat.below
      have HBE := hid hbel
      clear h1 h2 h3 h4 hok hll hat
      generalize more[k] = d at *
      obtain ⟨qo, qc, hq⟩ := row_shape HAT.out.own.row
      subst hq
      have hk6 : (k : Int) ≤ 1000000 := by have := HLEN.out; omega
      have hk0 : (0 : Int) ≤ (k : Int) := Int.natCast_nonneg _
      have hql : (cellsP qs).length = qs.length := by simp [cellsP]
      have HQL := hid hql; clear hql
      have HRQ : Hid (Rolled m (cellsP qs)) := by have := HAT.out.is; unfold Hid; rw [this]; exact HR.out.puts (fun c hc => HA.out c (List.mem_of_mem_take hc)) (fun c hc => HN.out c (List.mem_of_mem_take hc))
      have HQ1 : Hid (qs.length ≤ 1000000) := by
        have h3 := HLEN.out
        have h4 : (puts m (cellsP ps) (more.take k)).length ≤ (cellsP ps).length + (more.take k).length := (Put.puts_len (cellRule m) (cellsP ps) (more.take k)).2
        rw [← HAT.out.is, HQL.out, show (cellsP ps).length = ps.length by simp [cellsP], List.length_take] at h4
        unfold Hid
        omega
      go_wp2_with (go_at_call 61; go_loud ((with_reducible refine (HO.out _ (by (repeat' (first | (with_reducible exact Below.refl _ _) | (with_reducible assumption) | (with_reducible refine Below.new ?_ _) | (with_reducible refine Below.alloc ?_ ?_ _) | (with_reducible refine Below.drew ?_) | (with_reducible refine Below.drewN ?_ _) | (with_reducible refine Below.setCell ?_ ?_ _) | (refine Below.step ?_ (by assumption)) | go_size)))).mono ?_); rintro e w2 ⟨⟨ul, us, um, ux⟩, rfl, ho2, hn2, hb2⟩; obtain ⟨la, lc, e1⟩ := row_shape ho2.l; obtain ⟨sa, sc, e2⟩ := row_shape ho2.s; obtain ⟨ma, mc, e3⟩ := row_shape ho2.m; obtain ⟨xa, xc, e4⟩ := row_shape ho2.x; dsimp only at e1 e2 e3 e4; subst e1; subst e2; subst e3; subst e4; have hbx : w2.cell? ⟨w.heap.size, 0, none⟩ = some (.slice qo qs.length qc) := cell_step (cell_new hb _) hb2; have hz2 : w.heap.size < w2.heap.size := (by have := hb2.size; simp at this; omega); have HB2 := hid hb2; have HO2 := hid ho2; have HN2 := hid hn2; clear hb2 ho2 hn2))
      have hB5 : Below wr.heap.size wr (w2.alloc (.cells #[.int .i64 d.t, .slice la d.l.length lc, .int .i64 d.n, .slice sa d.sums.length sc, .slice ma d.mins.length mc, .slice xa d.maxs.length xc] 87)) := ((((Below.refl _ _).alloc (Nat.le_refl _) _).trans (HB2.out.mono (by simp))).alloc (by have := HB2.out.size; simp at this; omega) _)
      have OQ := HAT.out.own.below hB5
      have OD := (HO2.out.turn (T := []) (.of ((Below.refl _ _).alloc (Nat.le_refl _) (.cells #[.int .i64 d.t, .slice la d.l.length lc, .int .i64 d.n, .slice sa d.sums.length sc, .slice ma d.mins.length mc, .slice xa d.maxs.length xc] 87))) (by simp)).le (B' := wr.heap.size) (by simp)
      have BX := blk_below HAT.out.box hB5
      have B7 : (w2.alloc (.cells #[.int .i64 d.t, .slice la d.l.length lc, .int .i64 d.n, .slice sa d.sums.length sc, .slice ma d.mins.length mc, .slice xa d.maxs.length xc] 87)).heap[w2.heap.size]? = some (.cells #[.int .i64 d.t, .slice la d.l.length lc, .int .i64 d.n, .slice sa d.sums.length sc, .slice ma d.mins.length mc, .slice xa d.maxs.length xc] 87 (0, 0)) := heap_at rfl
      have hwr : w0.heap.size ≤ wr.heap.size := HBE.out.size
      have BW := HBE.out.trans (hB5.mono hwr)
      have hw2 : wr.heap.size ≤ w2.heap.size := by have := HB2.out.size; simp at this; omega
      clear hB5 hbx hb HB2 HO2 hbel hu c0 c1 c2 c3 c4 c5
      generalize (w2.alloc (.cells #[.int .i64 d.t, .slice la d.l.length lc, .int .i64 d.n, .slice sa d.sums.length sc, .slice ma d.mins.length mc, .slice xa d.maxs.length xc] 87)) = S at *
      have HSE := search_any w.heap.size w2.heap.size (cellsP qs) d HRQ.out.sorted (by rw [HQL.out]; exact HQ1.out) S (fun i hi W hW => rput1_any w.heap.size w2.heap.size (cellsP qs) d (.slice qo qs.length qc) (.slice la d.l.length lc) (.slice sa d.sums.length sc) (.slice ma d.mins.length mc) (.slice xa d.maxs.length xc) i hi W (OQ.is.below hW) (cell_step ((blk_cell BX).trans rfl) hW) (blk_below B7 hW) ((ValsSl.own OD.l).below hW) ⟨_, _, _, rfl⟩ ⟨_, _, _, rfl⟩ ⟨_, _, _, rfl⟩)
      rw [HQL.out] at HSE
      refine HSE.mono ?_
      rintro e w3 ⟨rfl, hb3⟩
      clear HSE
      replace OQ := OQ.below hb3
      replace OD := OD.turn (T := []) (.of hb3) (by simp)
      replace BX := blk_below BX hb3
      replace B7 := blk_below B7 hb3
      replace BW := BW.trans (hb3.mono (by have := BW.size; omega))
      clear hb3 S
      have HPP : Hid (posC (cellsP qs) d ≤ qs.length) := by have := posC_le (cellsP qs) d; rw [HQL.out] at this; exact this
      obtain ⟨P, hP⟩ : ∃ P, posC (cellsP qs) d = P := ⟨_, rfl⟩
      rw [hP] at HPP ⊢
      have HPE := hid hP; clear hP
      have hx : w3.cell? ⟨w.heap.size, 0, none⟩ = some (.slice qo qs.length qc) := (blk_cell BX).trans rfl
      have q0 : (0 : Int) ≤ (P : Int) := Int.natCast_nonneg _
      have q1 : (P : Int) ≤ (qs.length : Int) := by have := HPP.out; omega
      have HOQ := hid OQ; have HOD := hid OD; have HBX := hid BX; have HB7 := hid B7; have HBW := hid BW
      have z7 := blk_lt B7
      have zx := blk_lt BX
      clear OQ OD BX B7 BW
      go_upto_region 6 with fail
      go_cut [37] (fun s wx => s = .bool (mergeB (cellsP qs) d P) ∧ Below w3.heap.size w3 wx)
      case first =>
        by_cases hpl : P < qs.length
        · have hpl' : P < (cellsP qs).length := by rw [HQL.out]; exact hpl
          have hME : mergeB (cellsP qs) d P = !aheadC d (cellsP qs)[P] := by unfold mergeB; rw [dif_pos hpl']
          have HME := hid hME
          have his := HOQ.out.is
          rw [← HQL.out] at his
          obtain ⟨g, off', vl, vs, vm, vx, e, g1, g2, g3, g4, c0, c1, c2, c3, c4, c5⟩ := his.at hpl'
          subst e
          have HI := hid (fun x => isAhead_any d (cellsP qs)[P] (.slice la d.l.length lc) (.slice sa d.sums.length sc) (.slice ma d.mins.length mc) (.slice xa d.maxs.length xc) vl vs vm vx d.n (cellsP qs)[P].n (World.plus w3 x) ((ValsSl.own HOD.out.l).below (World.plus_below w3 x)) (g1.below (World.plus_below w3 x)) ⟨_, _, _, rfl⟩ ⟨_, _, _, rfl⟩ ⟨_, _, _, rfl⟩ (g2.shape.imp fun _ h => ⟨_, h.imp fun _ h => h.1⟩) (g3.shape.imp fun _ h => ⟨_, h.imp fun _ h => h.1⟩) (g4.shape.imp fun _ h => ⟨_, h.imp fun _ h => h.1⟩))
          obtain ⟨d0, d1, d2, d3, d4, d5⟩ := six_at HB7.out
          obtain ⟨_, _, rfl, _⟩ := SlAt.shape g1
          obtain ⟨_, _, rfl, _⟩ := SlAt.shape g2
          obtain ⟨_, _, rfl, _⟩ := SlAt.shape g3
          obtain ⟨_, _, rfl, _⟩ := SlAt.shape g4
          have px := World.plus_cell hx
          have pc0 := World.plus_cell c0
          have pc1 := World.plus_cell c1
          have pc2 := World.plus_cell c2
          have pc3 := World.plus_cell c3
          have pc4 := World.plus_cell c4
          have pc5 := World.plus_cell c5
          have pd0 := World.plus_cell d0
          have pd1 := World.plus_cell d1
          have pd2 := World.plus_cell d2
          have pd3 := World.plus_cell d3
          have pd4 := World.plus_cell d4
          have pd5 := World.plus_cell d5
          have q2 : (P : Int) < (qs.length : Int) := by omega
          clear his hME g1 g2 g3 g4
          generalize aheadC d (cellsP qs)[P] = r at *
          generalize (cellsP qs)[P].t = t1 at *
          generalize (cellsP qs)[P].n = n1 at *
          generalize (cellsP qs)[P].l.length = m1 at *
          generalize (cellsP qs)[P].sums.length = m2 at *
          generalize (cellsP qs)[P].mins.length = m3 at *
          generalize (cellsP qs)[P].maxs.length = m4 at *
          refine wp_region_plus (by kernel_rfl) (by kernel_rfl) ?_
          repeat (first | go_big_quiet_skip | (go_big_quiet_want; go_big_quiet_op; first | go_big_quiet_on | go_big_quiet_call (((go_at_call 73; exact Calls.plus_of (HI.out _))))))
          refine wpQuiet_nil ?_
          rintro _ ⟨xq, rfl⟩
          have kB := World.plus_below w3 xq
          go_wp2_with fail
          go_meet
          exact ⟨by rw [HME.out], by (repeat' (first | (with_reducible exact Below.refl _ _) | (with_reducible assumption) | (with_reducible refine Below.new ?_ _) | (with_reducible refine Below.alloc ?_ ?_ _) | (with_reducible refine Below.drew ?_) | (with_reducible refine Below.drewN ?_ _) | (with_reducible refine Below.setCell ?_ ?_ _) | (refine Below.step ?_ (by assumption)) | go_size))⟩
        · have hME : mergeB (cellsP qs) d P = false := by unfold mergeB; rw [dif_neg (by rw [HQL.out]; exact hpl)]
          have HME := hid hME
          have hg : decide (P < qs.length) = false := by simpa using hpl
          have hg' : decide ((P : Int) < (qs.length : Int)) = false := by simp; omega
          have px := World.plus_cell hx
          clear hME hpl
          refine wp_region_plus (by kernel_rfl) (by kernel_rfl) ?_
          repeat (first | go_big_quiet_skip | (go_big_quiet_want; go_big_quiet_op; first | go_big_quiet_on | go_big_quiet_call ((fail))))
          refine wpQuiet_nil ?_
          rintro _ ⟨xq, rfl⟩
          have kB := World.plus_below w3 xq
          go_wp2_with fail
          go_meet
          exact ⟨by rw [HME.out], by (repeat' (first | (with_reducible exact Below.refl _ _) | (with_reducible assumption) | (with_reducible refine Below.new ?_ _) | (with_reducible refine Below.alloc ?_ ?_ _) | (with_reducible refine Below.drew ?_) | (with_reducible refine Below.drewN ?_ _) | (with_reducible refine Below.setCell ?_ ?_ _) | (refine Below.step ?_ (by assumption)) | go_size))⟩
      case rest =>
        obtain ⟨rfl, hbc⟩ := hcut
        have OQ := HOQ.out.below hbc
        have OD := HOD.out.turn (T := []) (.of hbc) (by simp)
        have BX := blk_below HBX.out hbc
        have B7 := blk_below HB7.out hbc
        have BW := HBW.out.trans (hbc.mono (by have := HBW.out.size; omega))
        have hzc := hbc.size
        have z7S := blk_lt B7
        have zxS := blk_lt BX
        clear HOQ HOD HBX HB7 HBW hx hbc
        obtain ⟨S, rfl⟩ : ∃ S, S = wc := ⟨_, rfl⟩
        cases hme : mergeB (cellsP qs) d P with
        | true =>
          obtain ⟨hpl, hnah⟩ : ∃ h : P < (cellsP qs).length, aheadC d (cellsP qs)[P] = false := by
            unfold mergeB at hme
            split at hme
            · rename_i h
              exact ⟨h, by simpa using hme⟩
            · cases hme
          have hpq : P < qs.length := by rw [← HQL.out]; exact hpl
          have HPUT : Hid (put1 m (cellsP qs) d = cellsP (qs.set P (qs[P].1, bothC qs[P].2 d))) := by
            have e := HPE.out
            subst e
            show put1 m (cellsP qs) d = _
            rw [put_same m (cellsP qs) d hpl hnah]
            simp [cellsP]
          have HOQ := hid OQ; have HBW := hid BW; have HBX := hid BX; have HB7 := hid B7; have HOD := hid OD
          obtain ⟨g, cap', e, hgl, _⟩ := row_some OQ.row (by omega)
          simp only [Value.slice.injEq, true_and] at e
          obtain ⟨rfl, rfl⟩ := e
          have hel := OQ.each qs[P] (List.getElem_mem hpq)
          have HQP := hid (HRQ.out.all qs[P].2 (by unfold cellsP; exact List.mem_map.2 ⟨qs[P], List.getElem_mem hpq, rfl⟩))
          have HAP : Hid (ApartC qs[P].1 ⟨.slice la d.l.length lc, .slice sa d.sums.length sc, .slice ma d.mins.length mc, .slice xa d.maxs.length xc⟩) := by
            refine ApartC.of (HAT.out.own.nodup_at hpq) (fun x hx hx' => ?_)
            have h1 := (HAT.out.own.lt_at hpq x hx).2
            have h2 := (OD.lt x hx').1
            omega
          have HSUM : Hid (wrap64 (qs[P].2.n + d.n) = qs[P].2.n + d.n) := by
            have hmem : qs[P].2 ∈ cellsP qs := List.mem_map.2 ⟨qs[P], List.getElem_mem hpq, rfl⟩
            have h1 := HRQ.out.nonneg qs[P].2 hmem
            have h2 := le_countT HRQ.out.nonneg qs[P].2 hmem
            have h3 : countT (cellsP qs) = countT (cellsP ps) + countT (more.take k) := by rw [HAT.out.is]; exact countT_puts m _ _
            have h4 := HC.out; have h5 := HCT.out; have h6 := HNL.out
            unfold Hid wrap64
            omega
          have cAt : ∀ j (x : Value), (rowP qs[P])[j]? = some x → S.cell? ⟨g, P * 6 + j, none⟩ = some x := fun j x hj => by
            have hj6 : j < 6 := (List.getElem?_eq_some_iff.1 hj).1
            rw [OQ.row.cellAt _ (by omega), flat_at 6 rowP rowP_len qs P j hj6 hpq, hj]
          have fAt := OQ.row.frozenAt
          have c0 : S.cell? ⟨g, P * 6, none⟩ = some (.int .i64 qs[P].2.t) := cAt 0 _ rfl; have c1 := cAt 1 _ rfl; have c2 := cAt 2 _ rfl; have c3 := cAt 3 _ rfl; have c4 := cAt 4 _ rfl; have c5 := cAt 5 _ rfl
          have hx : S.cell? ⟨w.heap.size, 0, none⟩ = some (.slice (some ⟨g, 0, none⟩) qs.length qc) := (blk_cell BX).trans rfl
          obtain ⟨d0, d1, d2, d3, d4, d5⟩ := six_at B7
          obtain ⟨ra, rb, e1⟩ := row_shape hel.l
          obtain ⟨rc, rd, e2⟩ := row_shape hel.s
          obtain ⟨re, rf, e3⟩ := row_shape hel.m
          obtain ⟨rg, rh, e4⟩ := row_shape hel.x
          rw [e1] at c1
          rw [e2] at c3
          rw [e3] at c4
          rw [e4] at c5
          have HE := hid (And.intro e1 (And.intro e2 (And.intro e3 e4)))
          have q2 : (P : Int) < (qs.length : Int) := by omega
          clear OQ BW BX B7 OD hel cAt e1 e2 e3 e4 hnah hpl hme
          go_wp2_with fail
          obtain ⟨e1, e2, e3, e4⟩ := HE.out
          have hS : Below S.heap.size S (S.alloc (.cells #[.int .i64 qs[P].2.t, qs[P].1.vl, .int .i64 qs[P].2.n, qs[P].1.vs, qs[P].1.vm, qs[P].1.vx] 87)) := (Below.refl _ _).alloc (Nat.le_refl _) _
          have hcc := (HOQ.out.each qs[P] (List.getElem_mem hpq)).turn (T := []) (.of hS) (by simp)
          have hdd := HOD.out.turn (T := []) (.of hS) (by simp)
          have A := addTo_any S.heap.size w0.heap.size wr.heap.size qs[P].2 d qs[P].1 ⟨.slice la d.l.length lc, .slice sa d.sums.length sc, .slice ma d.mins.length mc, .slice xa d.maxs.length xc⟩ (S.alloc (.cells #[.int .i64 qs[P].2.t, qs[P].1.vl, .int .i64 qs[P].2.n, qs[P].1.vs, qs[P].1.vm, qs[P].1.vx] 87)) (S.heap.size :: qs[P].1.blks) m (heap_at rfl) hcc hdd HAP.out (fun g hg => List.mem_cons_of_mem _ hg) (by simp) (fun x hx => by simp only [List.mem_cons, not_or]; exact ⟨by have := (HOD.out.lt x hx).2; omega, fun hm => by have h1 := (HAT.out.own.lt_at hpq x hm).2; have h2 := (HOD.out.lt x hx).1; omega⟩) HQP.out.2.1 HQP.out.2.2.1 HQP.out.2.2.2 HD.out.2.1 HD.out.2.2.1 HD.out.2.2.2 hm HSUM.out
          dsimp only at A
          rw [e1, e2, e3, e4] at A hS
          refine A.mono ?_
          rintro e w4 ⟨rfl, hadd⟩
          clear A
          have T1 : TurnO (S.heap.size :: qs[P].1.blks) S w4 := (TurnO.of hS).trans hadd.turn
          have hb1 : w.heap.size ∉ S.heap.size :: qs[P].1.blks := by
            simp only [List.mem_cons, not_or]
            exact ⟨by omega, (HOQ.out.each qs[P] (List.getElem_mem hpq)).not_blk HBX.out (by decide) (by decide) (by decide)⟩
          have hg1 : g ∉ S.heap.size :: qs[P].1.blks := by
            simp only [List.mem_cons, not_or]
            exact ⟨by omega, fun hm => HOQ.out.out rfl (List.mem_flatMap.2 ⟨qs[P], List.getElem_mem hpq, hm⟩)⟩
          have ROW := T1.row HOQ.out.row (fun q hq' => by simp [Value.ownBlock] at hq'; rw [← hq']; exact hg1)
          have PM := put_merged HOQ.out hpq hS (by simp) hadd HQP.out.2.1 HQP.out.2.2.1 HQP.out.2.2.2 HD.out.2.1 HD.out.2.2.1 HD.out.2.2.2
          have hx4 : w4.cell? ⟨w.heap.size, 0, none⟩ = some (.slice (some ⟨g, 0, none⟩) qs.length qc) := (blk_cell (T1.blk HBX.out hb1)).trans rfl
          obtain ⟨k0, k1, k2, k3, k4, k5⟩ := six_at hadd.blk
          have wAt : ∀ j (x : Value), (rowP qs[P])[j]? = some x → w4.cell? ⟨g, P * 6 + j, none⟩ = some x := fun j x hj => by
            have hj6 : j < 6 := (List.getElem?_eq_some_iff.1 hj).1
            rw [ROW.cellAt _ (by omega), flat_at 6 rowP rowP_len qs P j hj6 hpq, hj]
          have m0 : w4.cell? ⟨g, P * 6, none⟩ = some (.int .i64 qs[P].2.t) := wAt 0 _ rfl; have m1 := wAt 1 _ rfl; have m2 := wAt 2 _ rfl; have m3 := wAt 3 _ rfl; have m4 := wAt 4 _ rfl; have m5 := wAt 5 _ rfl
          have n0 : w4.frozen? ⟨g, P * 6, none⟩ = false := ROW.frozenAt _; have n1 := ROW.frozenAt (P * 6 + 1); have n2 := ROW.frozenAt (P * 6 + 2); have n3 := ROW.frozenAt (P * 6 + 3); have n4 := ROW.frozenAt (P * 6 + 4); have n5 := ROW.frozenAt (P * 6 + 5)
          unfold set6 at PM
          rw [e1, e2, e3, e4] at PM
          rw [e1] at k1 m1
          rw [e2] at k3 m3
          rw [e3] at k4 m4
          rw [e4] at k5 m5
          have hT2 : ∀ x ∈ g :: S.heap.size :: qs[P].1.blks, w0.heap.size ≤ x := fun x hx => by
            rcases List.mem_cons.1 hx with rfl | hx
            · exact (HOQ.out.row.lt _ rfl).1
            · rcases List.mem_cons.1 hx with rfl | hx
              · exact HBW.out.size
              · exact ((HOQ.out.each qs[P] (List.getElem_mem hpq)).lt x hx).1
          have hb2 : w.heap.size ∉ g :: S.heap.size :: qs[P].1.blks := fun hm => by
            rcases List.mem_cons.1 hm with h | h
            · exact HOQ.out.not_blk HBX.out (by decide) (by rw [h]; rfl)
            · exact hb1 h
          have HPM := hid PM; have HT2 := hid hT2; have HB1 := hid hb2
          clear PM hT2 hb1 hb2 hg1 ROW T1 hadd hS hcc hdd wAt e1 e2 e3 e4 hx d0 d1 d2 d3 d4 d5 c0 c1 c2 c3 c4 c5 fAt
          go_wp2
          go_roundw
          case rel =>
            refine ⟨k + 1, hlt, by go_num, fun h => absurd h (Nat.succ_ne_zero k), .slice (some ⟨g, 0, none⟩) qs.length qc, qs.set P (qs[P].1, bothC qs[P].2 d), ⟨HPM.out.2.blk HBX.out HB1.out, HPM.out.1, ?_, HBW.out.trans (HPM.out.2.below HBW.out.size HT2.out)⟩⟩
            rw [HPS.out, ← HAT.out.is, HPUT.out]
          case measure => simp [intOf]; omega
        | false =>
          have HPUT : Hid (put1 m (cellsP qs) d = cellsP (qs.take P ++ (⟨.slice la d.l.length lc, .slice sa d.sums.length sc, .slice ma d.mins.length mc, .slice xa d.maxs.length xc⟩, d) :: qs.drop P)) := by
            have e := HPE.out
            subst e
            show put1 m (cellsP qs) d = _
            rw [put_new m (cellsP qs) d (fun h => by
              unfold mergeB at hme
              rw [dif_pos h] at hme
              simpa using hme)]
            simp [cellsP, List.map_take, List.map_drop]
          obtain ⟨ic, hi, hiz0, hiz1, hiz2⟩ := info_parts info_cell
          have HOQ := hid OQ; have HBW := hid BW; have HBX := hid BX; have HB7 := hid B7; have HOD := hid OD
          have hsl := SlAt.own OQ.row
          obtain ⟨_, hpc, _, hqn, _⟩ := hsl.parts
          have HSL := hid hsl
          have hx : S.cell? ⟨w.heap.size, 0, none⟩ = some (.slice qo qs.length qc) := (blk_cell BX).trans rfl
          obtain ⟨d0, d1, d2, d3, d4, d5⟩ := six_at B7
          have hmk : ∀ X, (Instr.makeSlice 40 (.int .i64 (P : Int)) (.int .i64 ((qs.length : Int) + 1))).run Try.prog X = .ok (.slice (some ⟨X.heap.size, 0, none⟩) P (qs.length + 1)) (X.alloc (.cells (madeCells (Value.agg #[.int .i64 0, .slice none 0 0, .int .i64 0, .slice none 0 0, .slice none 0 0, .slice none 0 0]).cells ((qs.length + 1) * 6)) 46)) := fun X => by
            have h6 := HQ1.out
            have := run_makeSlice (P := Try.prog) X 40 46 ic _ Try.underlying40 hi hiz0 .i64 .i64 (P : Int) ((qs.length : Int) + 1) (by omega) (by omega) (by rw [hiz1]; omega) (by rw [hiz2]; omega) (by omega)
            rw [this, hiz1]
            simp only [Int.toNat_natCast]
            rfl
          obtain ⟨Z, hZ⟩ : ∃ Z, madeCells (Value.agg #[.int .i64 0, .slice none 0 0, .int .i64 0, .slice none 0 0, .slice none 0 0, .slice none 0 0]).cells ((qs.length + 1) * 6) = Z := ⟨_, rfl⟩
          have hZs : Z.size = (qs.length + 1) * 6 := by rw [← hZ]; exact size_madeCells _ _
          rw [hZ] at hmk
          have HZS := hid hZs
          have q3 : (P : Int) ≤ (qc : Int) := by omega
          have hpq : P ≤ qs.length := HPP.out
          have q4 : (qs.length : Int) ≤ 1000000 := by have := HQ1.out; omega
          have hqo : ∀ a, qo = some a → a.spot = none := fun a ha => by
            rcases OQ.row.2 with ⟨e, _⟩ | ⟨g, cp, cur, e, _⟩
            · simp only [Value.slice.injEq] at e; rw [e.1] at ha; cases ha
            · simp only [Value.slice.injEq] at e; rw [e.1] at ha; cases ha; rfl
          have hB1 : Below S.heap.size S (S.alloc (.cells Z 46)) := (Below.refl _ _).alloc (Nat.le_refl _) _
          have hown0 : (S.alloc (.cells Z 46)).ownsRow S.heap.size 46 6 (.slice (some ⟨S.heap.size, 0, none⟩) P (qs.length + 1)) P (Z.toList.take (P * 6)) :=
            ⟨by simp; omega, .inr ⟨S.heap.size, qs.length + 1, Z, rfl, Nat.le_refl _, heap_at rfl, by omega, by have := HQ1.out; unfold maxLen; omega, hZs, rfl⟩⟩
          have h1c : ∀ u ∈ qs.flatMap rowP, u.oneCell' = true := fun u hu => by
            obtain ⟨q, hq, hu⟩ := List.mem_flatMap.1 hu
            obtain ⟨_, _, e1⟩ := row_shape (HOQ.out.each q hq).l
            obtain ⟨_, _, e2⟩ := row_shape (HOQ.out.each q hq).s
            obtain ⟨_, _, e3⟩ := row_shape (HOQ.out.each q hq).m
            obtain ⟨_, _, e4⟩ := row_shape (HOQ.out.each q hq).x
            simp only [rowP, CellV.row, e1, e2, e3, e4, List.mem_cons, List.not_mem_nil, or_false] at hu
            rcases hu with rfl | rfl | rfl | rfl | rfl | rfl <;> rfl
          obtain ⟨w5, hrun, hown5, hg5⟩ := run_copy_rows (P := Try.prog) (S.alloc (.cells Z 46)) 40 40 3 46 ic 6 Try.underlying40 hi hiz1 hown0 (.slice qo P P) ((qs.flatMap rowP).take (P * 6)) ((hsl.take3 hpq).below hB1) (fun u hu => h1c u (List.mem_of_mem_take hu))
          have hB5 : Below S.heap.size S w5 := hB1.grown hg5 (by simp) (fun r hr => by cases hr; exact Nat.le_refl _)
          have hz5 : S.heap.size < w5.heap.size := by have := hg5.size; simp at this; omega
          have hx5 := cell_step hx hB5
          replace d0 := cell_step d0 hB5; replace d1 := cell_step d1 hB5; replace d2 := cell_step d2 hB5; replace d3 := cell_step d3 hB5; replace d4 := cell_step d4 hB5; replace d5 := cell_step d5 hB5
          have f5 : w5.frozen? ⟨w.heap.size, 0, none⟩ = false := blk_free (blk_below HBX.out hB5)
          obtain ⟨XS, hXS⟩ : ∃ XS, (if qc = P then qo else Option.map (fun x => x.add (P * 6)) qo) = XS := ⟨_, rfl⟩
          have HXS := hid hXS
          have HO5 := hid hown5; have H1C := hid h1c; have HG5 := hid hB5; have HQO := hid hqo
          clear OQ BW BX B7 OD hme hZ hZs hsl hqn hB1 hown0 h1c hown5 hg5 hB5 hqo
          go_wp2
          have hS0 : (fun w' : World => w'.cell? ⟨w.heap.size, 0, none⟩ = some (.slice qo qs.length qc) ∧ w'.cell? ⟨w2.heap.size, 0, none⟩ = some (.int .i64 d.t) ∧ w'.cell? ⟨w2.heap.size, 1, none⟩ = some (.slice la d.l.length lc) ∧ w'.cell? ⟨w2.heap.size, 2, none⟩ = some (.int .i64 d.n) ∧ w'.cell? ⟨w2.heap.size, 3, none⟩ = some (.slice sa d.sums.length sc) ∧ w'.cell? ⟨w2.heap.size, 4, none⟩ = some (.slice ma d.mins.length mc) ∧ w'.cell? ⟨w2.heap.size, 5, none⟩ = some (.slice xa d.maxs.length xc)) w5.drew := ⟨hx5, d0, d1, d2, d3, d4, d5⟩
          refine wp_region_some (fun w' : World => w'.cell? ⟨w.heap.size, 0, none⟩ = some (.slice qo qs.length qc) ∧ w'.cell? ⟨w2.heap.size, 0, none⟩ = some (.int .i64 d.t) ∧ w'.cell? ⟨w2.heap.size, 1, none⟩ = some (.slice la d.l.length lc) ∧ w'.cell? ⟨w2.heap.size, 2, none⟩ = some (.int .i64 d.n) ∧ w'.cell? ⟨w2.heap.size, 3, none⟩ = some (.slice sa d.sums.length sc) ∧ w'.cell? ⟨w2.heap.size, 4, none⟩ = some (.slice ma d.mins.length mc) ∧ w'.cell? ⟨w2.heap.size, 5, none⟩ = some (.slice xa d.maxs.length xc)) [8, 9] (by kernel_rfl) ?_
          (refine wpMix_take (i := 0) (v := ?_) rfl (by kernel_rfl) (fun _ _ _ h => h) (Or.inl ⟨by rfl, ?_⟩) hS0 ?_; rotate_left 1; (focus (intro w hSw; (try dsimp only at hSw); go_simp; try (with_reducible rfl))); (try simp only [Act.put, List.setIfInBounds_toArray, List.set_cons_zero, List.set_cons_succ]))
          (refine wpMix_take (i := 1) (v := ?_) rfl (by kernel_rfl) (fun _ _ _ h => h) (Or.inl ⟨by rfl, ?_⟩) hS0 ?_; rotate_left 1; (focus (intro w hSw; (try dsimp only at hSw); go_simp; try (with_reducible rfl))); (try simp only [Act.put, List.setIfInBounds_toArray, List.set_cons_zero, List.set_cons_succ]))
          (refine wpMix_take (i := 2) (v := ?_) rfl (by kernel_rfl) (fun _ _ _ h => h) (Or.inl ⟨by rfl, ?_⟩) hS0 ?_; rotate_left 1; (focus (intro w hSw; (try dsimp only at hSw); go_simp; try (with_reducible rfl))); (try simp only [Act.put, List.setIfInBounds_toArray, List.set_cons_zero, List.set_cons_succ]))
          (refine wpMix_take (i := 5) (v := ?_) rfl (by kernel_rfl) (fun _ _ _ h => h) (Or.inl ⟨by rfl, ?_⟩) hS0 ?_; rotate_left 1; (focus (intro w hSw; (try dsimp only at hSw); go_simp; try (with_reducible rfl))); (try simp only [Act.put, List.setIfInBounds_toArray, List.set_cons_zero, List.set_cons_succ]))
          (refine wpMix_take (i := 6) (v := ?_) rfl (by kernel_rfl) (fun _ _ _ h => h) (Or.inl ⟨by rfl, ?_⟩) hS0 ?_; rotate_left 1; (focus (intro w hSw; (try dsimp only at hSw); go_simp; try (with_reducible rfl))); (try simp only [Act.put, List.setIfInBounds_toArray, List.set_cons_zero, List.set_cons_succ]))
          (refine wpMix_take (i := 7) (v := ?_) rfl (by kernel_rfl) (fun _ _ _ h => h) (Or.inl ⟨by rfl, ?_⟩) hS0 ?_; rotate_left 1; (focus (intro w hSw; (try dsimp only at hSw); go_simp; try (with_reducible rfl))); (try simp only [Act.put, List.setIfInBounds_toArray, List.set_cons_zero, List.set_cons_succ]))
          refine wpMix_next (t := 3) (by kernel_rfl) ?_
          simp only [opsAt, List.flatMap_cons, List.flatMap_nil, List.take_succ_cons, List.take_zero, List.drop_succ_cons, List.drop_zero, List.append_nil, List.cons_append, List.nil_append]
          clear hXS
          go_wp2
          have zS0 : w0.heap.size ≤ S.heap.size := HBW.out.size
          refine ⟨⟨cell_new (w := w5) hx5 _, cell_new (w := w5) d0 _, cell_new (w := w5) d1 _, cell_new (w := w5) d2 _, cell_new (w := w5) d3 _, cell_new (w := w5) d4 _, cell_new (w := w5) d5 _⟩, ?_⟩
          refine wpMix_next (t := 4) (by kernel_rfl) ?_
          simp only [opsAt, List.flatMap_cons, List.flatMap_nil, List.take_succ_cons, List.take_zero, List.drop_succ_cons, List.drop_zero, List.append_nil, List.cons_append, List.nil_append]
          go_wp2_with (at_builtin; go_loud (refine wpList_append_sl _ rfl _ _ 40 rfl S.heap.size 46 ic _ 6 112 Try.underlying40 hi hiz0 hiz1 hiz2 rfl (by decide) (.slice (some ⟨S.heap.size, 0, none⟩) P (qs.length + 1)) P _ rfl ((HO5.out.alloc _).drew) (.slice (some ⟨w5.heap.size, 0, none⟩) 1 1) 1 _ rfl ((SlAt.new w5 #[.int .i64 d.t, .slice la d.l.length lc, .int .i64 d.n, .slice sa d.sums.length sc, .slice ma d.mins.length mc, .slice xa d.maxs.length xc] 46).drew) (by simp [Value.oneCell']) (by unfold maxLen; omega) (by omega) (by simp; omega) ?_); intro v1 w6 hown6 hg6 hb6)
          have hB6 : Below S.heap.size S w6 := own_below ((HO5.out.alloc _).drew) hg6 (Below.drew (HG5.out.new _)) (Nat.le_refl _)
          have far6 : ∀ {b o : Nat} {x : Value}, b < S.heap.size → w5.cell? ⟨b, o, none⟩ = some x → w6.cell? ⟨b, o, none⟩ = some x := fun hb hc => own_far ((HO5.out.alloc _).drew) hg6 hb (cell_new (w := w5) hc _)
          have hx6 := far6 zxS hx5
          have f6 : w6.frozen? ⟨w.heap.size, 0, none⟩ = false := blk_free (blk_below HBX.out hB6)
          refine ⟨⟨hx6, far6 z7S d0, far6 z7S d1, far6 z7S d2, far6 z7S d3, far6 z7S d4, far6 z7S d5⟩, ?_⟩
          have hsrc := (HSL.out.from (fun _ => HQO.out) hpq).below hB6
          rw [HXS.out] at hsrc
          refine wpMix_rest [8, 9] (by kernel_rfl) ?_
          simp only [opsAt, List.flatMap_cons, List.flatMap_nil, List.take_succ_cons, List.take_zero, List.drop_succ_cons, List.drop_zero, List.append_nil, List.cons_append, List.nil_append]
          have HO6 := hid hown6; have HB6 := hid hB6
          have hz6 := hB6.size
          clear hown6 hg6 hb6 far6 hS0 hB6 hx5 d0 d1 d2 d3 d4 d5 f5
          go_wp2_with (at_builtin; go_loud (refine wpList_append_sl _ rfl _ _ 40 rfl S.heap.size 46 ic _ 6 112 Try.underlying40 hi hiz0 hiz1 hiz2 rfl (by decide) v1 (P + 1) _ rfl HO6.out (.slice XS (qs.length - P) (qc - P)) (qs.length - P) _ rfl hsrc (fun u hu => H1C.out u (List.mem_of_mem_drop hu)) (by unfold maxLen; omega) (by omega) (by omega) ?_); intro v2 w7 hown7 hg7 hb7; have hB7 : Below S.heap.size S w7 := own_below HO6.out hg7 HB6.out (Nat.le_refl _); have hx7 := cell_step hx hB7; have f7 : w7.frozen? ⟨w.heap.size, 0, none⟩ = false := blk_free (blk_below HBX.out hB7); obtain ⟨va, vc, e7⟩ := row_shape hown7; subst e7; have HB7 := hid hB7; have HO7 := hid hown7; clear hB7 hown7 hg7 hb7)
          go_roundw
          case rel =>
            refine ⟨k + 1, hlt, by go_num, fun h => absurd h (Nat.succ_ne_zero k), .slice va (P + 1 + (qs.length - P)) vc, qs.take P ++ (⟨.slice la d.l.length lc, .slice sa d.sums.length sc, .slice ma d.mins.length mc, .slice xa d.maxs.length xc⟩, d) :: qs.drop P, ⟨?_, ?_, ?_, ?_⟩⟩
            · have := blk_set (o := 0) (v := .slice va (P + 1 + (qs.length - P)) vc) (blk_below HBX.out HB7.out)
              simpa using this
            · exact put_new_row HOQ.out hpq HB7.out zS0 HBX.out HOD.out hwr HN2.out (fun x hx hx' => by
                have h1 := (HOD.out.lt x hx).1
                have h2 := (HAT.out.own.lt x hx').2
                omega) HO7.out (by omega)
            · rw [HPS.out, ← HAT.out.is, HPUT.out]
            · exact (HBW.out.trans (HB7.out.mono zS0)).setCell (by simp; omega) _
          case measure => simp [intOf]; omega
    · obtain rfl : k = more.length := by omega
      have HAT := hid hat
      have hb : wr.cell? ⟨w.heap.size, 0, none⟩ = some v := (blk_cell hat.box).trans rfl
      obtain ⟨qo, qc, rfl⟩ := row_shape hat.own.row
      clear hat
      go_wp2
      go_ret
      have h := HAT.out
      refine ⟨_, qs, rfl, h.own, ?_, h.below⟩
      rw [h.is, List.take_length]
theorem rput_any (m : Nat) (w0 w : World) (v vm : Value) (ps : List CellP) (more : List CellD) (hw : Below w0.heap.size w0 w) (ho : OwnCs w w0.heap.size v ps) (hmore : CellsSl w0 vm more)
    (hr : Rolled m (cellsP ps)) (ha : Put.All (cellRule m) more) (hn : NonNeg more) (hl : ∀ c ∈ more, c.l.length ≤ 1000000) (hm : m ≤ 1000000) (hlen : ps.length + more.length ≤ 1000000) (hcount : countT (cellsP ps) + countT more ≤ 4611686018427387904) :
    Calls Try.prog 57 #[v, vm] w (PutPost w0 (puts m (cellsP ps) more)) := rput_gen m w0 w0 w v vm ps more hw ho hmore (fun _ _ _ h _ => h) hr ha hn hl hm hlen hcount
/-- One more, wherever it lies. -/
theorem rput_one (m : Nat) (w0 w : World) (v vm : Value) (ps : List CellP) (d : CellD) (hw : Below w0.heap.size w0 w) (ho : OwnCs w w0.heap.size v ps) (hmore : CellsSl w vm [d])
    (hr : Rolled m (cellsP ps)) (ha : CellOk m d) (hn : 0 ≤ d.n) (hl : d.l.length ≤ 1000000) (hm : m ≤ 1000000) (hlen : ps.length + 1 ≤ 1000000) (hcount : countT (cellsP ps) + d.n ≤ 4611686018427387904) :
    Calls Try.prog 57 #[v, vm] w (PutPost w0 (put1 m (cellsP ps) d)) := by
  have one : ∀ {p : CellD → Prop}, p d → ∀ c ∈ [d], p c := fun h c hc => by
    obtain rfl : c = d := by simpa using hc
    exact h
  have e : countT [d] = d.n := by simp [countT, Put.total]
  exact rput_gen m w0 w w v vm ps [d] hw ho hmore (fun k wr hk _ h => h (by simpa using hk)) hr (one ha) (one hn) (one hl) hm (by simpa using hlen) (by rw [e]; exact hcount)
end Go.Proofs.Ytdgeinipdphoeaa
/- Rollup: a row's cell, by the program. -/
namespace Go.Proofs.Ytdgeinipdphoeaa
set_option linter.unusedVariables false
set_option linter.unusedSimpArgs false
set_option maxRecDepth 100000
open Go.ChangeShapes Go.WideShapes Go.ChangeAt Go.RowKit

/-- A schema. -/
structure SchD where
  ds : List ByteArray
  ms : List ByteArray
  g : Int
def okSch (s : SchD) : Bool := rightS s.ds s.ms s.g
def fitsR (s : SchD) (r : RowD) : Bool := fitsS s.ds s.ms s.g r.t r.l r.xs.length
/-- A row's cell. -/
def ofC (s : SchD) (r : RowD) : CellD := ⟨cutV r.t s.g, r.l, 1, r.xs, r.xs, r.xs⟩
def ofE (s : SchD) (r : RowD) : Int := if okSch s = true then (if fitsR s r = true then 0 else 101) else 100
theorem fits_cut {s : SchD} {r : RowD} (h : fitsR s r = true) : cutE r.t s.g = 0 := by
  unfold fitsR fitsS rightS at h
  simp only [Bool.and_eq_true, decide_eq_true_eq] at h
  obtain ⟨⟨_, _, h1, _⟩, h2, _⟩ := h
  unfold cutE isTimeB isGrainB
  rw [if_pos (by simp; omega)]
theorem fits_len {s : SchD} {r : RowD} (h : fitsR s r = true) : r.xs.length = s.ms.length ∧ s.ms.length ≤ 4 ∧ r.l.length ≤ 6 ∧ (∀ v ∈ r.l, okV v = true) ∧ okSch s = true := by
  unfold fitsR fitsS at h
  simp only [Bool.and_eq_true, decide_eq_true_eq] at h
  obtain ⟨h0, h2, h3, h4, h5⟩ := h
  have h0' := h0
  unfold rightS at h0
  simp only [Bool.and_eq_true, decide_eq_true_eq] at h0
  obtain ⟨h6, h7, _⟩ := h0
  exact ⟨h4, h7, by omega, fun v hv => List.all_eq_true.1 h5 v hv, h0'⟩
abbrev zeroC : Value := .agg #[.int .i64 0, .slice none 0 0, .int .i64 0, .slice none 0 0, .slice none 0 0, .slice none 0 0]
def OfPost (s : SchD) (r : RowD) (w : World) (e : Ending) (w' : World) : Prop :=
  Below w.heap.size w w' ∧ ((ofE s r = 0 ∧ ∃ u : CellV, e = .returned (.tuple #[.agg #[.int .i64 (cutV r.t s.g), u.vl, .int .i64 1, u.vs, u.vm, u.vx], .int .i64 0]) ∧ OwnC w' w.heap.size u (ofC s r) ∧ u.blks.Nodup) ∨ (¬ ofE s r = 0 ∧ e = .returned (.tuple #[zeroC, .int .i64 (ofE s r)])))

set_option maxHeartbeats 2000000 in
theorem rollOf_bad (s : SchD) (r : RowD) (vd vm vl vn : Value) (w : World) (hd : StrsSl w vd s.ds) (hm : StrsSl w vm s.ms) (td : Texts s.ds) (tm : Texts s.ms) (hl : ValsSl w vl r.l) (tl : Vals r.l) (hn : IntsSl w vn r.xs) (hbad : ¬ ofE s r = 0) :
    Calls Try.prog 29 #[.agg #[vd, vm, .int .i64 s.g], .agg #[.int .i64 r.t, vl, vn]] w (OfPost s r w) := by
  have HR := hid (fun W (h : Below w.heap.size w W) => right_any vd vm s.ds s.ms s.g W (hd.below h) (hm.below h) td tm)
  have HF := hid (fun W (h : Below w.heap.size w W) => fits_any vd vm vl vn s.ds s.ms s.g r.t r.l r.xs.length _ W (hd.below h) (hm.below h) td tm (hl.below h) tl (SlAt.below hn h))
  obtain ⟨ad, cd, rfl, _, _, _⟩ := SlAt.shape hd
  obtain ⟨am, cm, rfl, _, _, _⟩ := SlAt.shape hm
  obtain ⟨al, cl, rfl, _, _, _⟩ := SlAt.shape hl
  obtain ⟨an, cn, rfl, _, _, _⟩ := SlAt.shape hn
  clear hd hm hl hn td tm tl
  by_cases h1 : okSch s = true
  · by_cases h2 : fitsR s r = true
    · exact absurd (show ofE s r = 0 by unfold ofE; rw [if_pos h1, if_pos h2]) hbad
    · have HE : Hid (ofE s r = 101) := by unfold Hid ofE; rw [if_pos h1, if_neg h2]
      have h2' : fitsR s r = false := by simpa using h2
      unfold okSch at h1
      unfold fitsR at h2'
      rw [h1] at HR
      rw [h2'] at HF
      clear h1 h2 h2' hbad
      go_enter Try.func29, Try.ntmps29
      go_wp2_with (first
        | (go_at_call 21; ((with_reducible refine (HR.out _ (by (repeat' (first | (with_reducible exact Below.refl _ _) | (with_reducible assumption) | (with_reducible refine Below.new ?_ _) | (with_reducible refine Below.alloc ?_ ?_ _) | (with_reducible refine Below.drew ?_) | (with_reducible refine Below.drewN ?_ _) | (with_reducible refine Below.setCell ?_ ?_ _) | (refine Below.step ?_ (by assumption)) | go_size)))).mono ?_); rintro e w1 ⟨rfl, hb1⟩; obtain ⟨hc1, hf1, hk1, hz1⟩ := bcell3 hb1; (try simp only [World.size_alloc, World.size_drew] at hz1); have : w.heap.size < w1.heap.size := (by omega); have : w.heap.size + 1 < w1.heap.size := (by omega); have : w.heap.size + 1 + 1 < w1.heap.size := (by omega)))
        | (go_at_call 23; ((with_reducible refine (HF.out _ (by (repeat' (first | (with_reducible exact Below.refl _ _) | (with_reducible assumption) | (with_reducible refine Below.new ?_ _) | (with_reducible refine Below.alloc ?_ ?_ _) | (with_reducible refine Below.drew ?_) | (with_reducible refine Below.drewN ?_ _) | (with_reducible refine Below.setCell ?_ ?_ _) | (refine Below.step ?_ (by assumption)) | go_size)))).mono ?_); rintro e w2 ⟨rfl, hb2⟩; obtain ⟨hc2, hf2, hk2, hz2⟩ := bcell3 hb2; (try simp only [World.size_alloc, World.size_drew] at hz2); have : w.heap.size < w2.heap.size := (by omega); have : w.heap.size + 1 < w2.heap.size := (by omega); have : w.heap.size + 1 + 1 < w2.heap.size := (by omega))))
      ((show bodyPost _ _ _ _ _ _); refine bodyPost_ret (by simp only [results, Try.results29]; go_simp; try rfl) rfl ?_)
      exact ⟨by (repeat' (first | (with_reducible exact Below.refl _ _) | (with_reducible assumption) | (with_reducible refine Below.new ?_ _) | (with_reducible refine Below.alloc ?_ ?_ _) | (with_reducible refine Below.drew ?_) | (with_reducible refine Below.drewN ?_ _) | (with_reducible refine Below.setCell ?_ ?_ _) | (refine Below.step ?_ (by assumption)) | go_size)), .inr ⟨by rw [HE.out]; decide, by rw [HE.out]⟩⟩
  · have HE : Hid (ofE s r = 100) := by unfold Hid ofE; rw [if_neg h1]
    have h1' : okSch s = false := by simpa using h1
    unfold okSch at h1'
    rw [h1'] at HR
    clear h1 h1' hbad
    go_enter Try.func29, Try.ntmps29
    go_wp2_with (first
      | (go_at_call 21; ((with_reducible refine (HR.out _ (by (repeat' (first | (with_reducible exact Below.refl _ _) | (with_reducible assumption) | (with_reducible refine Below.new ?_ _) | (with_reducible refine Below.alloc ?_ ?_ _) | (with_reducible refine Below.drew ?_) | (with_reducible refine Below.drewN ?_ _) | (with_reducible refine Below.setCell ?_ ?_ _) | (refine Below.step ?_ (by assumption)) | go_size)))).mono ?_); rintro e w1 ⟨rfl, hb1⟩; obtain ⟨hc1, hf1, hk1, hz1⟩ := bcell3 hb1; (try simp only [World.size_alloc, World.size_drew] at hz1); have : w.heap.size < w1.heap.size := (by omega); have : w.heap.size + 1 < w1.heap.size := (by omega); have : w.heap.size + 1 + 1 < w1.heap.size := (by omega))))
    ((show bodyPost _ _ _ _ _ _); refine bodyPost_ret (by simp only [results, Try.results29]; go_simp; try rfl) rfl ?_)
    exact ⟨by (repeat' (first | (with_reducible exact Below.refl _ _) | (with_reducible assumption) | (with_reducible refine Below.new ?_ _) | (with_reducible refine Below.alloc ?_ ?_ _) | (with_reducible refine Below.drew ?_) | (with_reducible refine Below.drewN ?_ _) | (with_reducible refine Below.setCell ?_ ?_ _) | (refine Below.step ?_ (by assumption)) | go_size)), .inr ⟨by rw [HE.out]; decide, by rw [HE.out]⟩⟩

theorem wcells_snoc {xs : List Int} {k : Nat} (hk : k < xs.length) : (xs.take (k + 1)).flatMap wcells = (xs.take k).flatMap wcells ++ [.int .i64 (hiW xs[k]), .int .u64 (loW xs[k])] := by
  rw [List.take_succ_eq_append_getElem hk, List.flatMap_append]; simp [wcells]
theorem six_free {w : World} {b : Nat} {cs : Array Value} {t : TypeId} (h : w.heap[b]? = some (.cells cs t (0, 0))) : w.frozen? ⟨b, 0, none⟩ = false ∧ w.frozen? ⟨b, 1, none⟩ = false ∧ w.frozen? ⟨b, 2, none⟩ = false ∧ w.frozen? ⟨b, 3, none⟩ = false ∧ w.frozen? ⟨b, 4, none⟩ = false ∧ w.frozen? ⟨b, 5, none⟩ = false :=
  ⟨blk_free h, blk_free h, blk_free h, blk_free h, blk_free h, blk_free h⟩
set_option maxHeartbeats 4000000 in
theorem rollOf_good (s : SchD) (r : RowD) (vd vm vl vn : Value) (w : World) (hd : StrsSl w vd s.ds) (hm : StrsSl w vm s.ms) (td : Texts s.ds) (tm : Texts s.ms) (hl : ValsSl w vl r.l) (tl : Vals r.l) (hn : IntsSl w vn r.xs) (hx : ∀ x ∈ r.xs, I64 x) (hf : fitsR s r = true) :
    Calls Try.prog 29 #[.agg #[vd, vm, .int .i64 s.g], .agg #[.int .i64 r.t, vl, vn]] w (OfPost s r w) := by
  obtain ⟨i0, hi, hiz0, hiz1, hiz2⟩ := info_parts info_wide
  obtain ⟨f1, f2, f3, _, f5⟩ := fits_len hf
  have f4 : r.xs.length ≤ 4 := by omega
  have HE : Hid (ofE s r = 0) := by unfold Hid ofE; rw [if_pos f5, if_pos hf]
  have HR := hid (fun W (h : Below w.heap.size w W) => right_any vd vm s.ds s.ms s.g W (hd.below h) (hm.below h) td tm)
  have HF := hid (fun W (h : Below w.heap.size w W) => fits_any vd vm vl vn s.ds s.ms s.g r.t r.l r.xs.length _ W (hd.below h) (hm.below h) td tm (hl.below h) tl (SlAt.below hn h))
  have HG := hid (fun W => gcut_any r.t s.g W)
  rw [fits_cut hf] at HG
  have f5' : rightS s.ds s.ms s.g = true := f5
  have hf' : fitsS s.ds s.ms s.g r.t r.l r.xs.length = true := hf
  rw [f5'] at HR
  rw [hf'] at HF
  have HX := hid (fun k (hk : k < r.xs.length) => of_any r.xs[k] (hx _ (List.getElem_mem hk)))
  have HSN := hid (fun k (hk : k < r.xs.length) => wcells_snoc hk)
  have HOW := hid (fun W vs (h : Below w.heap.size w W) (h2 : WidesSl W vs r.xs) => own_is (ofC s r) vl vs vn vn W (hl.below h) h2 (hn.below h) (hn.below h) (by show r.l.length ≤ _; omega) (by show r.xs.length ≤ _; omega) (by show r.xs.length ≤ _; omega) (by show r.xs.length ≤ _; omega))
  have HN := hid hn; have HL := hid hl
  obtain ⟨ad, cd, rfl, _, _, _⟩ := SlAt.shape hd
  obtain ⟨am, cm, rfl, _, _, _⟩ := SlAt.shape hm
  obtain ⟨al, cl, rfl, _, _, _⟩ := SlAt.shape hl
  obtain ⟨an, cn, rfl, _, _, _⟩ := SlAt.shape hn
  clear hd hm hl hn td tm tl hf hf' f5 f5' f1 f2
  unfold ofC at HOW
  simp only at HOW
  obtain ⟨T, hT⟩ : ∃ T, cutV r.t s.g = T := ⟨_, rfl⟩
  rw [hT] at HG HOW
  have HTT := hid hT; clear hT
  go_enter Try.func29, Try.ntmps29
  go_wp2_with (first
    | (go_at_call 21; ((with_reducible refine (HR.out _ (by (repeat' (first | (with_reducible exact Below.refl _ _) | (with_reducible assumption) | (with_reducible refine Below.new ?_ _) | (with_reducible refine Below.alloc ?_ ?_ _) | (with_reducible refine Below.drew ?_) | (with_reducible refine Below.drewN ?_ _) | (with_reducible refine Below.setCell ?_ ?_ _) | (refine Below.step ?_ (by assumption)) | go_size)))).mono ?_); rintro e w1 ⟨rfl, hb1⟩; obtain ⟨hc1, hf1, hk1, hz1⟩ := bcell3 hb1; (try simp only [World.size_alloc, World.size_drew] at hz1); have : w.heap.size < w1.heap.size := (by omega); have : w.heap.size + 1 < w1.heap.size := (by omega); have : w.heap.size + 1 + 1 < w1.heap.size := (by omega)))
    | (go_at_call 23; ((with_reducible refine (HF.out _ (by (repeat' (first | (with_reducible exact Below.refl _ _) | (with_reducible assumption) | (with_reducible refine Below.new ?_ _) | (with_reducible refine Below.alloc ?_ ?_ _) | (with_reducible refine Below.drew ?_) | (with_reducible refine Below.drewN ?_ _) | (with_reducible refine Below.setCell ?_ ?_ _) | (refine Below.step ?_ (by assumption)) | go_size)))).mono ?_); rintro e w2 ⟨rfl, hb2⟩; obtain ⟨hc2, hf2, hk2, hz2⟩ := bcell3 hb2; (try simp only [World.size_alloc, World.size_drew] at hz2); have : w.heap.size < w2.heap.size := (by omega); have : w.heap.size + 1 < w2.heap.size := (by omega); have : w.heap.size + 1 + 1 < w2.heap.size := (by omega)))
    | (go_at_call 60; ((with_reducible refine (HG.out _).mono ?_); rintro e w3 ⟨rfl, hb3⟩; obtain ⟨hc3, hf3, hk3, hz3⟩ := bcell3 hb3; (try simp only [World.size_alloc, World.size_drew] at hz3); have : w.heap.size < w3.heap.size := (by omega); have : w.heap.size + 1 < w3.heap.size := (by omega); have : w.heap.size + 1 + 1 < w3.heap.size := (by omega))))
  have hz2 : w.heap.size + 1 + 1 < w3.heap.size := by assumption
  have hB3 : Below w.heap.size w w3 := by (repeat' (first | (with_reducible exact Below.refl _ _) | (with_reducible assumption) | (with_reducible refine Below.new ?_ _) | (with_reducible refine Below.alloc ?_ ?_ _) | (with_reducible refine Below.drew ?_) | (with_reducible refine Below.drewN ?_ _) | (with_reducible refine Below.setCell ?_ ?_ _) | (refine Below.step ?_ (by assumption)) | go_size))
  have hk2 : w3.heap[w.heap.size + 1 + 1]? = some (.cells #[.int .i64 0, .slice none 0 0, .int .i64 0, .slice none 0 0, .slice none 0 0, .slice none 0 0] 46 (0, 0)) :=
    blk_below (blk_below (blk_below (heap_at (by simp)) hb1) hb2) hb3
  have HB3 := hid hB3; have HK2 := hid hk2
  have hzw := hB3.size
  clear hb1 hc1 hf1 hk1 hz1 hb2 hc2 hf2 hk2 hz2 hb3 hc3 hf3 hk3 hz3 HR HF HG hB3
  obtain ⟨N, hN⟩ : ∃ N, r.xs.length = N := ⟨_, rfl⟩
  have HNN := hid hN
  rw [hN] at f4 ⊢
  clear hN
  obtain ⟨B8, hB8⟩ : ∃ B, w3.heap.size = B := ⟨_, rfl⟩
  have HZ8 : Hid (w.heap.size + 1 + 1 < B8) := by unfold Hid; rw [← hB8]; exact blk_lt HK2.out
  have hzB : w.heap.size + 1 + 1 < B8 := HZ8.out
  have hS8 : (w3.alloc (.cells #[.int .i64 T, .slice al r.l.length cl, .int .i64 1, .slice none 0 0, .slice an N cn, .slice an N cn] 87)).heap[B8]? = some (.cells #[.int .i64 T, .slice al r.l.length cl, .int .i64 1, .slice none 0 0, .slice an N cn, .slice an N cn] 87 (0, 0)) := by rw [← hB8]; exact heap_at rfl
  have hS2 : (w3.alloc (.cells #[.int .i64 T, .slice al r.l.length cl, .int .i64 1, .slice none 0 0, .slice an N cn, .slice an N cn] 87)).heap[w.heap.size + 1 + 1]? = _ := blk_below HK2.out ((Below.refl _ _).alloc (Nat.le_refl _) _)
  have hSB : Below w.heap.size w (w3.alloc (.cells #[.int .i64 T, .slice al r.l.length cl, .int .i64 1, .slice none 0 0, .slice an N cn, .slice an N cn] 87)) := HB3.out.new _
  have HH := hid (And.intro hS8 (And.intro hS2 hSB))
  rw [hB8]
  clear hS8 hS2 hSB hB8
  go_loopw [42] (fun i wr => ∃ (k : Nat) (v : Value), k ≤ N ∧ i = .int .i64 (k : Nat) ∧ wr.heap[B8]? = some (.cells #[.int .i64 T, .slice al r.l.length cl, .int .i64 1, v, .slice an N cn, .slice an N cn] 87 (0, 0)) ∧ wr.heap[w.heap.size + 1 + 1]? = some (.cells #[.int .i64 0, .slice none 0 0, .int .i64 0, .slice none 0 0, .slice none 0 0, .slice none 0 0] 46 (0, 0)) ∧ wr.ownsRow (B8 + 1) 58 2 v k ((r.xs.take k).flatMap wcells) ∧ Below w.heap.size w wr) (fun i _ => N - (intOf i).toNat)
  case atStart => exact ⟨0, _, Nat.zero_le _, rfl, HH.out.1, HH.out.2.1, World.ownsRow_nil _ _ _ _, HH.out.2.2⟩
  case round =>
    obtain ⟨k, v, hk, rfl, hb8, hb2, hown, hbel⟩ := hrel
    clear HH
    by_cases hkN : k < N
    · have hlen : k < r.xs.length := by rw [HNN.out]; exact hkN
      obtain ⟨b, off, rfl, hcell⟩ := (SlAt.parts HN.out).2.2.2.2 (by simp; omega)
      have ck := hcell k (.int .i64 r.xs[k]) (by rw [List.getElem?_map, List.getElem?_eq_getElem hlen]; rfl)
      have dk := cell_step ck hbel
      have HXK := hid (HX.out k hlen); have HSK := hid (HSN.out k hlen)
      have z8 := blk_lt hb8
      obtain ⟨c0, c1, c2, c3, c4, c5⟩ := six_at hb8
      have f3 : wr.frozen? ⟨B8, 3, none⟩ = false := blk_free hb8
      have H8 := hid hb8; have H2 := hid hb2; have HO := hid hown; have HB := hid hbel
      obtain ⟨va, vc, hv⟩ := row_shape hown
      subst hv
      have g1 : (0 : Int) ≤ (k : Int) := Int.natCast_nonneg _
      have g2 : (k : Int) < (N : Int) := by omega
      generalize r.xs[k] = x at *
      clear hcell ck hb8 hb2 hown hbel
      go_wp2
      have hS0 : (fun w' : World => w'.cell? ⟨B8, 3, none⟩ = some (.slice va k vc)) wr.drew := c3
      refine wp_region_some (fun w' : World => w'.cell? ⟨B8, 3, none⟩ = some (.slice va k vc)) [6, 7, 8, 9] (by kernel_rfl) ?_
      (refine wpMix_take (i := 0) (v := ?_) rfl (by kernel_rfl) (fun _ _ _ h => h) (Or.inl ⟨by rfl, ?_⟩) hS0 ?_; rotate_left 1; (focus (intro w hSw; (try dsimp only at hSw); go_simp; try (with_reducible rfl))); (try simp only [Act.put, List.setIfInBounds_toArray, List.set_cons_zero, List.set_cons_succ]))
      (refine wpMix_take (i := 1) (v := ?_) rfl (by kernel_rfl) (fun _ _ _ h => h) (Or.inl ⟨by rfl, ?_⟩) hS0 ?_; rotate_left 1; (focus (intro w hSw; (try dsimp only at hSw); go_simp; try (with_reducible rfl))); (try simp only [Act.put, List.setIfInBounds_toArray, List.set_cons_zero, List.set_cons_succ]))
      (refine wpMix_take (i := 2) (v := ?_) rfl (by kernel_rfl) (fun _ _ _ h => h) (Or.inl ⟨by rfl, ?_⟩) hS0 ?_; rotate_left 1; (focus (intro w hSw; (try dsimp only at hSw); go_simp; try (with_reducible rfl))); (try simp only [Act.put, List.setIfInBounds_toArray, List.set_cons_zero, List.set_cons_succ]))
      (refine wpMix_take (i := 3) (v := ?_) rfl (by kernel_rfl) (fun _ _ _ h => h) (Or.inl ⟨by rfl, ?_⟩) hS0 ?_; rotate_left 1; (focus (intro w hSw; (try dsimp only at hSw); go_simp; try (with_reducible rfl))); (try simp only [Act.put, List.setIfInBounds_toArray, List.set_cons_zero, List.set_cons_succ]))
      refine wpMix_next (t := 4) (by kernel_rfl) ?_
      simp only [opsAt, List.flatMap_cons, List.flatMap_nil, List.take_succ_cons, List.take_zero, List.drop_succ_cons, List.drop_zero, List.append_nil, List.cons_append, List.nil_append]
      go_wp2_with (go_at_call 55; go_loud ((with_reducible refine (HXK.out _).mono ?_); rintro e w4 ⟨rfl, hb4⟩))
      replace hb4 : Below wr.heap.size wr w4 := (Below.drew (Below.refl _ _)).trans hb4
      refine ⟨cell_step c3 hb4, ?_⟩
      refine wpMix_next (t := 5) (by kernel_rfl) ?_
      simp only [opsAt, List.flatMap_cons, List.flatMap_nil, List.take_succ_cons, List.take_zero, List.drop_succ_cons, List.drop_zero, List.append_nil, List.cons_append, List.nil_append]
      go_wp2
      refine ⟨cell_new (w := w4) (cell_step c3 hb4) _, ?_⟩
      refine wpMix_rest [6, 7, 8, 9] (by kernel_rfl) ?_
      simp only [opsAt, List.flatMap_cons, List.flatMap_nil, List.take_succ_cons, List.take_zero, List.drop_succ_cons, List.drop_zero, List.append_nil, List.cons_append, List.nil_append]
      have hz4 := hb4.size
      go_wp2_with (at_builtin; go_loud (refine wpList_append_sl _ rfl _ _ 44 rfl (B8 + 1) 58 i0 (.agg #[.int .i64 0, .int .u64 0]) 2 16 Try.underlying44 hi hiz0 hiz1 hiz2 rfl (by decide) (.slice va k vc) k _ rfl ((row_below HO.out hb4).alloc _) (.slice (some ⟨w4.heap.size, 0, none⟩) 1 1) 1 [.int .i64 (hiW x), .int .u64 (loW x)] rfl (SlAt.new w4 #[.int .i64 (hiW x), .int .u64 (loW x)] 58) (by simp [Value.oneCell']) (by unfold maxLen; omega) (by omega) (by simp; omega) ?_); intro v1 w5 hown5 hg5 hb5; obtain ⟨pa, pc, hv1⟩ := row_shape hown5; subst hv1; have hbk : w5.heap[B8]? = some (.cells #[.int .i64 T, .slice al r.l.length cl, .int .i64 1, .slice va k vc, .slice (some ⟨b, off, none⟩) N cn, .slice (some ⟨b, off, none⟩) N cn] 87 (0, 0)) := own_blk ((row_below HO.out hb4).alloc _) hg5 (by omega) ((heap_past (by omega)).trans (blk_below H8.out hb4)); have hbk2 : w5.heap[w.heap.size + 1 + 1]? = some (.cells #[.int .i64 0, .slice none 0 0, .int .i64 0, .slice none 0 0, .slice none 0 0, .slice none 0 0] 46 (0, 0)) := own_blk ((row_below HO.out hb4).alloc _) hg5 (by omega) ((heap_past (by omega)).trans (blk_below H2.out hb4)); have e3 : w5.cell? ⟨B8, 3, none⟩ = some (.slice va k vc) := (six_at hbk).2.2.2.1; have e4 : w5.frozen? ⟨B8, 3, none⟩ = false := blk_free hbk; have hbw : Below w.heap.size w w5 := own_below ((row_below HO.out hb4).alloc _) hg5 ((HB.out.step hb4).new _) (by omega); have H5 := hid (And.intro hown5 (And.intro hbk (And.intro hbk2 hbw))); clear hown5 hbk hbk2 hbw hg5 hb5)
      go_roundw
      case rel =>
        obtain ⟨r1, r2, r3, r4⟩ := H5.out
        refine ⟨k + 1, _, hkN, by go_num, by simpa using blk_set (o := 3) (v := .slice pa (k + 1) pc) r2, (heap_set_other (by omega)).trans r3, ?_, r4.setCell (by simp; omega) _⟩
        rw [HSK.out]
        exact row_far r1 (by omega)
      case measure => simp [intOf]; omega
    · obtain rfl : k = N := by omega
      rw [List.take_of_length_le (by rw [HNN.out]; exact Nat.le_refl _)] at hown
      have hws : WidesSl wr v r.xs := WidesSl.own hown
      have hv := hws.shape
      rw [HNN.out] at hv
      obtain ⟨va, vc, rfl, _⟩ := hv
      obtain ⟨c0, c1, c2, c3, c4, c5⟩ := six_at hb8
      have HOW2' := HOW.out wr _ hbel hws
      rw [HNN.out] at HOW2'
      have HOW2 := hid HOW2'
      clear HOW2'
      have HB := hid hbel
      have H2 := hid hb2
      have hz8 := blk_lt hb8
      have hz2 := blk_lt hb2
      clear hws hown hb8 hbel
      go_wp2_with (go_at_call 61; go_loud ((with_reducible refine HOW2.out.mono ?_); rintro e w4 ⟨⟨ul, us, um, ux⟩, rfl, ho2, hn2, hb4⟩; obtain ⟨la, lc, e1⟩ := row_shape ho2.l; obtain ⟨sa, sc, e2⟩ := row_shape ho2.s; obtain ⟨ma, mc, e3⟩ := row_shape ho2.m; obtain ⟨xa, xc, e4⟩ := row_shape ho2.x; dsimp only at e1 e2 e3 e4; subst e1; subst e2; subst e3; subst e4; have q2 := blk_below H2.out hb4; obtain ⟨a0, a1, a2, a3, a4, a5⟩ := six_at q2; obtain ⟨p0, p1, p2, p3, p4, p5⟩ := six_free q2; have H4 := hid (And.intro ho2 (And.intro hn2 hb4)); clear ho2 hn2 hb4 q2))
      ((show bodyPost _ _ _ _ _ _); refine bodyPost_ret (by simp only [results, Try.results29]; go_simp; try rfl) rfl ?_)
      have HD : ofC s r = ⟨T, r.l, 1, r.xs, r.xs, r.xs⟩ := by unfold ofC; rw [HTT.out]
      have hfin := H4.out
      refine ⟨?_, .inl ⟨HE.out, ⟨_, _, _, _⟩, by rw [HTT.out], ?_, hfin.2.1⟩⟩
      · have h := HB.out.step hfin.2.2
        (repeat' (first | (with_reducible exact Below.refl _ _) | (with_reducible assumption) | (with_reducible refine Below.new ?_ _) | (with_reducible refine Below.alloc ?_ ?_ _) | (with_reducible refine Below.drew ?_) | (with_reducible refine Below.drewN ?_ _) | (with_reducible refine Below.setCell ?_ ?_ _) | (refine Below.step ?_ (by assumption)) | go_size))
      · rw [HD]
        have ht : TurnO [w.heap.size + 1 + 1] w4 _ := ((((((TurnO.refl [w.heap.size + 1 + 1] w4).setCell (b := w.heap.size + 1 + 1) (o := 0) (s := none) (.inl (by simp)) (.int .i64 T)).setCell (b := w.heap.size + 1 + 1) (o := 1) (s := none) (.inl (by simp)) (.slice la r.l.length lc)).setCell (b := w.heap.size + 1 + 1) (o := 2) (s := none) (.inl (by simp)) (.int .i64 1)).setCell (b := w.heap.size + 1 + 1) (o := 3) (s := none) (.inl (by simp)) (.slice sa r.xs.length sc)).setCell (b := w.heap.size + 1 + 1) (o := 4) (s := none) (.inl (by simp)) (.slice ma r.xs.length mc)).setCell (b := w.heap.size + 1 + 1) (o := 5) (s := none) (.inl (by simp)) (.slice xa r.xs.length xc)
        exact (hfin.1.turn ht (fun q hq hq2 => by
          have h1 := (hfin.1.lt q hq).1
          have h2 : q = w.heap.size + 1 + 1 := by simpa using hq2
          omega)).le HB.out.size
theorem rollOf_any (s : SchD) (r : RowD) (vd vm vl vn : Value) (w : World) (hd : StrsSl w vd s.ds) (hm : StrsSl w vm s.ms) (td : Texts s.ds) (tm : Texts s.ms) (hl : ValsSl w vl r.l) (tl : Vals r.l) (hn : IntsSl w vn r.xs) (hx : ∀ x ∈ r.xs, I64 x) :
    Calls Try.prog 29 #[.agg #[vd, vm, .int .i64 s.g], .agg #[.int .i64 r.t, vl, vn]] w (OfPost s r w) := by
  by_cases h : ofE s r = 0
  · refine rollOf_good s r vd vm vl vn w hd hm td tm hl tl hn hx ?_
    unfold ofE at h
    split at h
    · split at h
      · assumption
      · cases h
    · cases h
  · exact rollOf_bad s r vd vm vl vn w hd hm td tm hl tl hn h
end Go.Proofs.Ytdgeinipdphoeaa
/- Rollup: cells, unless they are too many. -/
namespace Go.Proofs.Ytdgeinipdphoeaa
set_option linter.unusedVariables false
set_option linter.unusedSimpArgs false
set_option maxRecDepth 100000
open Go.ChangeShapes Go.WideShapes Go.ChangeAt Go.RowKit

theorem firstC (p : CellD → Bool) (l : List CellD) : (l.any p = false ∧ ∀ i (hi : i < l.length), p l[i] = false) ∨ (l.any p = true ∧ ∃ j, ∃ hj : j < l.length, p l[j] = true ∧ ∀ i (hi : i < j), p (l[i]'(Nat.lt_trans hi hj)) = false) := by
  induction l with
  | nil => exact .inl ⟨rfl, fun i hi => absurd hi (Nat.not_lt_zero i)⟩
  | cons x xs ih =>
    by_cases hx : p x = true
    · exact .inr ⟨by simp [hx], 0, by simp, by simpa using hx, fun i hi => absurd hi (Nat.not_lt_zero i)⟩
    · have hx' : p x = false := by simpa using hx
      rcases ih with ⟨h1, h2⟩ | ⟨h1, j, h2, h3, h4⟩
      · refine .inl ⟨by simp [hx', h1], fun i hi => ?_⟩
        cases i with
        | zero => simpa using hx
        | succ i => simpa using h2 i (by simpa using hi)
      · refine .inr ⟨by simp [hx', h1], j + 1, by simpa using h2, by simpa using h3, fun i hi => ?_⟩
        cases i with
        | zero => simpa using hx
        | succ i => simpa using h4 i (by omega)
def manyB (c : CellD) : Bool := decide (1000000 < c.n)
theorem ends1_any (c : CellD) (vl vs vm vx : Value) (w : World) (h : CellIs w [.int .i64 c.t, vl, .int .i64 c.n, vs, vm, vx] c) : Calls Try.prog 84 #[.agg #[.int .i64 c.t, vl, .int .i64 c.n, vs, vm, vx]] w fun e w' => e = .returned (.bool (manyB c)) ∧ Below w.heap.size w w' := by
  obtain ⟨_, _, _, _, e, g1, g2, g3, g4⟩ := h
  simp only [List.cons.injEq, and_true, true_and] at e
  obtain ⟨rfl, rfl, rfl, rfl⟩ := e
  obtain ⟨_, _, rfl, _⟩ := SlAt.shape g1
  obtain ⟨_, _, rfl, _⟩ := SlAt.shape g2
  obtain ⟨_, _, rfl, _⟩ := SlAt.shape g3
  obtain ⟨_, _, rfl, _⟩ := SlAt.shape g4
  unfold manyB
  clear g1 g2 g3 g4
  generalize c.n = n
  generalize c.t = t
  generalize c.l.length = m1
  generalize c.sums.length = m2
  generalize c.mins.length = m3
  generalize c.maxs.length = m4
  go_enter Try.func84, Try.ntmps84
  go_wp2
  go_ret
  exact ⟨rfl, by (repeat' (first | (with_reducible exact Below.refl _ _) | (with_reducible assumption) | (with_reducible refine Below.new ?_ _) | (with_reducible refine Below.alloc ?_ ?_ _) | (with_reducible refine Below.drew ?_) | (with_reducible refine Below.drewN ?_ _) | (with_reducible refine Below.setCell ?_ ?_ _) | (refine Below.step ?_ (by assumption)) | go_size))⟩
set_option maxHeartbeats 1000000 in
theorem ends_idx (v : Value) (l : List CellD) (p : CellD → Bool) (w : World) (hv : CellsSl w v l) (hl : l.length ≤ 1000000) (HF : ∀ (c : CellD) (vl vs vm vx : Value) (W : World), c ∈ l → Below w.heap.size w W → CellIs W [.int .i64 c.t, vl, .int .i64 c.n, vs, vm, vx] c → Calls Try.prog 84 #[.agg #[.int .i64 c.t, vl, .int .i64 c.n, vs, vm, vx]] W fun e w' => e = .returned (.bool (p c)) ∧ Below W.heap.size W w') (j : Nat) (hj : j ≤ l.length) (hpre : ∀ i (hi : i < j), p (l[i]'(by omega)) = false) (hat : ∀ hj : j < l.length, p l[j] = true) :
    Calls Try.prog 99 #[v, .func (.func 84) #[] #[]] w fun e w' => e = .returned (.int .i64 (if j < l.length then (j : Int) else -1)) ∧ Below w.heap.size w w' := by
  obtain ⟨ao, cap, rfl, h1, h2, h3⟩ := hv.shape
  have HA := hid hv; have HP := hid hpre; have HT := hid hat; have HFF := hid HF
  obtain ⟨L, hL⟩ : ∃ L, l.length = L := ⟨_, rfl⟩
  have HL := hid hL
  rw [hL] at hj hl h1 ⊢
  clear hpre hat hL hv HF
  unfold maxLen at h2
  go_enter Try.func99, Try.ntmps99
  go_wp2
  go_loopw [8] (fun i wr => ∃ k : Nat, k ≤ j ∧ i = .int .i64 k ∧ Below w.heap.size w wr) (fun i _ => L - (intOf i).toNat)
  case atStart => exact ⟨0, Nat.zero_le _, rfl, Below.refl _ _⟩
  case round =>
    obtain ⟨k, hk, rfl, hbel⟩ := hrel
    by_cases hkL : k < L
    · have hlen : k < l.length := by rw [HL.out]; exact hkL
      have ha := HA.out
      obtain ⟨b, off, vl, vs, vm, vx, rfl, g1, g2, g3, g4, c0, c1, c2, c3, c4, c5⟩ := ha.at hlen
      replace c0 := cell_step c0 hbel; replace c1 := cell_step c1 hbel; replace c2 := cell_step c2 hbel; replace c3 := cell_step c3 hbel; replace c4 := cell_step c4 hbel; replace c5 := cell_step c5 hbel
      have hok : p l[k] = !decide (k < j) := by
        by_cases h : k < j
        · rw [HP.out k h]; simp [h]
        · obtain rfl : k = j := by omega
          rw [HT.out]; simp
      have HI := hid (HFF.out l[k] vl vs vm vx wr (List.getElem_mem hlen) hbel ⟨vl, vs, vm, vx, rfl, g1.below hbel, g2.below hbel, g3.below hbel, g4.below hbel⟩)
      rw [hok] at HI
      obtain ⟨_, _, rfl, _⟩ := SlAt.shape g1
      obtain ⟨_, _, rfl, _⟩ := SlAt.shape g2
      obtain ⟨_, _, rfl, _⟩ := SlAt.shape g3
      obtain ⟨_, _, rfl, _⟩ := SlAt.shape g4
      have HB := hid hbel
      clear g1 g2 g3 g4 ha hok hbel
      generalize l[k].t = t1 at *
      generalize l[k].n = n1 at *
      generalize l[k].l.length = m1 at *
      generalize l[k].sums.length = m2 at *
      generalize l[k].mins.length = m3 at *
      generalize l[k].maxs.length = m4 at *
      by_cases hkj : k < j
      · have hd : (!decide (k < j)) = false := by simp [hkj]
        rw [hd] at HI
        clear hd
        go_wp2_with (go_at_call 84; ((with_reducible refine HI.out.mono ?_); rintro e w2 ⟨rfl, hb2⟩))
        go_roundw
        case rel => exact ⟨k + 1, hkj, by go_num, by have := HB.out; (repeat' (first | (with_reducible exact Below.refl _ _) | (with_reducible assumption) | (with_reducible refine Below.new ?_ _) | (with_reducible refine Below.alloc ?_ ?_ _) | (with_reducible refine Below.drew ?_) | (with_reducible refine Below.drewN ?_ _) | (with_reducible refine Below.setCell ?_ ?_ _) | (refine Below.step ?_ (by assumption)) | go_size))⟩
        case measure => simp [intOf]; omega
      · have hd : (!decide (k < j)) = true := by simp [hkj]
        rw [hd] at HI
        clear hd
        obtain rfl : k = j := by omega
        have HE : Hid ((if k < L then (k : Int) else -1) = (k : Int)) := if_pos hkL
        go_wp2_with (go_at_call 84; ((with_reducible refine HI.out.mono ?_); rintro e w2 ⟨rfl, hb2⟩))
        go_ret
        exact ⟨rfl, by have := HB.out; (repeat' (first | (with_reducible exact Below.refl _ _) | (with_reducible assumption) | (with_reducible refine Below.new ?_ _) | (with_reducible refine Below.alloc ?_ ?_ _) | (with_reducible refine Below.drew ?_) | (with_reducible refine Below.drewN ?_ _) | (with_reducible refine Below.setCell ?_ ?_ _) | (refine Below.step ?_ (by assumption)) | go_size))⟩
    · have HE : Hid ((if j < L then (j : Int) else -1) = -1) := if_neg (by omega)
      have HB := hid hbel
      clear hbel
      go_wp2
      go_ret
      exact ⟨rfl, by have := HB.out; (repeat' (first | (with_reducible exact Below.refl _ _) | (with_reducible assumption) | (with_reducible refine Below.new ?_ _) | (with_reducible refine Below.alloc ?_ ?_ _) | (with_reducible refine Below.drew ?_) | (with_reducible refine Below.drewN ?_ _) | (with_reducible refine Below.setCell ?_ ?_ _) | (refine Below.step ?_ (by assumption)) | go_size))⟩
theorem ends_cont (v : Value) (l : List CellD) (p : CellD → Bool) (w : World) (hv : CellsSl w v l) (hl : l.length ≤ 1000000) (HF : ∀ (c : CellD) (vl vs vm vx : Value) (W : World), c ∈ l → Below w.heap.size w W → CellIs W [.int .i64 c.t, vl, .int .i64 c.n, vs, vm, vx] c → Calls Try.prog 84 #[.agg #[.int .i64 c.t, vl, .int .i64 c.n, vs, vm, vx]] W fun e w' => e = .returned (.bool (p c)) ∧ Below W.heap.size W w') :
    Calls Try.prog 69 #[v, .func (.func 84) #[] #[]] w fun e w' => e = .returned (.bool (l.any p)) ∧ Below w.heap.size w w' := by
  have H : ∃ r : Int, (l.any p) = decide (0 ≤ r) ∧ Calls Try.prog 99 #[v, .func (.func 84) #[] #[]] w fun e w' => e = .returned (.int .i64 r) ∧ Below w.heap.size w w' := by
    rcases firstC p l with ⟨h1, h2⟩ | ⟨h1, j, h2, h3, h4⟩
    · refine ⟨-1, by rw [h1]; rfl, ?_⟩
      refine (ends_idx v l p w hv hl HF l.length (Nat.le_refl _) (fun i hi => h2 i hi) (fun h => absurd h (Nat.lt_irrefl _))).mono fun e w' ⟨he, hw⟩ => ⟨?_, hw⟩
      rw [he, if_neg (Nat.lt_irrefl _)]
    · refine ⟨j, by rw [h1]; simp, ?_⟩
      refine (ends_idx v l p w hv hl HF j (by omega) h4 (fun _ => h3)).mono fun e w' ⟨he, hw⟩ => ⟨?_, hw⟩
      rw [he, if_pos h2]
  obtain ⟨r, hr, hc⟩ := H
  rw [hr]
  have HC := hid hc
  clear hr hc HF
  obtain ⟨ao, cap, rfl, _⟩ := hv.shape
  clear hv
  go_enter Try.func69, Try.ntmps69
  go_wp2_with (go_at_call 99; ((with_reducible refine (HC.out).mono ?_); rintro e w2 ⟨rfl, hb2⟩))
  go_ret
  exact ⟨rfl, by (repeat' (first | (with_reducible exact Below.refl _ _) | (with_reducible assumption) | (with_reducible refine Below.new ?_ _) | (with_reducible refine Below.alloc ?_ ?_ _) | (with_reducible refine Below.drew ?_) | (with_reducible refine Below.drewN ?_ _) | (with_reducible refine Below.setCell ?_ ?_ _) | (refine Below.step ?_ (by assumption)) | go_size))⟩
/-- Are cells not too many? -/
def endsB (l : List CellD) : Bool := decide (l.length ≤ 1000) && !l.any manyB
theorem rollEnds_any (v : Value) (l : List CellD) (w : World) (hv : CellsSl w v l) (hl : l.length ≤ 1000000) :
    Calls Try.prog 56 #[v] w fun e w' => e = .returned (.tuple #[if endsB l = true then v else .slice none 0 0, .int .i64 (if endsB l = true then 0 else 121)]) ∧ Below w.heap.size w w' := by
  have HC := hid (fun W (h : Below w.heap.size w W) => ends_cont v l manyB W (hv.below h) hl (fun c vl vs vm vx W' _ _ hc => ends1_any c vl vs vm vx W' hc))
  obtain ⟨ao, cap, rfl, _⟩ := hv.shape
  clear hv
  unfold endsB
  generalize l.any manyB = r at *
  obtain ⟨L, hL⟩ : ∃ L, l.length = L := ⟨_, rfl⟩
  rw [hL] at hl HC ⊢
  clear hL
  by_cases h : L ≤ 1000
  · have h1 : decide ((1000 : Int) < (L : Int)) = false := by simp; omega
    have h2 : decide ((L : Int) > 1000) = false := by simp; omega
    have h3 : decide (L ≤ 1000) = true := by simpa using h
    rw [h3, Bool.true_and]
    cases r with
    | true =>
      go_enter Try.func56, Try.ntmps56
      go_wp2_with (go_at_call 69; ((with_reducible refine (HC.out _ (Below.refl _ _)).mono ?_); rintro e w2 ⟨rfl, hb2⟩))
      go_ret2
      exact ⟨rfl, by (repeat' (first | (with_reducible exact Below.refl _ _) | (with_reducible assumption) | (with_reducible refine Below.new ?_ _) | (with_reducible refine Below.alloc ?_ ?_ _) | (with_reducible refine Below.drew ?_) | (with_reducible refine Below.drewN ?_ _) | (with_reducible refine Below.setCell ?_ ?_ _) | (refine Below.step ?_ (by assumption)) | go_size))⟩
    | false =>
      go_enter Try.func56, Try.ntmps56
      go_wp2_with (go_at_call 69; ((with_reducible refine (HC.out _ (Below.refl _ _)).mono ?_); rintro e w2 ⟨rfl, hb2⟩))
      go_ret2
      exact ⟨rfl, by (repeat' (first | (with_reducible exact Below.refl _ _) | (with_reducible assumption) | (with_reducible refine Below.new ?_ _) | (with_reducible refine Below.alloc ?_ ?_ _) | (with_reducible refine Below.drew ?_) | (with_reducible refine Below.drewN ?_ _) | (with_reducible refine Below.setCell ?_ ?_ _) | (refine Below.step ?_ (by assumption)) | go_size))⟩
  · have h1 : decide ((1000 : Int) < (L : Int)) = true := by simp; omega
    have h2 : decide ((L : Int) > 1000) = true := by simp; omega
    have h3 : decide (L ≤ 1000) = false := by simpa using h
    rw [h3, Bool.false_and]
    go_enter Try.func56, Try.ntmps56
    go_wp2
    go_ret2
    exact ⟨rfl, by (repeat' (first | (with_reducible exact Below.refl _ _) | (with_reducible assumption) | (with_reducible refine Below.new ?_ _) | (with_reducible refine Below.alloc ?_ ?_ _) | (with_reducible refine Below.drew ?_) | (with_reducible refine Below.drewN ?_ _) | (with_reducible refine Below.setCell ?_ ?_ _) | (refine Below.step ?_ (by assumption)) | go_size))⟩
end Go.Proofs.Ytdgeinipdphoeaa
/- Rollup: the walk of 'Roll'. -/
namespace Go.Proofs.Ytdgeinipdphoeaa
set_option linter.unusedVariables false
set_option linter.unusedSimpArgs false
set_option maxRecDepth 100000
open Go.ChangeShapes Go.WideShapes Go.ChangeAt Go.RowKit

theorem SlAt.new2 (w : World) (o : Obj) (cs : Array Value) (T : TypeId) : SlAt ((w.alloc o).alloc (.cells cs T)) (.slice (some ⟨w.heap.size + 1, 0, none⟩) 1 1) 1 cs.size cs.toList := by
  have := SlAt.new (w.alloc o) cs T
  simpa using this
theorem OwnCs.push {w w' : World} {B base : Nat} {v v' : Value} {ps : List CellP} {u : CellV} {c : CellD} (h : OwnCs w B v ps) (hp : OwnC w base u c) (hbase : B ≤ base) (hn : u.blks.Nodup) (hd : ∀ g ∈ u.blks, g ∉ ps.flatMap fun p => p.1.blks)
    (hg : w.grownBy w' v.ownBlock) (hown : w'.ownsRow B 46 6 v' (ps.length + 1) (ps.flatMap rowP ++ rowP (u, c))) : OwnCs w' B v' (ps ++ [(u, c)]) := by
  have hvu : ∀ g, v.ownBlock = some g → g ∉ u.blks := fun g hg hm => by
    obtain ⟨cur, h1⟩ := row_type h.row hg
    exact hp.not_blk h1 (by decide) (by decide) (by decide) hm
  have ht : TurnO v.ownBlock.toList w w' := ⟨hg.os, hg.tape, hg.output, hg.size, fun k hk hkT => hg.block k hk (fun e => hkT (by rw [← e]; simp))⟩
  refine ⟨by simpa using hown, fun p hpm => ?_, ?_⟩
  · rcases List.mem_append.1 hpm with hpm | hpm
    · exact (h.each p hpm).turn ht fun g hg hgT => by
        have : v.ownBlock = some g := by simpa using hgT
        exact h.out this (List.mem_flatMap.2 ⟨p, hpm, hg⟩)
    · obtain rfl : p = (u, c) := by simpa using hpm
      exact (hp.turn ht fun g hg hgT => hvu g (by simpa using hgT) hg).le hbase
  · rw [List.flatMap_append]
    refine List.nodup_append.2 ⟨h.nodup, by simpa using hn, fun a ha b hb e => ?_⟩
    have hb' : b ∈ u.blks := by simpa using hb
    exact hd b hb' (e ▸ ha)

theorem OwnCs.le {w : World} {B B' : Nat} {v : Value} {ps : List CellP} (h : OwnCs w B v ps) (hb : B' ≤ B) : OwnCs w B' v ps := ⟨h.row.base_le hb, fun p hp => (h.each p hp).le hb, h.nodup⟩
def rollL (s : SchD) (rows : List RowD) : List CellD := puts s.ms.length [] (rows.map (ofC s))
def rollE (s : SchD) (rows : List RowD) : Int := if okSch s = true then (if rows.all (fitsR s) = true then (if endsB (rollL s rows) = true then 0 else 121) else 101) else 100
/-- What is told of cells: they are the call's own, or none, and an error. -/
def CellsPost (w : World) (l : List CellD) (E : Int) (e : Ending) (w' : World) : Prop :=
  Below w.heap.size w w' ∧ ((E = 0 ∧ ∃ v ps, e = .returned (.tuple #[v, .int .i64 0]) ∧ OwnCs w' w.heap.size v ps ∧ cellsP ps = l) ∨ (¬ E = 0 ∧ e = .returned (.tuple #[.slice none 0 0, .int .i64 E])))
theorem ofC_ok {s : SchD} {r : RowD} (h : fitsR s r = true) : CellOk s.ms.length (ofC s r) := by
  obtain ⟨h1, _, _, h4, _⟩ := fits_len h
  exact ⟨h4, h1, h1, h1⟩
theorem ofE_fits {s : SchD} {r : RowD} (h : fitsR s r = true) : ofE s r = 0 := by
  unfold ofE; rw [if_pos (fits_len h).2.2.2.2, if_pos h]
theorem RowsSl.at {w : World} {ao : Option Addr} {cap : Nat} {l : List RowD} (h : RowsSl w (.slice ao l.length cap) l) {i : Nat} (hi : i < l.length) : ∃ b off vl vn, ao = some ⟨b, off, none⟩ ∧ ValsSl w vl l[i].l ∧ IntsSl w vn l[i].xs ∧
    w.cell? ⟨b, off + i * 3, none⟩ = some (.int .i64 l[i].t) ∧ w.cell? ⟨b, off + i * 3 + 1, none⟩ = some vl ∧ w.cell? ⟨b, off + i * 3 + 2, none⟩ = some vn := by
  obtain ⟨ao', cap', e, _, _, _, h⟩ := h
  simp only [Value.slice.injEq] at e
  obtain ⟨rfl, _, rfl⟩ := e
  obtain ⟨b, off, rfl, hc⟩ := h (by omega)
  obtain ⟨cs, _, ⟨vl, vn, rfl, h2, h3⟩, hcell⟩ := hc i hi
  exact ⟨b, off, vl, vn, rfl, h2, h3, hcell 0 _ rfl, hcell 1 _ rfl, hcell 2 _ rfl⟩
def RowsOk (rows : List RowD) : Prop := ∀ r ∈ rows, Vals r.l ∧ ∀ x ∈ r.xs, I64 x

theorem countT_ofC (s : SchD) (rows : List RowD) : countT (rows.map (ofC s)) = rows.length := by
  induction rows with
  | nil => rfl
  | cons r rows ih =>
    show (1 : Int) + countT (rows.map (ofC s)) = _
    rw [ih, List.length_cons]
    omega

theorem roll_bad (s : SchD) (rows : List RowD) (vd vm v : Value) (w : World) (hd : StrsSl w vd s.ds) (hm : StrsSl w vm s.ms) (td : Texts s.ds) (tm : Texts s.ms) (hv : RowsSl w v rows) (hbad : okSch s = false) :
    Calls Try.prog 27 #[.agg #[vd, vm, .int .i64 s.g], v] w (CellsPost w (rollL s rows) (rollE s rows)) := by
  have HR := hid (fun W (h : Below w.heap.size w W) => right_any vd vm s.ds s.ms s.g W (hd.below h) (hm.below h) td tm)
  have HE : Hid (rollE s rows = 100) := by unfold Hid rollE; rw [hbad]; rfl
  obtain ⟨ad, cd, rfl, _, _, _⟩ := SlAt.shape hd
  obtain ⟨am, cm, rfl, _, _, _⟩ := SlAt.shape hm
  obtain ⟨ao, cap, rfl, _⟩ := hv.shape
  unfold okSch at hbad
  rw [hbad] at HR
  clear hd hm hv td tm hbad
  go_enter Try.func27, Try.ntmps27
  go_wp2_with ((go_at_call 21; ((with_reducible refine (HR.out _ (by (repeat' (first | (with_reducible exact Below.refl _ _) | (with_reducible assumption) | (with_reducible refine Below.new ?_ _) | (with_reducible refine Below.alloc ?_ ?_ _) | (with_reducible refine Below.drew ?_) | (with_reducible refine Below.drewN ?_ _) | (with_reducible refine Below.setCell ?_ ?_ _) | (refine Below.step ?_ (by assumption)) | go_size)))).mono ?_); rintro e w1 ⟨rfl, hb1⟩; obtain ⟨hc1, hf1, hk1, hz1⟩ := bcell3 hb1; (try simp only [World.size_alloc, World.size_drew] at hz1); have : w.heap.size < w1.heap.size := (by omega))))
  go_ret2
  exact ⟨by (repeat' (first | (with_reducible exact Below.refl _ _) | (with_reducible assumption) | (with_reducible refine Below.new ?_ _) | (with_reducible refine Below.alloc ?_ ?_ _) | (with_reducible refine Below.drew ?_) | (with_reducible refine Below.drewN ?_ _) | (with_reducible refine Below.setCell ?_ ?_ _) | (refine Below.step ?_ (by assumption)) | go_size)), .inr ⟨by rw [HE.out]; decide, by rw [HE.out]; rfl⟩⟩

set_option maxHeartbeats 4000000 in
theorem roll_go (s : SchD) (rows : List RowD) (vd vm v : Value) (w : World) (hd : StrsSl w vd s.ds) (hm : StrsSl w vm s.ms) (td : Texts s.ds) (tm : Texts s.ms) (hv : RowsSl w v rows) (hok : RowsOk rows) (hlen : rows.length ≤ 100000) (hs : okSch s = true) :
    Calls Try.prog 27 #[.agg #[vd, vm, .int .i64 s.g], v] w (CellsPost w (rollL s rows) (rollE s rows)) := by
  obtain ⟨ic, hi, hiz0, hiz1, hiz2⟩ := info_parts info_cell
  have HR := hid (fun W (h : Below w.heap.size w W) => right_any vd vm s.ds s.ms s.g W (hd.below h) (hm.below h) td tm)
  have HOF := hid (fun (r : RowD) vl vn W (h : Below w.heap.size w W) (h1 : ValsSl W vl r.l) (h2 : IntsSl W vn r.xs) (h3 : Vals r.l ∧ ∀ x ∈ r.xs, I64 x) => rollOf_any s r vd vm vl vn W (hd.below h) (hm.below h) td tm h1 h3.1 h2 h3.2)
  have HV := hid hv; have HOK := hid hok; have HLEN := hid hlen; have HSC := hid hs
  obtain ⟨ad, cd, rfl, _, _, _⟩ := SlAt.shape hd
  obtain ⟨am, cm, rfl, _, _, _⟩ := SlAt.shape hm
  obtain ⟨ao, cap, rfl, _⟩ := hv.shape
  unfold okSch at hs
  rw [hs] at HR
  clear hd hm hv td tm hs hok
  go_enter Try.func27, Try.ntmps27
  go_wp2_with ((go_at_call 21; ((with_reducible refine (HR.out _ (by (repeat' (first | (with_reducible exact Below.refl _ _) | (with_reducible assumption) | (with_reducible refine Below.new ?_ _) | (with_reducible refine Below.alloc ?_ ?_ _) | (with_reducible refine Below.drew ?_) | (with_reducible refine Below.drewN ?_ _) | (with_reducible refine Below.setCell ?_ ?_ _) | (refine Below.step ?_ (by assumption)) | go_size)))).mono ?_); rintro e w1 ⟨rfl, hb1⟩; obtain ⟨hc1, hf1, hk1, hz1⟩ := bcell3 hb1; (try simp only [World.size_alloc, World.size_drew] at hz1); have : w.heap.size < w1.heap.size := (by omega))))
  have hB1 : Below w.heap.size w w1 := by (repeat' (first | (with_reducible exact Below.refl _ _) | (with_reducible assumption) | (with_reducible refine Below.new ?_ _) | (with_reducible refine Below.alloc ?_ ?_ _) | (with_reducible refine Below.drew ?_) | (with_reducible refine Below.drewN ?_ _) | (with_reducible refine Below.setCell ?_ ?_ _) | (refine Below.step ?_ (by assumption)) | go_size))
  have hk1 : w1.heap[w.heap.size]? = some (.cells #[.slice ad s.ds.length cd, .slice am s.ms.length cm, .int .i64 s.g] 24 (0, 0)) := blk_below (heap_at rfl) hb1
  have HB1 := hid (And.intro hB1 hk1)
  clear hb1 hc1 hf1 hk1 hz1 HR hB1
  go_loopw [6, 16] (fun a i wr => ∃ (k : Nat) (qs : List CellP), k ≤ rows.length ∧ i = .int .i64 (k : Nat) ∧ OwnCs wr w.heap.size a qs ∧ cellsP qs = (rows.take k).map (ofC s) ∧ (rows.take k).all (fitsR s) = true ∧ wr.heap[w.heap.size]? = some (.cells #[.slice ad s.ds.length cd, .slice am s.ms.length cm, .int .i64 s.g] 24 (0, 0)) ∧ Below w.heap.size w wr) (fun _ i _ => rows.length - (intOf i).toNat)
  case atStart => exact ⟨0, [], Nat.zero_le _, rfl, OwnCs.nil _ _, by simp [cellsP], by simp, HB1.out.2, HB1.out.1⟩
  case round =>
    obtain ⟨k, qs, hk, rfl, hq, hqc, hall, hbs, hbel⟩ := hrel
    have HQ := hid hq; have HQC := hid hqc; have HALL := hid hall; have HBS := hid hbs; have HB := hid hbel
    have hzb := blk_lt hbs
    have hk6 : (k : Int) ≤ 100000 := by omega
    have hk0 : (0 : Int) ≤ (k : Int) := Int.natCast_nonneg _
    have HQL : Hid (qs.length = k) := by
      have := congrArg List.length hqc
      unfold Hid
      simp [cellsP] at this
      omega
    have hql1 : qs.length ≤ 100000 := by have := HQL.out; omega
    obtain ⟨s0, s1, s2, _, _, _⟩ := three_at hbs
    obtain ⟨qo, qc, e⟩ := row_shape hq.row
    subst e
    clear HB1 hqc hall hbs
    by_cases hlt : k < rows.length
    · obtain ⟨b, off, vl, vn, rfl, g1, g2, c0, c1, c2⟩ := HV.out.at hlt
      have HO := hid (HOF.out rows[k] vl vn)
      have HOKK := hid (HOK.out _ (List.getElem_mem hlt))
      have hblt : b < w.heap.size := World.block_lt_of_cell? _ _ c0
      replace c0 := cell_step c0 hbel; replace c1 := cell_step c1 hbel; replace c2 := cell_step c2 hbel
      have HG1 := hid (g1.below hbel); have HG2 := hid (g2.below hbel)
      obtain ⟨_, _, rfl, _⟩ := SlAt.shape g1
      obtain ⟨_, _, rfl, _⟩ := SlAt.shape g2
      have HTK : Hid (rows.take (k + 1) = rows.take k ++ [rows[k]]) := List.take_succ_eq_append_getElem hlt
      have HMEM : Hid (rows[k] ∈ rows) := List.getElem_mem hlt
      clear g1 g2 hbel hq
      generalize rows[k] = r at *
      by_cases hf : fitsR s r = true
      · have hofE := ofE_fits hf
        have HO2 : Hid (∀ W, Below w.heap.size w W → ValsSl W _ r.l → IntsSl W _ r.xs → Calls Try.prog 29 _ W fun e w' => ∃ u : CellV, e = .returned (.tuple #[.agg #[.int .i64 (cutV r.t s.g), u.vl, .int .i64 1, u.vs, u.vm, u.vx], .int .i64 0]) ∧ OwnC w' W.heap.size u (ofC s r) ∧ u.blks.Nodup ∧ Below W.heap.size W w') := fun W h1 h2 h3 => (HO.out W h1 h2 h3 HOKK.out).mono fun e w' ⟨hb, h⟩ => by
          rcases h with ⟨_, u, h4, h5, h6⟩ | ⟨h4, _⟩
          · exact ⟨u, h4, h5, h6, hb⟩
          · exact absurd hofE h4
        have HFIT := hid hf
        obtain ⟨T, hT⟩ : ∃ T, cutV r.t s.g = T := ⟨_, rfl⟩
        rw [hT] at HO2
        have HTT := hid hT
        clear hofE hf hT
        go_wp2_with (first
          | (go_at_call 29; go_loud ((with_reducible refine (HO2.out _ (by have := HB.out; (repeat' (first | (with_reducible exact Below.refl _ _) | (with_reducible assumption) | (with_reducible refine Below.new ?_ _) | (with_reducible refine Below.alloc ?_ ?_ _) | (with_reducible refine Below.drew ?_) | (with_reducible refine Below.drewN ?_ _) | (with_reducible refine Below.setCell ?_ ?_ _) | (refine Below.step ?_ (by assumption)) | go_size))) (HG1.out.below (by (repeat' (first | (with_reducible exact Below.refl _ _) | (with_reducible assumption) | (with_reducible refine Below.new ?_ _) | (with_reducible refine Below.alloc ?_ ?_ _) | (with_reducible refine Below.drew ?_) | (with_reducible refine Below.drewN ?_ _) | (with_reducible refine Below.setCell ?_ ?_ _) | (refine Below.step ?_ (by assumption)) | go_size)))) (HG2.out.below (by (repeat' (first | (with_reducible exact Below.refl _ _) | (with_reducible assumption) | (with_reducible refine Below.new ?_ _) | (with_reducible refine Below.alloc ?_ ?_ _) | (with_reducible refine Below.drew ?_) | (with_reducible refine Below.drewN ?_ _) | (with_reducible refine Below.setCell ?_ ?_ _) | (refine Below.step ?_ (by assumption)) | go_size))))).mono ?_); rintro e w2 ⟨⟨ul, us, um, ux⟩, rfl, ho2, hn2, hb2⟩; obtain ⟨la, lc, e1⟩ := row_shape ho2.l; obtain ⟨sa, sc, e2⟩ := row_shape ho2.s; obtain ⟨ma, mc, e3⟩ := row_shape ho2.m; obtain ⟨xa, xc, e4⟩ := row_shape ho2.x; dsimp only at e1 e2 e3 e4; subst e1; subst e2; subst e3; subst e4; have hbr : Below wr.heap.size wr w2 := ((Below.refl _ _).alloc (Nat.le_refl _) _).trans (hb2.mono (by simp)); have hzr : wr.heap.size < w2.heap.size := (by have := hb2.size; simp at this; omega); have HO3 := hid (And.intro ho2 (And.intro hn2 hbr)); clear ho2 hn2 hb2 hbr))
          | (at_builtin; go_loud (refine wpList_append_sl _ rfl _ _ 40 rfl w.heap.size 46 ic _ 6 112 Try.underlying40 hi hiz0 hiz1 hiz2 rfl (by decide) (.slice qo qs.length qc) qs.length _ rfl (((row_below HQ.out.row HO3.out.2.2).alloc _).alloc _) (.slice (some ⟨w2.heap.size + 1, 0, none⟩) 1 1) 1 _ rfl (SlAt.new2 w2 _ #[.int .i64 T, .slice la (ofC s r).l.length lc, .int .i64 1, .slice sa (ofC s r).sums.length sc, .slice ma (ofC s r).mins.length mc, .slice xa (ofC s r).maxs.length xc] 46) (by simp [Value.oneCell']) (by unfold maxLen; omega) (by omega) (by simp; omega) ?_); intro v1 w3 hown3 hg3 hb3))
        have hW : Below wr.heap.size wr ((w2.alloc (.cells #[.int .i64 T, .slice la (ofC s r).l.length lc, .int .i64 1, .slice sa (ofC s r).sums.length sc, .slice ma (ofC s r).mins.length mc, .slice xa (ofC s r).maxs.length xc] 46)).alloc (.cells #[.int .i64 T, .slice la (ofC s r).l.length lc, .int .i64 1, .slice sa (ofC s r).sums.length sc, .slice ma (ofC s r).mins.length mc, .slice xa (ofC s r).maxs.length xc] 46)) := (HO3.out.2.2.new _).new _
        have hW2 : Below w2.heap.size w2 ((w2.alloc (.cells #[.int .i64 T, .slice la (ofC s r).l.length lc, .int .i64 1, .slice sa (ofC s r).sums.length sc, .slice ma (ofC s r).mins.length mc, .slice xa (ofC s r).maxs.length xc] 46)).alloc (.cells #[.int .i64 T, .slice la (ofC s r).l.length lc, .int .i64 1, .slice sa (ofC s r).sums.length sc, .slice ma (ofC s r).mins.length mc, .slice xa (ofC s r).maxs.length xc] 46)) := ((Below.refl _ _).new _).new _
        have hrow : rowP (⟨.slice la (ofC s r).l.length lc, .slice sa (ofC s r).sums.length sc, .slice ma (ofC s r).mins.length mc, .slice xa (ofC s r).maxs.length xc⟩, ofC s r) = [.int .i64 T, .slice la (ofC s r).l.length lc, .int .i64 1, .slice sa (ofC s r).sums.length sc, .slice ma (ofC s r).mins.length mc, .slice xa (ofC s r).maxs.length xc] := by
          rw [← HTT.out]; rfl
        have hpush := OwnCs.push (v' := v1) (HQ.out.below hW) (HO3.out.1.turn (T := []) (.of hW2) (by simp)) (by simp; have := HB.out.size; omega) HO3.out.2.1 (fun x hx hx' => by
          have h1 := (HO3.out.1.lt x hx).1
          have h2 := (HQ.out.lt x hx').2
          simp at h1
          omega) hg3 (by rw [hrow]; exact hown3)
        have hB3 : Below w.heap.size w w3 := own_below (((row_below HQ.out.row HO3.out.2.2).alloc _).alloc _) hg3 (HB.out.step hW) (Nat.le_refl _)
        have hbs3 : w3.heap[w.heap.size]? = some (.cells #[.slice ad s.ds.length cd, .slice am s.ms.length cm, .int .i64 s.g] 24 (0, 0)) := by
          refine (hg3.block _ (by simp; omega) (fun e => ?_)).trans (blk_below HBS.out hW)
          exact HQ.out.not_blk HBS.out (by decide) e.symm
        have H3 := hid (And.intro hpush (And.intro hB3 hbs3))
        clear hpush hB3 hbs3 hrow hW hW2 hown3 hg3 hb3
        go_roundw
        case rel =>
          refine ⟨k + 1, _, hlt, by go_num, H3.out.1, ?_, ?_, H3.out.2.2, H3.out.2.1⟩
          · rw [HTK.out, List.map_append, ← HQC.out]; simp [cellsP]
          · rw [HTK.out, List.all_append, HALL.out]; simpa using HFIT.out
        case measure => simp [intOf]; omega
      · have hofE : ofE s r = 101 := by unfold ofE; rw [if_pos HSC.out, if_neg hf]
        have HO2 : Hid (∀ W, Below w.heap.size w W → ValsSl W _ r.l → IntsSl W _ r.xs → Calls Try.prog 29 _ W fun e w' => e = .returned (.tuple #[zeroC, .int .i64 101]) ∧ Below W.heap.size W w') := fun W h1 h2 h3 => (HO.out W h1 h2 h3 HOKK.out).mono fun e w' ⟨hb, h⟩ => by
          rcases h with ⟨h4, _⟩ | ⟨_, h4⟩
          · rw [hofE] at h4; cases h4
          · rw [hofE] at h4; exact ⟨h4, hb⟩
        have HE : Hid (rollE s rows = 101) := by
          unfold Hid rollE
          rw [if_pos HSC.out, if_neg]
          intro h
          exact hf (List.all_eq_true.1 h r HMEM.out)
        clear hofE hf
        go_wp2_with (go_at_call 29; go_loud ((with_reducible refine (HO2.out _ (by have := HB.out; (repeat' (first | (with_reducible exact Below.refl _ _) | (with_reducible assumption) | (with_reducible refine Below.new ?_ _) | (with_reducible refine Below.alloc ?_ ?_ _) | (with_reducible refine Below.drew ?_) | (with_reducible refine Below.drewN ?_ _) | (with_reducible refine Below.setCell ?_ ?_ _) | (refine Below.step ?_ (by assumption)) | go_size))) (HG1.out.below (by (repeat' (first | (with_reducible exact Below.refl _ _) | (with_reducible assumption) | (with_reducible refine Below.new ?_ _) | (with_reducible refine Below.alloc ?_ ?_ _) | (with_reducible refine Below.drew ?_) | (with_reducible refine Below.drewN ?_ _) | (with_reducible refine Below.setCell ?_ ?_ _) | (refine Below.step ?_ (by assumption)) | go_size)))) (HG2.out.below (by (repeat' (first | (with_reducible exact Below.refl _ _) | (with_reducible assumption) | (with_reducible refine Below.new ?_ _) | (with_reducible refine Below.alloc ?_ ?_ _) | (with_reducible refine Below.drew ?_) | (with_reducible refine Below.drewN ?_ _) | (with_reducible refine Below.setCell ?_ ?_ _) | (refine Below.step ?_ (by assumption)) | go_size))))).mono ?_); rintro e w2 ⟨rfl, hb2⟩))
        go_ret2
        exact ⟨by have := HB.out; (repeat' (first | (with_reducible exact Below.refl _ _) | (with_reducible assumption) | (with_reducible refine Below.new ?_ _) | (with_reducible refine Below.alloc ?_ ?_ _) | (with_reducible refine Below.drew ?_) | (with_reducible refine Below.drewN ?_ _) | (with_reducible refine Below.setCell ?_ ?_ _) | (refine Below.step ?_ (by assumption)) | go_size)), .inr ⟨by rw [HE.out]; decide, by rw [HE.out]; rfl⟩⟩
    · obtain rfl : k = rows.length := by omega
      have hqc : cellsP qs = rows.map (ofC s) := by have := HQC.out; rwa [List.take_length] at this
      have hall : rows.all (fitsR s) = true := by have := HALL.out; rwa [List.take_length] at this
      have hfit : ∀ r ∈ rows, fitsR s r = true := fun r hr => List.all_eq_true.1 hall r hr
      have hm4 : s.ms.length ≤ 4 := by
        have := HSC.out
        unfold okSch rightS at this
        simp only [Bool.and_eq_true, decide_eq_true_eq] at this
        exact this.2.1
      have hlenq : (rows.map (ofC s)).length ≤ 100000 := by simp; exact hlen
      have HPUT := hid (rput_any s.ms.length wr wr (.slice none 0 0) (.slice qo qs.length qc) [] (rows.map (ofC s)) (Below.refl _ _) (OwnCs.nil _ _) (by rw [← hqc]; exact HQ.out.is) (Rolled.nil _)
        (fun c hc => by obtain ⟨r, hr, rfl⟩ := List.mem_map.1 hc; exact ofC_ok (hfit r hr)) (fun c hc => by obtain ⟨r, hr, rfl⟩ := List.mem_map.1 hc; exact Int.le_of_lt Int.zero_lt_one)
        (fun c hc => by obtain ⟨r, hr, rfl⟩ := List.mem_map.1 hc; have := (fits_len (hfit r hr)).2.2.1; show r.l.length ≤ _; omega) (by omega) (by simp; omega) (by
          rw [countT_ofC]
          show (0 : Int) + _ ≤ _
          omega))
      have hE : rollE s rows = if endsB (rollL s rows) = true then 0 else 121 := by unfold rollE; rw [if_pos HSC.out, if_pos hall]
      have HE := hid hE
      have HLL : Hid (puts s.ms.length (cellsP []) (rows.map (ofC s)) = rollL s rows) := rfl
      have HLN : Hid ((rollL s rows).length ≤ 100000) := by
        have h1 : (rollL s rows).length ≤ ([] : List CellD).length + (rows.map (ofC s)).length := (Put.puts_len (cellRule s.ms.length) [] (rows.map (ofC s))).2
        unfold Hid
        simp at h1
        omega
      clear hqc hall hfit hm4 hlenq hE hbel hq
      go_wp2_with fail
      refine HPUT.out.mono ?_
      rintro e w2 ⟨v2, ps, rfl, ho2, hc2, hb2⟩
      rw [HLL.out] at hc2
      have HO2 := hid ho2; have HC2 := hid hc2; have HB2 := hid hb2
      have hen := rollEnds_any v2 (cellsP ps) w2 ho2.is (by rw [hc2]; have := HLN.out; omega)
      obtain ⟨pa, pc, e⟩ := row_shape ho2.row
      subst e
      rw [hc2] at hen
      have HEN := hid hen
      have HBW := hid (HB.out.trans (hb2.mono HB.out.size))
      clear ho2 hc2 hb2 hen
      cases hcase : endsB (rollL s rows) with
      | true =>
        rw [hcase] at HEN HE
        clear hcase
        go_wp2_with (go_at_call 56; ((with_reducible refine HEN.out.mono ?_); rintro e w3 ⟨rfl, hb3⟩; have HB3 := hid hb3; clear hb3))
        go_ret2
        exact ⟨HBW.out.step HB3.out, .inl ⟨HE.out, _, ps, rfl, (HO2.out.below HB3.out).le HB.out.size, HC2.out⟩⟩
      | false =>
        rw [hcase] at HEN HE
        clear hcase
        go_wp2_with (go_at_call 56; ((with_reducible refine HEN.out.mono ?_); rintro e w3 ⟨rfl, hb3⟩; have HB3 := hid hb3; clear hb3))
        go_ret2
        exact ⟨HBW.out.step HB3.out, .inr ⟨by rw [HE.out]; decide, by rw [HE.out]; rfl⟩⟩
theorem rollRoll_any (s : SchD) (rows : List RowD) (vd vm v : Value) (w : World) (hd : StrsSl w vd s.ds) (hm : StrsSl w vm s.ms) (td : Texts s.ds) (tm : Texts s.ms) (hv : RowsSl w v rows) (hok : RowsOk rows) (hlen : rows.length ≤ 100000) :
    Calls Try.prog 27 #[.agg #[vd, vm, .int .i64 s.g], v] w (CellsPost w (rollL s rows) (rollE s rows)) := by
  cases h : okSch s with
  | true => exact roll_go s rows vd vm v w hd hm td tm hv hok hlen h
  | false => exact roll_bad s rows vd vm v w hd hm td tm hv h
end Go.Proofs.Ytdgeinipdphoeaa
