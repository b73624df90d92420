/- Texts joined: ValsO, OtY, OuA, OuB. -/
import Derived.Test.YtejleplhmkmegaaGreatDoorOw
import Derived.Test.YtejleplhmkmegaaGreatDoorOd
import Derived.Test.YtejleplhmkmegaaGreatDoorOe
set_option linter.unusedVariables false
set_option linter.unusedSimpArgs false
namespace Go.Proofs.YtejleplhmkmegaaGreatDoor
set_option linter.unusedVariables false
set_option linter.unusedSimpArgs false
set_option maxRecDepth 100000
open Go.ChangeShapes Go.WideShapes Go.ChangeAt Go.RowKit
theorem valsL_ne {xs ys : List ValD} (k : Nat) (hx : k < xs.length) (hy : k < ys.length) (h : ¬ (xs[k].s = ys[k].s ∧ xs[k].nl = ys[k].nl)) : ¬ xs = ys := fun e => h (by subst e; exact ⟨rfl, rfl⟩)
theorem valsL_succ {xs ys : List ValD} (k : Nat) (hx : k < xs.length) (hy : k < ys.length) (ht : xs.take k = ys.take k) (h : xs[k].s = ys[k].s) (h2 : xs[k].nl = ys[k].nl) : xs.take (k + 1) = ys.take (k + 1) := by
  have h3 : xs[k] = ys[k] := by
    cases h4 : xs[k]; cases h5 : ys[k]
    rw [h4, h5] at h h2
    simp only [ValD.mk.injEq]
    exact ⟨h, h2⟩
  rw [List.take_succ_eq_append_getElem hx, List.take_succ_eq_append_getElem hy, ht, h3]
set_option maxHeartbeats 4000000 in
theorem refVals_any (va vb : Value) (xs ys : List ValD) (w : World) (ha : ValsSl w va xs) (hb : ValsSl w vb ys) :
    Calls Tryz.prog 78 #[va, vb] w fun e w' => e = .returned (.bool (decide (xs = ys))) ∧ Below w.heap.size w w' := by
  obtain ⟨ao, cap, rfl, q1, q2, _, hA⟩ := ha.parts
  obtain ⟨bo, cap', rfl, q3, q4, _, hB⟩ := hb.parts
  unfold maxLen at q2 q4
  clear ha hb
  by_cases hlen : xs.length = ys.length
  · have hl' := hid hlen
    rw [← hlen]
    clear hlen
    by_cases h0 : 0 < xs.length
    · obtain ⟨a, oa, rfl, hca⟩ := hA h0
      obtain ⟨b, ob, rfl, hcb⟩ := hB (by have := hl'.out; omega)
      clear hA hB
      have HA := hid hca; clear hca
      have HB := hid hcb; clear hcb
      go_enter Tryz.func78, Tryz.ntmps78
      go_wp2
      go_loopw [5] (fun i wr => ∃ k : Nat, k ≤ xs.length ∧ i = .int .i64 k ∧ xs.take k = ys.take k ∧ Below w.heap.size w wr) (fun i _ => xs.length - (intOf i).toNat)
      case atStart => exact ⟨0, Nat.zero_le _, rfl, rfl, Below.refl _ _⟩
      case round =>
        obtain ⟨k, hk, rfl, htake, hbel⟩ := hrel
        have HT := hid htake; clear htake
        by_cases hlt : k < xs.length
        · have hy : k < ys.length := by have := hl'.out; omega
          have d1 := cell_step (HA.out k hlt).1 hbel
          have d2 := cell_step (HA.out k hlt).2 hbel
          have d3 := cell_step (HB.out k hy).1 hbel
          have d4 := cell_step (HB.out k hy).2 hbel
          have HS := hid (valsL_succ k hlt hy HT.out)
          have HN := hid (valsL_ne k hlt hy)
          generalize xs[k].s = x1 at *
          generalize xs[k].nl = x2 at *
          generalize ys[k].s = y1 at *
          generalize ys[k].nl = y2 at *
          by_cases h1 : x1 = y1
          · subst h1
            by_cases h2 : x2 = y2
            · subst h2
              have HS' := hid (HS.out rfl rfl)
              go_wp2
              go_quiet (fail)
              go_wp2
              go_roundw
              case rel => exact ⟨k + 1, hlt, by go_num, HS'.out, hbel.drewN _⟩
              case measure => simp [intOf]; omega
            · have HN' := hid (HN.out (fun e => h2 e.2))
              have hne : (x2 == y2) = false := by simpa using h2
              have hne2 : (x2 != y2) = true := by simpa using h2
              clear h2
              go_wp2
              go_quiet (fail)
              go_wp2
              go_ret
              exact ⟨ret_bool (by simp [HN'.out]), hbel.drewN _⟩
          · have HN' := hid (HN.out (fun e => h1 e.1))
            have h1' : ¬ x1.data = y1.data := fun e => h1 (ByteArray.ext e)
            have hne : (x1.toList == y1.toList) = false := by simpa [ByteArray.toList_eq] using h1'
            have hne2 : (x1.toList != y1.toList) = true := by simpa [ByteArray.toList_eq] using h1'
            clear h1 h1'
            go_wp2
            go_quiet (fail)
            go_wp2
            go_ret
            exact ⟨ret_bool (by simp [HN'.out]), hbel.drewN _⟩
        · obtain rfl : k = xs.length := by omega
          go_wp2
          go_ret
          refine ⟨ret_bool ?_, hbel⟩
          have h1 := HT.out
          rw [List.take_length, hl'.out, List.take_length] at h1
          simp [h1]
    · have h1 : xs = [] := List.length_eq_zero_iff.1 (by omega)
      have h2 : ys = [] := List.length_eq_zero_iff.1 (by have := hl'.out; omega)
      subst h1; subst h2
      clear hA hB h0
      go_enter Tryz.func78, Tryz.ntmps78
      go_wp2
      refine wp_loop_rounds 1 ?_
      rw [rounds_succ]
      go_wp2
      go_ret
      exact ⟨rfl, Below.refl _ _⟩
  · have hne : ¬ xs = ys := fun h => hlen (by rw [h])
    have hlen' : ((xs.length : Int) != (ys.length : Int)) = true := by simpa using (fun h => hlen (by exact_mod_cast h))
    have hlen'' : ((xs.length : Int) == (ys.length : Int)) = false := by simpa using (fun h => hlen (by exact_mod_cast h))
    have HN := hid hne; clear hne hA hB
    go_enter Tryz.func78, Tryz.ntmps78
    go_wp2
    go_ret
    exact ⟨ret_bool (by simp [HN.out]), Below.refl _ _⟩
end Go.Proofs.YtejleplhmkmegaaGreatDoor
namespace Go.Proofs.YtejleplhmkmegaaGreatDoor
set_option linter.unusedVariables false
set_option linter.unusedSimpArgs false
set_option maxRecDepth 100000
open Go.ChangeShapes Go.WideShapes Go.ChangeAt Go.RowKit Go.Fl
/-- The places stand in the order of places. -/
theorem told_ltI {ds ms : List ByteArray} {g : Int} {q : QryD} {gs : List GroupD} {base : Nat} {w : World} {v : Value} {T : List El} (h : LinesAt ds ms g q gs base w v T) : (T.map (·.i)).Pairwise (ltI ds ms g q gs) := by
  rw [List.pairwise_map]
  refine List.Pairwise.imp_of_mem ?_ h.sorted
  intro x y hx hy hxy
  obtain ⟨a, ha, _, _, hl⟩ := h.td x hx
  obtain ⟨b, hb, _, _, hm⟩ := h.td y hy
  refine ⟨a, b, ha, hb, ?_⟩
  rw [← hl, ← hm]
  exact hxy
theorem ltI_asym {ds ms : List ByteArray} {g : Int} {q : QryD} {L : List (Nat × FilD)} {gs : List GroupD} (he : linesErr ds ms g q L gs = 0) (i j : Nat) (h1 : ltI ds ms g q gs i j) (h2 : ltI ds ms g q gs j i) : False := by
  obtain ⟨a, b, ha, hb, h⟩ := h1
  obtain ⟨b', a', hb', ha', h'⟩ := h2
  rw [hb] at hb'
  rw [ha] at ha'
  obtain rfl := Option.some.inj hb'
  obtain rfl := Option.some.inj ha'
  have fa := line_form (linesErr_all he a (List.mem_of_getElem? ha))
  have fb := line_form (linesErr_all he b (List.mem_of_getElem? hb))
  have := (cmpK_good q.order q.by_.length (q.aggs.map aggFl)).anti _ _ fa fb
  omega
/-- Whatever the limits, the same places are told, in the same order. -/
theorem told_places {ds ms : List ByteArray} {g : Int} {q : QryD} {L : List (Nat × FilD)} {gs : List GroupD} {b1 b2 : Nat} {w1 w2 : World} {v1 v2 : Value} {T1 T2 : List El} {n : Int} (he : linesErr ds ms g q L gs = 0) (h1 : LinesAt ds ms g q gs b1 w1 v1 T1) (h2 : LinesAt ds ms g (q.lim n) gs b2 w2 v2 T2) : T1.map (·.i) = T2.map (·.i) :=
  sorted_one (h1.perm.trans h2.perm.symm) (fun i _ j _ => ltI_asym he i j) (told_ltI h1) ((told_ltI (q := q.lim n) h2).imp (fun {a b} h => h))
theorem told_eq {ds ms : List ByteArray} {g : Int} {q : QryD} {L : List (Nat × FilD)} {gs : List GroupD} {b1 b2 : Nat} {w1 w2 : World} {v1 v2 : Value} {T1 T2 : List El} {n : Int} (he : linesErr ds ms g q L gs = 0) (h1 : LinesAt ds ms g q gs b1 w1 v1 T1) (h2 : LinesAt ds ms g (q.lim n) gs b2 w2 v2 T2) {i : Nat} {x y : El} (hx : T1[i]? = some x) (hy : T2[i]? = some y) : x.v.st = y.v.st ∧ x.v.tm = y.v.tm ∧ x.l = y.l := by
  have e := told_places he h1 h2
  have ei : x.i = y.i := by
    have := congrArg (fun l => l[i]?) e
    simp only [List.getElem?_map, hx, hy, Option.map_some, Option.some.injEq] at this
    exact this
  obtain ⟨a, ha, s1, t1, l1⟩ := h1.td x (List.mem_of_getElem? hx)
  obtain ⟨b, hb, s2, t2, l2⟩ := h2.td y (List.mem_of_getElem? hy)
  rw [ei, hb] at ha
  obtain rfl := Option.some.inj ha
  exact ⟨s1.trans s2.symm, t1.trans t2.symm, l1.trans l2.symm⟩
theorem number_self (v : NumD) (ok : NumOk v) (w : World) : Calls Tryz.prog 149 #[.agg #[.bool v.fl, .int .i64 v.n, .float .f64 v.f], .agg #[.bool v.fl, .int .i64 v.n, .float .f64 v.f]] w fun e w' => e = .returned (.bool true) ∧ Below w.heap.size w w' := by
  have S := hid (fun W => self_same v.f ok.2 W)
  generalize v.fl = a at *; generalize v.n = b at *; generalize v.f = c at *
  clear ok
  go_enter Tryz.func149, Tryz.ntmps149
  go_wp2_with (go_at_call 199; go_loud ((with_reducible refine (S.out _).mono ?_); rintro e w1 ⟨rfl, rfl⟩))
  go_ret
  exact ⟨rfl, by (repeat' (first | (with_reducible exact Below.refl _ _) | (with_reducible assumption) | (with_reducible refine Below.new ?_ _) | (with_reducible refine Below.alloc ?_ ?_ _) | (with_reducible refine Below.drew ?_) | (with_reducible refine Below.drewN ?_ _) | (with_reducible refine Below.setCell ?_ ?_ _) | (refine Below.step ?_ (by assumption)) | go_size))⟩
set_option maxHeartbeats 4000000 in
theorem numbers_self (va vb : Value) (l : List NumD) (w : World) (ha : NumsSl w va l) (hb : NumsSl w vb l) (ok : ∀ v ∈ l, NumOk v) (hl : l.length ≤ 1000000) :
    Calls Tryz.prog 79 #[va, vb] w fun e w' => e = .returned (.bool true) ∧ Below w.heap.size w w' := by
  obtain ⟨h0, ao, ac, rfl, a1, a2, _, hA⟩ := ha
  obtain ⟨_, bo, bc, rfl, b1, b2, _, hB⟩ := hb
  have HA := hid hA; have HB := hid hB; have HOK := hid ok
  obtain ⟨N, hN⟩ : ∃ N, l.length = N := ⟨_, rfl⟩
  have HN := hid (And.intro hN h0)
  rw [hN] at hl a1 b1 ⊢
  clear hA hB ok hN h0
  go_enter Tryz.func79, Tryz.ntmps79
  go_wp2
  go_loopw [5] (fun iv wr => ∃ k : Nat, k ≤ N ∧ iv = .int .i64 (k : Int) ∧ Below w.heap.size w wr) (fun iv _ => N - (intOf iv).toNat)
  case atStart => exact ⟨0, Nat.zero_le _, rfl, Below.refl _ _⟩
  case round =>
    obtain ⟨k, hk, rfl, hbr⟩ := hrel
    have HBR := hid hbr
    by_cases hkN : k < N
    · have d1 : decide (k < N) = true := by simpa using hkN
      have hlen : k < l.length := by rw [HN.out.1]; exact hkN
      have hpos : 0 < (l.flatMap NumD.cells).length := by rw [HN.out.2]; omega
      obtain ⟨b, off, rfl, hc⟩ := HA.out hpos
      obtain ⟨b', off', rfl, hc'⟩ := HB.out hpos
      have e0 : w.cell? ⟨b, off + k * 3, none⟩ = some (.bool l[k].fl) := hc _ _ ((flat_at 3 NumD.cells NumD.cells_len l k 0 (by decide) hlen).trans rfl)
      have e1 : w.cell? ⟨b, off + k * 3 + 1, none⟩ = some (.int .i64 l[k].n) := hc _ _ ((flat_at 3 NumD.cells NumD.cells_len l k 1 (by decide) hlen).trans rfl)
      have e2 : w.cell? ⟨b, off + k * 3 + 2, none⟩ = some (.float .f64 l[k].f) := hc _ _ ((flat_at 3 NumD.cells NumD.cells_len l k 2 (by decide) hlen).trans rfl)
      have f0 : w.cell? ⟨b', off' + k * 3, none⟩ = some (.bool l[k].fl) := hc' _ _ ((flat_at 3 NumD.cells NumD.cells_len l k 0 (by decide) hlen).trans rfl)
      have f1 : w.cell? ⟨b', off' + k * 3 + 1, none⟩ = some (.int .i64 l[k].n) := hc' _ _ ((flat_at 3 NumD.cells NumD.cells_len l k 1 (by decide) hlen).trans rfl)
      have f2 : w.cell? ⟨b', off' + k * 3 + 2, none⟩ = some (.float .f64 l[k].f) := hc' _ _ ((flat_at 3 NumD.cells NumD.cells_len l k 2 (by decide) hlen).trans rfl)
      have NS := hid (fun W => number_self l[k] (HOK.out _ (List.getElem_mem hlen)) W)
      generalize l[k].fl = x0 at *; generalize l[k].n = x1 at *; generalize l[k].f = x2 at *
      have p0 := World.plus_cell (cell_step e0 hbr); have p1 := World.plus_cell (cell_step e1 hbr); have p2 := World.plus_cell (cell_step e2 hbr)
      have p3 := World.plus_cell (cell_step f0 hbr); have p4 := World.plus_cell (cell_step f1 hbr); have p5 := World.plus_cell (cell_step f2 hbr)
      have q1 : (0 : Int) ≤ (k : Int) := by omega
      have q2 : (k : Int) < (N : Int) := by omega
      clear hc hc' e0 e1 e2 f0 f1 f2 hbr hpos
      go_wp2
      refine wp_region_plus (by kernel_rfl) (by kernel_rfl) ?_
      repeat (first | go_big_quiet_skip | (go_big_quiet_want; go_big_quiet_op; first | go_big_quiet_on | go_big_quiet_call (((go_at_call 149; exact Calls.plus_of (NS.out _))))))
      refine wpQuiet_nil ?_
      rintro _ ⟨xq, rfl⟩
      have HP := hid (HBR.out.step (World.plus_below wr xq))
      clear p0 p1 p2 p3 p4 p5
      generalize World.plus wr xq = Y at *
      go_wp2
      go_roundw
      case rel => exact ⟨k + 1, hkN, by go_num, HP.out⟩
      case measure => simp [intOf]; omega
    · have d1 : decide (k < N) = false := by simpa using hkN
      clear hbr
      go_wp2
      go_ret
      exact ⟨rfl, HBR.out⟩
end Go.Proofs.YtejleplhmkmegaaGreatDoor
namespace Go.Proofs.YtejleplhmkmegaaGreatDoor
set_option linter.unusedVariables false
set_option linter.unusedSimpArgs false
set_option maxRecDepth 100000
open Go.ChangeShapes Go.WideShapes Go.ChangeAt Go.RowKit Go.Fl
set_option maxHeartbeats 4000000 in
theorem one_self (a b : LnV) (l : LineD) (w : World) (ha : LnIs w a l) (hb : LnIs w b l) (hs : a.st = b.st) (ht : a.tm = b.tm) (hl : l.nums.length ≤ 1000000) :
    Calls Tryz.prog 37 #[.agg a.cells, .agg b.cells] w fun e w' => e = .returned (.bool true) ∧ Below w.heap.size w w' := by
  have RV := hid (fun W (h : Below w.heap.size w W) => refVals_any _ _ l.key l.key W (ha.below h).key (hb.below h).key)
  rw [show decide (l.key = l.key) = true by simp] at RV
  have RN := hid (fun W (h : Below w.heap.size w W) => numbers_self _ _ l.nums W (ha.below h).nums (hb.below h).nums ha.ok hl)
  clear ha hb
  obtain ⟨ast, atm, aka, akn, akc, ana, ann, anc⟩ := a
  obtain ⟨bst, btm, bka, bkn, bkc, bna, bnn, bnc⟩ := b
  dsimp only [LnV.cells] at *
  subst hs ht
  go_enter Tryz.func37, Tryz.ntmps37
  go_wp2_with (first
    | (go_at_call 78; go_loud ((with_reducible refine (RV.out _ (by (repeat' (first | (with_reducible exact Below.refl _ _) | (with_reducible assumption) | (with_reducible refine Below.new ?_ _) | (with_reducible refine Below.alloc ?_ ?_ _) | (with_reducible refine Below.drew ?_) | (with_reducible refine Below.drewN ?_ _) | (with_reducible refine Below.setCell ?_ ?_ _) | (refine Below.step ?_ (by assumption)) | go_size)))).mono ?_); rintro e w1 ⟨rfl, hb1⟩; obtain ⟨hc1, hf1, hk1, hz1⟩ := bcell3 hb1; (try simp only [World.size_alloc, World.size_drew] at hz1); have : w.heap.size < w1.heap.size := (by omega); have : w.heap.size + 1 < w1.heap.size := (by omega)))
    | (go_at_call 79; go_loud ((with_reducible refine (RN.out _ (by (repeat' (first | (with_reducible exact Below.refl _ _) | (with_reducible assumption) | (with_reducible refine Below.new ?_ _) | (with_reducible refine Below.alloc ?_ ?_ _) | (with_reducible refine Below.drew ?_) | (with_reducible refine Below.drewN ?_ _) | (with_reducible refine Below.setCell ?_ ?_ _) | (refine Below.step ?_ (by assumption)) | go_size)))).mono ?_); rintro e w2 ⟨rfl, hb2⟩)))
  go_ret
  exact ⟨rfl, by (repeat' (first | (with_reducible exact Below.refl _ _) | (with_reducible assumption) | (with_reducible refine Below.new ?_ _) | (with_reducible refine Below.alloc ?_ ?_ _) | (with_reducible refine Below.drew ?_) | (with_reducible refine Below.drewN ?_ _) | (with_reducible refine Below.setCell ?_ ?_ _) | (refine Below.step ?_ (by assumption)) | go_size))⟩
set_option maxHeartbeats 8000000 in
theorem same_self {S1 S2 : Nat → Prop} (T1 T2 : List El) (K : Nat) (va vb : Value) (w : World) (h1 : SlS S1 w va K 4 (elCells (T1.take K))) (h2 : SlS S2 w vb K 4 (elCells (T2.take K))) (k1 : K ≤ T1.length) (k2 : K ≤ T2.length)
    (he : ∀ (i : Nat) (x y : El), T1[i]? = some x → T2[i]? = some y → x.v.st = y.v.st ∧ x.v.tm = y.v.tm ∧ x.l = y.l) (l1 : ∀ x ∈ T1, LnIs w x.v x.l ∧ x.l.nums.length ≤ 1000000) (l2 : ∀ y ∈ T2, LnIs w y.v y.l) (hK : K ≤ 1000000) :
    Calls Tryz.prog 17 #[va, vb] w fun e w' => e = .returned (.bool true) ∧ Below w.heap.size w w' := by
  have H1 := hid h1; have H2 := hid h2; have HE := hid he; have HL1 := hid l1; have HL2 := hid l2; have HK1 := hid k1; have HK2 := hid k2
  obtain ⟨a0, ac, rfl, a1, a2, _⟩ := SlAt.shape h1.sl
  obtain ⟨b0, bc, rfl, b1, b2, _⟩ := SlAt.shape h2.sl
  clear h1 h2 he l1 l2 k1 k2
  go_enter Tryz.func17, Tryz.ntmps17
  go_wp2
  go_loopw [5] (fun iv wr => ∃ k : Nat, k ≤ K ∧ iv = .int .i64 (k : Int) ∧ Below w.heap.size w wr) (fun iv _ => K - (intOf iv).toNat)
  case atStart => exact ⟨0, Nat.zero_le _, rfl, Below.refl _ _⟩
  case round =>
    obtain ⟨k, hk, rfl, hbr⟩ := hrel
    have HBR := hid hbr
    by_cases hkK : k < K
    · have d1 : decide (k < K) = true := by simpa using hkK
      obtain ⟨b, off, cap, x, hv, hx, c0, c1, c2, c3⟩ := ln_at H1.out HK1.out hkK
      obtain ⟨b', off', cap', y, hv', hy, e0, e1, e2, e3⟩ := ln_at H2.out HK2.out hkK
      simp only [Value.slice.injEq] at hv hv'
      obtain ⟨rfl, _, _⟩ := hv
      obtain ⟨rfl, _, _⟩ := hv'
      obtain ⟨s1, s2, s3⟩ := HE.out k x y hx hy
      have hlx := HL1.out x (List.mem_of_getElem? hx)
      have hly := HL2.out y (List.mem_of_getElem? hy)
      rw [← s3] at hly
      have ON := hid (fun W (h : Below wr.heap.size wr W) => one_self x.v y.v x.l W (hlx.1.below (HBR.out.step h)) (hly.below (HBR.out.step h)) s1 s2 hlx.2)
      unfold LnV.cells at ON
      have p0 := World.plus_cell (cell_step c0 hbr); have p1 := World.plus_cell (cell_step c1 hbr); have p2 := World.plus_cell (cell_step c2 hbr); have p3 := World.plus_cell (cell_step c3 hbr)
      have p4 := World.plus_cell (cell_step e0 hbr); have p5 := World.plus_cell (cell_step e1 hbr); have p6 := World.plus_cell (cell_step e2 hbr); have p7 := World.plus_cell (cell_step e3 hbr)
      have q1 : (0 : Int) ≤ (k : Int) := by omega
      have q2 : (k : Int) < (K : Int) := by omega
      clear c0 c1 c2 c3 e0 e1 e2 e3 hbr hx hy s1 s2 s3 hlx hly
      go_wp2
      refine wp_region_plus (by kernel_rfl) (by kernel_rfl) ?_
      repeat (first | go_big_quiet_skip | (go_big_quiet_want; go_big_quiet_op; first | go_big_quiet_on | go_big_quiet_call (((go_at_call 37; exact Calls.plus_of (ON.out _ (World.plus_below _ _)))))))
      refine wpQuiet_nil ?_
      rintro _ ⟨xq, rfl⟩
      have HP := hid (HBR.out.step (World.plus_below wr xq))
      clear p0 p1 p2 p3 p4 p5 p6 p7
      generalize World.plus wr xq = Y at *
      go_wp2
      go_roundw
      case rel => exact ⟨k + 1, hkK, by go_num, HP.out⟩
      case measure => simp [intOf]; omega
    · have d1 : decide (k < K) = false := by simpa using hkK
      clear hbr
      go_wp2
      go_ret
      exact ⟨rfl, HBR.out⟩
end Go.Proofs.YtejleplhmkmegaaGreatDoor
namespace Go.Proofs.YtejleplhmkmegaaGreatDoor
set_option linter.unusedVariables false
set_option linter.unusedSimpArgs false
set_option maxRecDepth 100000
open Go.ChangeShapes Go.WideShapes Go.ChangeAt Go.RowKit Go.Fl
theorem isOf_lim {ds ms : List ByteArray} {g : Int} {d : QryD} {n m : Int} (hn : 0 ≤ n ∧ n ≤ 1000) (hm : 0 ≤ m ∧ m ≤ 1000) : isOfB ds ms g (d.lim n) = isOfB ds ms g (d.lim m) := by
  have e1 : withinB n 0 1000 = true := by unfold withinB; simp; omega
  have e2 : withinB m 0 1000 = true := by unfold withinB; simp; omega
  unfold isOfB sizesB QryD.lim
  dsimp only
  rw [e1, e2]
theorem checkQ_lim {ds ms : List ByteArray} {g : Int} {d : QryD} {L : List (Nat × FilD)} {n m : Int} (hn : 0 ≤ n ∧ n ≤ 1000) (hm : 0 ≤ m ∧ m ≤ 1000) : checkQ ds ms g (d.lim n) L = checkQ ds ms g (d.lim m) L := by
  unfold checkQ
  rw [isOf_lim hn hm]
  rfl
theorem linesErr_lim {ds ms : List ByteArray} {g : Int} {d : QryD} {L : List (Nat × FilD)} {n m : Int} (hn : 0 ≤ n ∧ n ≤ 1000) (hm : 0 ≤ m ∧ m ≤ 1000) : ∀ gs, linesErr ds ms g (d.lim n) L gs = linesErr ds ms g (d.lim m) L gs
  | [] => rfl
  | x :: gs => by
    have e : grpErr ds ms g (d.lim n) L x = grpErr ds ms g (d.lim m) L x := by
      unfold grpErr numsErr
      rw [checkQ_lim hn hm]
      rfl
    unfold linesErr
    rw [e, linesErr_lim hn hm gs]
theorem linesRes_lim {ds ms : List ByteArray} {g : Int} {d : QryD} {L : List (Nat × FilD)} {n m : Int} (hn : 0 ≤ n ∧ n ≤ 1000) (hm : 0 ≤ m ∧ m ≤ 1000) (gs : List GroupD) : linesRes ds ms g (d.lim n) L gs = linesRes ds ms g (d.lim m) L gs := by
  unfold linesRes
  rw [checkQ_lim hn hm, linesErr_lim hn hm]
theorem lt_of_some {X Z : World} {b : Nat} (h : X.heap[b]? = Z.heap[b]?) (hz : b < Z.heap.size) : b < X.heap.size := by
  rw [Array.getElem?_eq_getElem hz] at h
  exact (Array.getElem?_eq_some_iff.1 h).1
theorem cut_lines {S : Nat → Prop} {w : World} {a : Option Addr} {n c K : Nat} {T : List El} (h : SlS S w (.slice a n c) n 4 (elCells (T.take n))) (hn : n = T.length) (hK : K ≤ n) : SlS S w (.slice a K c) K 4 (elCells (T.take K)) := by
  have h2 := h.take hK
  unfold elCells at h2 ⊢
  rw [flat_take 4 (fun e : El => e.v.cells.toList) (fun _ => rfl), List.take_take, Nat.min_eq_left hK] at h2
  exact h2
set_option maxHeartbeats 16000000 in
theorem OrderLimits_core (q : QryV) (dq : QryD) (vd vm : Value) (ds ms : List ByteArray) (g : Int) (la : Option Addr) (lc : Nat) (vs : List GrpV) (gs : List GroupD) (limit : Int) (w : World) (am an : Addr) (hd : StrsSl w vd ds) (hm : StrsSl w vm ms) (td : ∀ s ∈ ds, s.size ≤ 9223372036854775807) (tm : ∀ s ∈ ms, s.size ≤ 9223372036854775807) (hq : QryIs w q dq) (ok : QryOk dq) (hk : ∀ e, KindsN e dq.wher)
    (hgs : GrpsN (fun _ => True) w (.slice la gs.length lc) vs gs) (hgl : gs.length ≤ 9223372036854775807) (hgo : ∀ d ∈ gs, GrpOk d ∧ ∀ v ∈ d.key, v.s.size ≤ 9223372036854775807) (hlim : I64 limit) (hTab : Tabs w) (hS : SentF am an w) (hT : TypeR w) :
    Calls Tryz.prog 5 #[.agg #[vd, vm, .int .i64 g], .agg q.cells, .slice la gs.length lc, .int .i64 limit] w fun e w' => e = .returned (.bool true) ∧ Below w.heap.size w w' := by
  have HTab := hid hTab; have HSE := hid hS; have HTY := hid hT
  have SH := hid (fun W (h : Below w.heap.size w W) => shown18_any W (HTab.out.below h (Nat.le_refl _)))
  obtain ⟨ad, cd, rfl, _, _, _⟩ := SlAt.shape hd
  obtain ⟨am', cm, rfl, _, _, _⟩ := SlAt.shape hm
  have CUT := hid (fun W (h : Below w.heap.size w W) => schCut_any _ _ ds ms g W (hd.below h) (hm.below h) td tm)
  have F15 := hid (fun W (h : QryN (Far 2 w) W q dq) => few15_any _ q dq W h ok)
  have QOK := hid (fewQ_ok ok hk)
  have GOK := hid (fewGs_ok (fun d hd => (hgo d hd).1))
  have GRP := hid (fun W (hb : Below w.heap.size w W) => groups_any (fun _ => True) la lc vs gs W (hgs.below hb) (fun d hd => (hgo d hd).2) hgl)
  obtain ⟨NG, hNG⟩ : ∃ NG, gs.length = NG := ⟨_, rfl⟩
  obtain ⟨NF, hNF⟩ : ∃ NF, (fewGs gs).length = NF := ⟨_, rfl⟩
  rw [hNG, hNF] at GRP
  rw [hNG]
  have HNF := hid hNF
  unfold GroupsPost at GRP
  have TD := hid (txt_ok td); have TM := hid (txt_ok tm)
  obtain ⟨ds', hds⟩ : ∃ ds', txtCut 30 10 ds = ds' := ⟨_, rfl⟩
  obtain ⟨ms', hms⟩ : ∃ ms', txtCut 30 10 ms = ms' := ⟨_, rfl⟩
  rw [hds] at CUT TD
  rw [hms] at CUT TM
  have H0 := hid (show ∀ X, X = ((w.alloc (.cells #[.slice ad ds.length cd, .slice am' ms.length cm, .int .i64 g] 45)).alloc (.cells q.cells 33)) → LSt w X #[.slice ad ds.length cd, .slice am' ms.length cm, .int .i64 g] q ∧ QryN (Far 2 w) X q dq from fun X hX => by
    subst hX
    have hB : Below w.heap.size w ((w.alloc (.cells #[.slice ad ds.length cd, .slice am' ms.length cm, .int .i64 g] 45)).alloc (.cells q.cells 33)) := by (repeat' (first | (with_reducible exact Below.refl _ _) | (with_reducible assumption) | (with_reducible refine Below.new ?_ _) | (with_reducible refine Below.alloc ?_ ?_ _) | (with_reducible refine Below.drew ?_) | (with_reducible refine Below.drewN ?_ _) | (with_reducible refine Below.setCell ?_ ?_ _) | (refine Below.step ?_ (by assumption)) | go_size))
    exact ⟨⟨by (simp (disch := first | omega | (simp only [World.size_alloc, World.size_setCell, World.size_drew]; done) | (simp only [World.size_alloc, World.size_setCell, World.size_drew]; omega)) only [heap_at, heap_past, heap_set_other, heap_set_same]), by (simp (disch := first | omega | (simp only [World.size_alloc, World.size_setCell, World.size_drew]; done) | (simp only [World.size_alloc, World.size_setCell, World.size_drew]; omega)) only [heap_at, heap_past, heap_set_other, heap_set_same]), hB⟩, hq.all.keep (fun b h => .inl h) (fun b h _ => hB.block b h)⟩)
  clear hTab hS hT hd hm td tm hq ok hk hgs hgl hgo hNG hNF hds hms
  have HLI := hid hlim
  go_enter Tryz.func5, Tryz.ntmps5
  go_upto_region 4 with (first
    | (go_at_call 8; go_loud ((with_reducible refine (SH.out _ (H0.out _ rfl).1.bel).mono ?_); rintro e x1 ⟨rfl, hb1⟩; have s1 := hid ((H0.out _ rfl).1.step hb1); have n1 := hid ((H0.out _ rfl).2.below hb1); clear hb1))
    | (refine wpList_load_row rfl _ _ rfl _ rfl _ _ _ _ s1.out.bs Tryz.underlying45 rfl (by exact sinfo3) ?_)
    | (go_at_call 13; go_loud ((with_reducible refine (CUT.out _ s1.out.bel).mono ?_); rintro e x2 ⟨v1, v2, rfl, ho1, ho2, hb2⟩; obtain ⟨a1, c1, rfl, _⟩ := SlAt.shape (SlAt.own ho1); obtain ⟨a2, c2, rfl, _⟩ := SlAt.shape (SlAt.own ho2); have s2 := hid (s1.out.step hb2); have n2 := hid (n1.out.below hb2); have d2 := hid (And.intro ((SlS.own ho1).keep (T := Far 2 w) (fun b hb => .inr (by have := (ho1.lt b hb).1; have := s1.out.size; omega)) (fun _ _ _ => rfl)) ((SlS.own ho2).keep (T := Far 2 w) (fun b hb => .inr (by have := (ho2.lt b hb).1; have := s1.out.size; omega)) (fun _ _ _ => rfl))); clear ho1 ho2 hb2))
    | (refine wpList_store_blk rfl _ _ _ rfl _ _ rfl rfl _ _ s2.out.bs (by exact sinfo3) (by rfl) (by simp [Value.oneCell']) ?_; intro x3 hh3 hg3 hz3; have s3 := hid (s2.out.putS hg3 hh3); have n3 := hid (n2.out.keep (fun _ h => h) (far_kept hg3 ⟨Nat.le_refl _, by omega⟩)); have d3 := hid (And.intro (d2.out.1.keep (fun _ h => h) (far_kept hg3 ⟨Nat.le_refl _, by omega⟩)) (d2.out.2.keep (fun _ h => h) (far_kept hg3 ⟨Nat.le_refl _, by omega⟩))); clear hh3 hg3 hz3)
    | (refine wpList_load_row rfl _ _ rfl _ rfl _ _ _ _ s3.out.bq Tryz.underlying33 rfl (qinfo _) ?_)
    | (go_at_call 9; go_loud ((with_reducible refine (F15.out _ n3.out).mono ?_); rintro e x4 ⟨q1, rfl, hn, hb4⟩; have s4 := hid (s3.out.step hb4); have n4 := hid (hn.keep (T := Far 2 w) (fun b h => by rcases h with h | h; exact h.1; exact .inr (by have := s3.out.size; omega)) (fun _ _ _ => rfl)); have d4 := hid (And.intro (d3.out.1.keep (fun _ h => h) (fun b _ hl => hb4.block b hl)) (d3.out.2.keep (fun _ h => h) (fun b _ hl => hb4.block b hl))); clear hn hb4))
    | (refine wpList_store_blk rfl _ _ _ rfl _ _ rfl rfl _ _ s4.out.bq (qinfo _) rfl (qcells_one _) ?_; intro x5 hh3 hg3 hz3; have s5 := hid (s4.out.putQ hg3 hh3); have IN := hid (show LawIn (Far 2 w) x5 (.slice a1 ds'.length c1) (.slice a2 ms'.length c2) ds' ms' q1 (fewQ dq) from ⟨d4.out.1.keep (fun _ h => h) (far_kept hg3 ⟨by omega, by omega⟩), d4.out.2.keep (fun _ h => h) (far_kept hg3 ⟨by omega, by omega⟩), n4.out.keep (fun _ h => h) (far_kept hg3 ⟨by omega, by omega⟩)⟩); clear hh3 hg3 hz3))
  by_cases hl1 : limit < 1
  · have d1 : decide (limit < 1) = true := by simpa using hl1
    go_wp2
    go_ret
    exact ⟨rfl, s5.out.bel⟩
  by_cases hl2 : 100 < limit
  · have d1 : decide (limit < 1) = false := by simpa using hl1
    have d2 : decide (100 < limit) = true := by simpa using hl2
    go_wp2
    go_ret
    exact ⟨rfl, s5.out.bel⟩
  have d1 : decide (limit < 1) = false := by simpa using hl1
  have d2 : decide (100 < limit) = false := by simpa using hl2
  have k13 := cell_blk (i := 13) (x := .int .i64 q1.limit) s5.out.bq rfl
  have f13 := free_blk (i := 13) s5.out.bq
  have HL := hid (show 1 ≤ limit ∧ limit ≤ 100 from by omega)
  go_upto_region 7 with fail
  obtain ⟨x6, hx6⟩ : ∃ x6, x5.setCell ⟨w.heap.size + 1, 13, none⟩ (.int .i64 0) = x6 := ⟨_, rfl⟩
  rw [hx6]
  have s6 := hid (show LSt w x6 #[.slice a1 ds'.length c1, .slice a2 ms'.length c2, .int .i64 g] (q1.lim 0) from by rw [← hx6]; exact s5.out.set (q' := q1.lim 0) 13 _ rfl)
  have i0 : I64 0 := by unfold I64; omega
  have IN6 := hid (show LawIn (Far 2 w) x6 (.slice a1 ds'.length c1) (.slice a2 ms'.length c2) ds' ms' (q1.lim 0) ((fewQ dq).lim 0) from by
    have h := IN.out.keep (fun _ h => h) (far_set (k := w.heap.size + 1) (o := 13) (v := .int .i64 0) ⟨by omega, by omega⟩)
    rw [hx6] at h
    exact ⟨h.hd, h.hm, h.nq.lim 0⟩)
  have QOK6 := hid (QOK.out.lim (n := 0) i0)
  clear k13 f13 hx6 hl1 hl2 d1 d2
  have QF6 := hid (fun (S : Nat → Prop) y (hb : Below x6.heap.size x6 y) ao cap vs' (hg : GrpsN S y (.slice ao NF cap) vs' (fewGs gs)) => lines_of g (IN6.out.below hb) TD.out TM.out HNF.out hg GOK.out QOK6.out (dep_few _) (HSE.out.below (s6.out.bel.step hb)) (HTY.out.below (s6.out.bel.step hb)))
  have GR6 := hid (fun W (hb : Below x6.heap.size x6 W) => GRP.out W (s6.out.bel.step hb))
  have hS0 : (fun w' : World => w'.heap[w.heap.size]? = some (.cells #[.slice a1 ds'.length c1, .slice a2 ms'.length c2, .int .i64 g] 45 (0, 0)) ∧ w'.heap[w.heap.size + 1]? = some (.cells #[.slice q1.aa q1.an q1.ac, .slice q1.ba q1.bn q1.bc, .int .i64 q1.mode, .slice q1.sa q1.sn q1.sc, .int .i64 q1.every, .int .i64 q1.kind, .string q1.name, .slice q1.wa q1.wn q1.wc, .int .i64 q1.fr, .int .i64 q1.till, .slice q1.la q1.ln q1.lc, .slice q1.ha q1.hn q1.hc, .slice q1.oa q1.on q1.oc, .int .i64 0] 33 (0, 0))) x6.drew := ⟨s6.out.bs, s6.out.bq⟩
  refine wp_region_some (fun w' : World => w'.heap[w.heap.size]? = some (.cells #[.slice a1 ds'.length c1, .slice a2 ms'.length c2, .int .i64 g] 45 (0, 0)) ∧ w'.heap[w.heap.size + 1]? = some (.cells #[.slice q1.aa q1.an q1.ac, .slice q1.ba q1.bn q1.bc, .int .i64 q1.mode, .slice q1.sa q1.sn q1.sc, .int .i64 q1.every, .int .i64 q1.kind, .string q1.name, .slice q1.wa q1.wn q1.wc, .int .i64 q1.fr, .int .i64 q1.till, .slice q1.la q1.ln q1.lc, .slice q1.ha q1.hn q1.hc, .slice q1.oa q1.on q1.oc, .int .i64 0] 33 (0, 0))) [5, 6, 7, 8, 9] (by kernel_rfl) ?_
  (refine wpMix_take (i := 0) (v := ?_) rfl (by kernel_rfl) (fun _ _ _ h => h) (Or.inl ⟨by rfl, ?_⟩) hS0 ?_; rotate_left 1; (focus (intro w' hSw; (try dsimp only at hSw); have k0 := cell_blk (i := 0) (x := .slice a1 ds'.length c1) hSw.1 rfl; have k1 := cell_blk (i := 1) (x := .slice a2 ms'.length c2) hSw.1 rfl; have k2 := cell_blk (i := 2) (x := .int .i64 g) hSw.1 rfl; clear hSw; go_simp; try (with_reducible rfl))); (try simp only [Act.put, List.setIfInBounds_toArray, List.set_cons_zero, List.set_cons_succ]))
  (refine wpMix_take (i := 1) (v := ?_) rfl (by kernel_rfl) (fun _ _ _ h => h) (Or.inl ⟨by rfl, ?_⟩) hS0 ?_; rotate_left 1; (focus (intro w' hSw; (try dsimp only at hSw); have k0 := cell_blk (i := 0) (x := .slice q1.aa q1.an q1.ac) hSw.2 rfl; have k1 := cell_blk (i := 1) (x := .slice q1.ba q1.bn q1.bc) hSw.2 rfl; have k2 := cell_blk (i := 2) (x := .int .i64 q1.mode) hSw.2 rfl; have k3 := cell_blk (i := 3) (x := .slice q1.sa q1.sn q1.sc) hSw.2 rfl; have k4 := cell_blk (i := 4) (x := .int .i64 q1.every) hSw.2 rfl; have k5 := cell_blk (i := 5) (x := .int .i64 q1.kind) hSw.2 rfl; have k6 := cell_blk (i := 6) (x := .string q1.name) hSw.2 rfl; have k7 := cell_blk (i := 7) (x := .slice q1.wa q1.wn q1.wc) hSw.2 rfl; have k8 := cell_blk (i := 8) (x := .int .i64 q1.fr) hSw.2 rfl; have k9 := cell_blk (i := 9) (x := .int .i64 q1.till) hSw.2 rfl; have k10 := cell_blk (i := 10) (x := .slice q1.la q1.ln q1.lc) hSw.2 rfl; have k11 := cell_blk (i := 11) (x := .slice q1.ha q1.hn q1.hc) hSw.2 rfl; have k12 := cell_blk (i := 12) (x := .slice q1.oa q1.on q1.oc) hSw.2 rfl; have k13 := cell_blk (i := 13) (x := .int .i64 0) hSw.2 rfl; clear hSw; go_simp; try (with_reducible rfl))); (try simp only [Act.put, List.setIfInBounds_toArray, List.set_cons_zero, List.set_cons_succ]))
  (refine wpMix_take (i := 2) (v := ?_) rfl (by kernel_rfl) (fun _ _ _ h => h) (Or.inl ⟨by rfl, ?_⟩) hS0 ?_; rotate_left 1; (focus (intro w hSw; (try dsimp only at hSw); go_simp; try (with_reducible rfl))); (try simp only [Act.put, List.setIfInBounds_toArray, List.set_cons_zero, List.set_cons_succ]))
  refine wpMix_next (t := 3) (by kernel_rfl) ?_
  simp only [opsAt, List.flatMap_cons, List.flatMap_nil, List.take_succ_cons, List.take_zero, List.drop_succ_cons, List.drop_zero, List.append_nil, List.cons_append, List.nil_append]
  go_wp2_with (go_at_call 14; go_loud ((with_reducible refine (GR6.out _ (Below.drew (Below.refl _ _))).mono ?_); rintro e y7 ⟨ao7, cap7, vs7, rfl, hg7, hb7⟩))
  have hB7 : Below x6.heap.size x6 y7 := (Below.drew (Below.refl _ _)).trans hb7
  have sy7 := hid (s6.out.step hB7)
  have HG7 := hid hg7
  have CL7 := hid (QF6.out _ _ hB7 _ _ _ hg7)
  have HB7 := hid hB7
  simp only [QryV.cells, QryV.hav, QryV.lim] at CL7
  refine ⟨⟨sy7.out.bs, sy7.out.bq⟩, ?_⟩
  clear hS0 hb7 hB7 hg7
  refine wpMix_next (t := 4) (by kernel_rfl) ?_
  simp only [opsAt, List.flatMap_cons, List.flatMap_nil, List.take_succ_cons, List.take_zero, List.drop_succ_cons, List.drop_zero, List.append_nil, List.cons_append, List.nil_append]
  go_wp2_with (go_at_call 15; go_loud ((with_reducible refine (CL7.out).mono ?_); rintro e z7 ⟨v7, rfl, hb7, h7⟩; have sz7 := hid (sy7.out.step hb7); have HZ7 := hid hb7; have R7 := hid h7; clear hb7 h7))
  refine ⟨⟨sz7.out.bs, sz7.out.bq⟩, ?_⟩
  (refine wpMix_free (i := 5) (v := ?_) rfl (by kernel_rfl) (fun _ _ _ h => h) (Or.inl ⟨by rfl, ?_⟩) ?_; rotate_left 1; (focus (intro w hSw; go_simp; try (with_reducible rfl))); (try simp only [Act.put, List.setIfInBounds_toArray, List.set_cons_zero, List.set_cons_succ]))
  (refine wpMix_free (i := 6) (v := ?_) rfl (by kernel_rfl) (fun _ _ _ h => h) (Or.inl ⟨by rfl, ?_⟩) ?_; rotate_left 1; (focus (intro w hSw; go_simp; try (with_reducible rfl))); (try simp only [Act.put, List.setIfInBounds_toArray, List.set_cons_zero, List.set_cons_succ]))
  (refine wpMix_free (i := 7) (v := ?_) rfl (by kernel_rfl) (fun _ _ _ h => h) (Or.inl ⟨by rfl, ?_⟩) ?_; rotate_left 1; (focus (intro w hSw; go_simp; try (with_reducible rfl))); (try simp only [Act.put, List.setIfInBounds_toArray, List.set_cons_zero, List.set_cons_succ]))
  refine wpMix_rest [8, 9] (by kernel_rfl) ?_
  simp only [opsAt, List.flatMap_cons, List.flatMap_nil, List.take_succ_cons, List.take_zero, List.drop_succ_cons, List.drop_zero, List.append_nil, List.cons_append, List.nil_append]
  go_upto_region 8 with fail
  have k13 := cell_blk (i := 13) (x := .int .i64 0) sz7.out.bq rfl
  have f13 := free_blk (i := 13) sz7.out.bq
  have HX7 := hid (HB7.out.trans (HZ7.out.mono HB7.out.size))
  go_upto_region 9 with fail
  obtain ⟨x8, hx8⟩ : ∃ x8, z7.setCell ⟨w.heap.size + 1, 13, none⟩ (.int .i64 limit) = x8 := ⟨_, rfl⟩
  rw [hx8]
  have s8 := hid (show LSt w x8 #[.slice a1 ds'.length c1, .slice a2 ms'.length c2, .int .i64 g] ((q1.lim 0).lim limit) from by rw [← hx8]; exact sz7.out.set (q' := (q1.lim 0).lim limit) 13 _ rfl)
  have IN8 := hid (show LawIn (Far 2 w) x8 (.slice a1 ds'.length c1) (.slice a2 ms'.length c2) ds' ms' ((q1.lim 0).lim limit) (((fewQ dq).lim 0).lim limit) from by
    have h := (IN6.out.below HX7.out).keep (fun _ h => h) (far_set (k := w.heap.size + 1) (o := 13) (v := .int .i64 limit) ⟨by omega, by omega⟩)
    rw [hx8] at h
    exact ⟨h.hd, h.hm, h.nq.lim limit⟩)
  have QOK8 := hid (QOK6.out.lim (n := limit) HLI.out)
  have HKX : Hid (∀ b, b < z7.heap.size → w.heap.size + 1 < b → x8.heap[b]? = z7.heap[b]?) := fun b _ hb => by rw [← hx8]; exact heap_set_other (by omega)
  clear k13 f13 hx8
  have QF8 := hid (fun (S : Nat → Prop) y (hb : Below x8.heap.size x8 y) ao cap vs' (hg : GrpsN S y (.slice ao NF cap) vs' (fewGs gs)) => lines_of g (IN8.out.below hb) TD.out TM.out HNF.out hg GOK.out QOK8.out (dep_few _) (HSE.out.below (s8.out.bel.step hb)) (HTY.out.below (s8.out.bel.step hb)))
  have GR8 := hid (fun W (hb : Below x8.heap.size x8 W) => GRP.out W (s8.out.bel.step hb))
  have hS0 : (fun w' : World => w'.heap[w.heap.size]? = some (.cells #[.slice a1 ds'.length c1, .slice a2 ms'.length c2, .int .i64 g] 45 (0, 0)) ∧ w'.heap[w.heap.size + 1]? = some (.cells #[.slice q1.aa q1.an q1.ac, .slice q1.ba q1.bn q1.bc, .int .i64 q1.mode, .slice q1.sa q1.sn q1.sc, .int .i64 q1.every, .int .i64 q1.kind, .string q1.name, .slice q1.wa q1.wn q1.wc, .int .i64 q1.fr, .int .i64 q1.till, .slice q1.la q1.ln q1.lc, .slice q1.ha q1.hn q1.hc, .slice q1.oa q1.on q1.oc, .int .i64 limit] 33 (0, 0))) x8.drew := ⟨s8.out.bs, s8.out.bq⟩
  refine wp_region_some (fun w' : World => w'.heap[w.heap.size]? = some (.cells #[.slice a1 ds'.length c1, .slice a2 ms'.length c2, .int .i64 g] 45 (0, 0)) ∧ w'.heap[w.heap.size + 1]? = some (.cells #[.slice q1.aa q1.an q1.ac, .slice q1.ba q1.bn q1.bc, .int .i64 q1.mode, .slice q1.sa q1.sn q1.sc, .int .i64 q1.every, .int .i64 q1.kind, .string q1.name, .slice q1.wa q1.wn q1.wc, .int .i64 q1.fr, .int .i64 q1.till, .slice q1.la q1.ln q1.lc, .slice q1.ha q1.hn q1.hc, .slice q1.oa q1.on q1.oc, .int .i64 limit] 33 (0, 0))) [5, 6, 7, 8, 9] (by kernel_rfl) ?_
  (refine wpMix_take (i := 0) (v := ?_) rfl (by kernel_rfl) (fun _ _ _ h => h) (Or.inl ⟨by rfl, ?_⟩) hS0 ?_; rotate_left 1; (focus (intro w' hSw; (try dsimp only at hSw); have k0 := cell_blk (i := 0) (x := .slice a1 ds'.length c1) hSw.1 rfl; have k1 := cell_blk (i := 1) (x := .slice a2 ms'.length c2) hSw.1 rfl; have k2 := cell_blk (i := 2) (x := .int .i64 g) hSw.1 rfl; clear hSw; go_simp; try (with_reducible rfl))); (try simp only [Act.put, List.setIfInBounds_toArray, List.set_cons_zero, List.set_cons_succ]))
  (refine wpMix_take (i := 1) (v := ?_) rfl (by kernel_rfl) (fun _ _ _ h => h) (Or.inl ⟨by rfl, ?_⟩) hS0 ?_; rotate_left 1; (focus (intro w' hSw; (try dsimp only at hSw); have k0 := cell_blk (i := 0) (x := .slice q1.aa q1.an q1.ac) hSw.2 rfl; have k1 := cell_blk (i := 1) (x := .slice q1.ba q1.bn q1.bc) hSw.2 rfl; have k2 := cell_blk (i := 2) (x := .int .i64 q1.mode) hSw.2 rfl; have k3 := cell_blk (i := 3) (x := .slice q1.sa q1.sn q1.sc) hSw.2 rfl; have k4 := cell_blk (i := 4) (x := .int .i64 q1.every) hSw.2 rfl; have k5 := cell_blk (i := 5) (x := .int .i64 q1.kind) hSw.2 rfl; have k6 := cell_blk (i := 6) (x := .string q1.name) hSw.2 rfl; have k7 := cell_blk (i := 7) (x := .slice q1.wa q1.wn q1.wc) hSw.2 rfl; have k8 := cell_blk (i := 8) (x := .int .i64 q1.fr) hSw.2 rfl; have k9 := cell_blk (i := 9) (x := .int .i64 q1.till) hSw.2 rfl; have k10 := cell_blk (i := 10) (x := .slice q1.la q1.ln q1.lc) hSw.2 rfl; have k11 := cell_blk (i := 11) (x := .slice q1.ha q1.hn q1.hc) hSw.2 rfl; have k12 := cell_blk (i := 12) (x := .slice q1.oa q1.on q1.oc) hSw.2 rfl; have k13 := cell_blk (i := 13) (x := .int .i64 limit) hSw.2 rfl; clear hSw; go_simp; try (with_reducible rfl))); (try simp only [Act.put, List.setIfInBounds_toArray, List.set_cons_zero, List.set_cons_succ]))
  (refine wpMix_take (i := 2) (v := ?_) rfl (by kernel_rfl) (fun _ _ _ h => h) (Or.inl ⟨by rfl, ?_⟩) hS0 ?_; rotate_left 1; (focus (intro w hSw; (try dsimp only at hSw); go_simp; try (with_reducible rfl))); (try simp only [Act.put, List.setIfInBounds_toArray, List.set_cons_zero, List.set_cons_succ]))
  refine wpMix_next (t := 3) (by kernel_rfl) ?_
  simp only [opsAt, List.flatMap_cons, List.flatMap_nil, List.take_succ_cons, List.take_zero, List.drop_succ_cons, List.drop_zero, List.append_nil, List.cons_append, List.nil_append]
  go_wp2_with (go_at_call 14; go_loud ((with_reducible refine (GR8.out _ (Below.drew (Below.refl _ _))).mono ?_); rintro e y9 ⟨ao9, cap9, vs9, rfl, hg9, hb9⟩))
  have hB9 : Below x8.heap.size x8 y9 := (Below.drew (Below.refl _ _)).trans hb9
  have sy9 := hid (s8.out.step hB9)
  have HG9 := hid hg9
  have CL9 := hid (QF8.out _ _ hB9 _ _ _ hg9)
  have HB9 := hid hB9
  simp only [QryV.cells, QryV.hav, QryV.lim] at CL9
  refine ⟨⟨sy9.out.bs, sy9.out.bq⟩, ?_⟩
  clear hS0 hb9 hB9 hg9
  refine wpMix_next (t := 4) (by kernel_rfl) ?_
  simp only [opsAt, List.flatMap_cons, List.flatMap_nil, List.take_succ_cons, List.take_zero, List.drop_succ_cons, List.drop_zero, List.append_nil, List.cons_append, List.nil_append]
  go_wp2_with (go_at_call 15; go_loud ((with_reducible refine (CL9.out).mono ?_); rintro e z9 ⟨v9, rfl, hb9, h9⟩; have sz9 := hid (sy9.out.step hb9); have HZ9 := hid hb9; have R9 := hid h9; clear hb9 h9))
  refine ⟨⟨sz9.out.bs, sz9.out.bq⟩, ?_⟩
  (refine wpMix_free (i := 5) (v := ?_) rfl (by kernel_rfl) (fun _ _ _ h => h) (Or.inl ⟨by rfl, ?_⟩) ?_; rotate_left 1; (focus (intro w hSw; go_simp; try (with_reducible rfl))); (try simp only [Act.put, List.setIfInBounds_toArray, List.set_cons_zero, List.set_cons_succ]))
  (refine wpMix_free (i := 6) (v := ?_) rfl (by kernel_rfl) (fun _ _ _ h => h) (Or.inl ⟨by rfl, ?_⟩) ?_; rotate_left 1; (focus (intro w hSw; go_simp; try (with_reducible rfl))); (try simp only [Act.put, List.setIfInBounds_toArray, List.set_cons_zero, List.set_cons_succ]))
  (refine wpMix_free (i := 7) (v := ?_) rfl (by kernel_rfl) (fun _ _ _ h => h) (Or.inl ⟨by rfl, ?_⟩) ?_; rotate_left 1; (focus (intro w hSw; go_simp; try (with_reducible rfl))); (try simp only [Act.put, List.setIfInBounds_toArray, List.set_cons_zero, List.set_cons_succ]))
  refine wpMix_rest [8, 9] (by kernel_rfl) ?_
  simp only [opsAt, List.flatMap_cons, List.flatMap_nil, List.take_succ_cons, List.take_zero, List.drop_succ_cons, List.drop_zero, List.append_nil, List.cons_append, List.nil_append]
  go_upto_region 10 with fail
  obtain ⟨er, her⟩ : ∃ er, linesRes ds' ms' g ((fewQ dq).lim 0) (flatN 8 1 ((fewQ dq).lim 0).wher) (fewGs gs) = er := ⟨_, rfl⟩
  have her2 : linesRes ds' ms' g (((fewQ dq).lim 0).lim limit) (flatN 8 1 (((fewQ dq).lim 0).lim limit).wher) (fewGs gs) = er := by
    rw [← her]
    exact linesRes_lim (d := fewQ dq) (by have := HL.out; omega) (by omega) _
  rw [her] at R7 ⊢
  rw [her2] at R9 ⊢
  rcases R7.out with ⟨hne, rfl⟩ | ⟨h0, T1, hT1⟩
  · have h1 : (er == 0) = false := by simpa using hne
    have h3 : (er != 0) = true := by simpa using hne
    go_wp2
    go_ret
    exact ⟨rfl, sz9.out.bel⟩
  · subst h0
    rcases R9.out with ⟨hne, _⟩ | ⟨_, T2, hT2⟩
    · exact absurd rfl hne
    obtain ⟨hck, hle⟩ := res_zero her
    have hpl := told_places hle hT1 hT2
    have hEQ := fun (i : Nat) (x y : El) hx hy => told_eq hle hT1 hT2 (i := i) (x := x) (y := y) hx hy
    have hlen : T1.length = T2.length := by have := congrArg List.length hpl; simpa using this
    obtain ⟨n, hn⟩ : ∃ n, T1.length = n := ⟨_, rfl⟩
    have hat1 := hT1.at_
    rw [show ((fewQ dq).lim 0).limit = 0 from rfl, limN_neg (by omega), hn] at hat1
    have hat2 := hT2.at_
    rw [show (((fewQ dq).lim 0).lim limit).limit = limit from rfl, ← hlen, hn] at hat2
    obtain ⟨K, hK⟩ : ∃ K, limN limit n = K := ⟨_, rfl⟩
    rw [hK] at hat2
    have hl := HL.out
    obtain ⟨m1, m2, m3, m4⟩ := limN_pos (l := limit) (n := n) (by omega)
    rw [hK] at m1 m2
    have hKI : min limit (n : Int) = (K : Int) := by omega
    obtain ⟨a7, c7, rfl, b1, b2, _⟩ := SlAt.shape hat1.sl
    obtain ⟨a9, c9, rfl, b3, b4, _⟩ := SlAt.shape hat2.sl
    have hn1000 : n ≤ 1000 := by
      have h1 := hT1.perm.length_eq
      have h2 := keptI_len ds' ms' g ((fewQ dq).lim 0) (fewGs gs)
      rw [List.length_map] at h1
      have := GOK.out.len
      omega
    have hwy := sy7.out.size
    have hyz := HZ7.out.size
    have KP : Hid (∀ W, Below z9.heap.size z9 W → ∀ b, y7.heap.size ≤ b → b < z7.heap.size → W.heap[b]? = z7.heap[b]?) := fun W hW b h1 h2 => by
      have e1 := HKX.out b h2 (by omega)
      have hb8 : b < x8.heap.size := lt_of_some e1 h2
      have e2 := HB9.out.block b hb8
      have e3 := HZ9.out.block b (by have := HB9.out.size; omega)
      have e4 := hW.block b (by have := HB9.out.size; have := HZ9.out.size; omega)
      rw [e4, e3, e2, e1]
    have SM := hid (fun W (hb : Below z9.heap.size z9 W) => same_self T1 T2 K (.slice a7 K c7) (.slice a9 K c9) W ((cut_lines hat1 hn.symm m2).keep (fun _ h => h) (KP.out W hb)) (hat2.keep (fun _ h => h) (fun b _ hlt => hb.block b hlt)) (by omega) (by omega) hEQ (fun x hx => ⟨((hT1.el x hx).keep (fun _ h => h) (KP.out W hb)).is, by
        obtain ⟨d, _, _, _, hll⟩ := hT1.td x hx
        have h1 := line_len ds' ms' g ((fewQ dq).lim 0) d
        have h2 := QOK6.out.sm.aggs
        rw [hll]
        omega⟩) (fun y hy => (hT2.el y hy).is.below hb) (by omega))
    have im := ite_min
    have z1 : (0 : Int) ≤ (K : Int) := by omega
    have z2 : (K : Int) ≤ (c7 : Int) := by omega
    clear hT1 hT2 hck hle hpl hEQ hlen hn hat1 hat2 hK hl m1 m2 m3 m4 her her2 R7 R9 KP
    go_wp2_with (go_at_call 17; go_loud ((with_reducible refine (SM.out _ (Below.refl _ _)).mono ?_); rintro e zz ⟨rfl, hbz⟩))
    go_ret
    exact ⟨rfl, sz9.out.bel.step hbz⟩
end Go.Proofs.YtejleplhmkmegaaGreatDoor
