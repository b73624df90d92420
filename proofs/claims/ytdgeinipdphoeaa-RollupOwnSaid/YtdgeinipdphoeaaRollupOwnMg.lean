/- RollupOwn holds: what is told shares no list with what was given. No condition. -/
import Derived.Test.YtdgeinipdphoeaaGl
import Derived.Test.YtdgeinipdphoeaaGa
namespace Go.Proofs.Ytdgeinipdphoeaa
set_option linter.unusedVariables false
set_option linter.unusedSimpArgs false
set_option maxRecDepth 100000
open Go.ChangeShapes Go.WideShapes Go.ChangeAt Go.RowKit Go.Joins

set_option maxHeartbeats 4000000 in
theorem RollupOwn_walk (vd vm : Value) (ds ms : List ByteArray) (g : Int) (v : Value) (rows : List RowD) (w : World)
    (hd : StrsSl w vd ds) (hm : StrsSl w vm ms) (td : ∀ s ∈ ds, s.size ≤ 9223372036854775807) (tm : ∀ s ∈ ms, s.size ≤ 9223372036854775807) (hg : I64 g) (hv : RowsSl w v rows) (hf : ∀ r ∈ rows, RowFine r) :
    Calls Try.prog 6 #[.agg #[vd, vm, .int .i64 g], v] w fun e w' => e = .returned (.bool true) ∧ Below w.heap.size w w' := by
  have HCUT := hid (fun W (h : Below w.heap.size w W) => cut_any vd vm ds ms g W (hd.below h) (hm.below h) td tm)
  have HROWS : Hid (∀ W, Below w.heap.size w W → Calls Try.prog 26 #[v, .int .i64 50] W (RowsPost2 w W (rowsCut 50 rows))) := fun W h => lawRows2_any rows 50 v w W h hv (fun r hr => (hf r hr).1) (by decide)
  have HROK := hid (rows_fine (n := 50) hf)
  have HRLN := hid (rows_few 50 rows)
  have HTD := hid (txt_fine ds); have HTM := hid (txt_fine ms)
  obtain ⟨ad, cd, rfl, _, _, _⟩ := SlAt.shape hd
  obtain ⟨am, cm, rfl, _, _, _⟩ := SlAt.shape hm
  obtain ⟨av, cv, rfl, _, _, _⟩ := hv.shape
  clear hd hm td tm hv hf
  generalize ds.length = nd at *
  generalize ms.length = nm at *
  generalize rows.length = nr at *
  obtain ⟨D, hD⟩ : ∃ D, txtCut 30 10 ds = D := ⟨_, rfl⟩
  obtain ⟨M, hM⟩ : ∃ M, txtCut 30 10 ms = M := ⟨_, rfl⟩
  obtain ⟨R, hR⟩ : ∃ R, rowsCut 50 rows = R := ⟨_, rfl⟩
  rw [hD, hM] at HCUT; rw [hD] at HTD; rw [hM] at HTM; rw [hR] at HROWS HROK HRLN
  clear hD hM hR
  go_enter Try.func6, Try.ntmps6
  go_wp2_with (go_at_call 25; ((with_reducible refine (shown12_any _).mono ?_); rintro e w1 ⟨rfl, hb1⟩; have r0 : w1.heap[w.heap.size]? = some (.cells #[.slice ad nd cd, .slice am nm cm, .int .i64 g] 24 (0, 0)) := blk_below (by ((simp (disch := first | omega | (simp only [World.size_alloc, World.size_setCell, World.size_drew]; done) | (simp only [World.size_alloc, World.size_setCell, World.size_drew]; omega)) only [heap_at, heap_past, heap_set_other, heap_set_same]))) hb1; have hB1 : Below w.heap.size w w1 := (by (repeat' (first | (with_reducible exact Below.refl _ _) | (with_reducible assumption) | (with_reducible refine Below.new ?_ _) | (with_reducible refine Below.alloc ?_ ?_ _) | (with_reducible refine Below.drew ?_) | (with_reducible refine Below.drewN ?_ _) | (with_reducible refine Below.setCell ?_ ?_ _) | (refine Below.step ?_ (by assumption)) | go_size))); clear hb1; (obtain ⟨c0, c1, c2, f0, f1, f2⟩ := three_at r0)))
  refine (HCUT.out _ hB1).mono ?_
  rintro e w2 ⟨v1, v2, rfl, ho1, ho2, hb2⟩
  obtain ⟨a1, k1, rfl, _, _, _⟩ := SlAt.shape (SlAt.own ho1)
  obtain ⟨a2, k2, rfl, _, _, _⟩ := SlAt.shape (SlAt.own ho2)
  have HP := hid (pre_sch (g := g) hB1 r0 (Nat.le_refl _) hb2 ho1 ho2)
  have p0 := blk_below r0 hb2
  clear c0 c1 c2 f0 f1 f2 r0 ho1 ho2 hb2 hB1
  obtain ⟨c0, c1, c2, f0, f1, f2⟩ := three_at p0
  clear p0
  go_wp2_with fail
  clear c0 c1 c2 f0 f1 f2
  generalize hW2 : ((w2.setCell ⟨w.heap.size, 0, none⟩ (.slice a1 D.length k1)).setCell ⟨w.heap.size, 1, none⟩ (.slice a2 M.length k2)).setCell ⟨w.heap.size, 2, none⟩ (.int .i64 g) = W2 at *
  obtain ⟨hBW, q0, o1, o2⟩ := HP.out
  clear HP hW2
  refine (HROWS.out _ hBW).mono ?_
  rintro e w3 ⟨v3, ps, rfl, hrs, hps, hb3⟩
  have p0 := blk_below q0 hb3
  have s1 := (StrsSl.own o1).below hb3; have s2 := (StrsSl.own o2).below hb3; have s3 := hrs.is
  rw [hps] at s3
  have hB3 := hBW.step hb3
  have HB3 := hid hB3
  have HA := hid (fun W (h : Below w3.heap.size w3 W) => roll_own ⟨D, M, g⟩ R _ _ _ W (s1.below h) (s2.below h) HTD.out HTM.out (s3.below h) HROK.out (by have := HRLN.out; omega))
  have HFL := hid (outL_few ⟨D, M, g⟩ R)
  have HLN := hid (outL_len ⟨D, M, g⟩ R)
  have zA := blk_lt p0
  have HP0 := hid p0
  generalize rollE ⟨D, M, g⟩ R = E1 at *
  generalize outL ⟨D, M, g⟩ R = L1 at *
  clear q0 o1 o2 s1 s2 s3 hps hrs hb3 hBW hB3 HROWS HCUT HTD HTM HRLN HROK
  obtain ⟨c0, c1, c2, _, _, _⟩ := three_at p0
  clear p0
  go_wp2_with fail
  refine (HA.out _ (Below.refl _ _)).mono ?_
  rintro e w6 ⟨va, as', rfl, ho6, hc6, hb6⟩
  clear c0 c1 c2
  obtain ⟨c0, c1, c2, _, _, _⟩ := three_at (blk_below HP0.out hb6)
  go_wp2_with fail
  refine (HA.out _ hb6).mono ?_
  rintro e w7 ⟨vb, bs, rfl, ho7, hc7, hb7⟩
  clear c0 c1 c2
  have hstart := OwnT.start (ho6.below hb7)
  have hT : ∀ x ∈ (as'.map fun p => p.1).flatMap CellV.blks, w3.heap.size ≤ x ∧ x < w6.heap.size := by
    intro x hx
    obtain ⟨u, hu, hx⟩ := List.mem_flatMap.1 hx
    obtain ⟨p, hp, rfl⟩ := List.mem_map.1 hu
    exact ho6.lt x (List.mem_flatMap.2 ⟨p, hp, hx⟩)
  have hus : (as'.map fun p => p.1).length ≤ 1000 := by
    have := HLN.out
    rw [← hc6] at this
    simpa [cellsP] using this
  generalize (as'.map fun p => p.1) = us at *
  obtain ⟨ao, cap, rfl⟩ := hstart.shape
  have HST := hid hstart; have HTT := hid hT
  have HO7 := hid (And.intro ho7 (And.intro hc7 (And.intro hb6 hb7)))
  clear hstart hT ho6 hc6 ho7 hc7 hb6 hb7
  go_wp2_with fail
  go_loopw [10] (fun i wr => ∃ k : Nat, k ≤ us.length ∧ i = .int .i64 (k : Nat) ∧ OwnT w7 w3.heap.size (.slice ao us.length cap) us wr) (fun i _ => us.length - (intOf i).toNat)
  case atStart => exact ⟨0, Nat.zero_le _, rfl, HST.out⟩
  case round =>
    obtain ⟨k, hk, rfl, hown⟩ := hrel
    have hk0 : (0 : Int) ≤ (k : Int) := Int.natCast_nonneg _
    have hk6 : (k : Int) ≤ 1000 := by omega
    have HOW := hid hown
    clear hown HST
    by_cases hlt : k < us.length
    · have hltI : (k : Int) < (us.length : Int) := by omega
      obtain ⟨⟨a8, n8, d8, e8, z8, y8⟩, a9, n9, d9, e9, z9, y9⟩ := HOW.out.nums hlt
      have HE8 := hid e8; have HE9 := hid e9
      clear e8 e9
      unfold maxLen at y8 y9
      go_wp2_with fail
      go_loopw [11] (fun j wr => ∃ k2 : Nat, k2 ≤ n8 ∧ j = .int .i64 (k2 : Nat) ∧ OwnT w7 w3.heap.size (.slice ao us.length cap) us wr) (fun j _ => n8 - (intOf j).toNat)
      case atStart => exact ⟨0, Nat.zero_le _, rfl, HOW.out⟩
      case round =>
        obtain ⟨k2, hk2, rfl, hown⟩ := hrel
        have hk20 : (0 : Int) ≤ (k2 : Int) := Int.natCast_nonneg _
        have hk2i : (k2 : Int) ≤ (n8 : Int) := by omega
        obtain ⟨gr, cap', e, c1, c4, hcap⟩ := hown.at hlt
        simp only [Value.slice.injEq] at e
        obtain ⟨rfl, _, rfl⟩ := e
        rw [HE8.out] at c1
        rw [HE9.out] at c4
        clear HOW
        by_cases hlt2 : k2 < n8
        · have hlt2i : (k2 : Int) < (n8 : Int) := by omega
          obtain ⟨g8, rfl, ⟨x1, d1⟩, ⟨x2, d2⟩, df, hset⟩ := hown.val hlt HE8.out hlt2
          have HSET := hid hset
          have f1 := df (k2 * 2); have f2 := df (k2 * 2 + 1)
          clear hset hown df
          go_wp2_with fail
          go_roundw
          case rel => exact ⟨k2 + 1, hlt2, by go_num, HSET.out _ _⟩
          case measure => simp [intOf]; omega
        · obtain rfl : k2 = n8 := by omega
          have HOW := hid hown
          clear hown
          go_wp2_with fail
          clear c1 c4
          go_loopw [12] (fun j wr => ∃ k3 : Nat, k3 ≤ n9 ∧ j = .int .i64 (k3 : Nat) ∧ OwnT w7 w3.heap.size (.slice (some ⟨gr, 0, none⟩) us.length cap) us wr) (fun j _ => n9 - (intOf j).toNat)
          case atStart => exact ⟨0, Nat.zero_le _, rfl, HOW.out⟩
          case round =>
            obtain ⟨k3, hk3, rfl, hown⟩ := hrel
            have hk30 : (0 : Int) ≤ (k3 : Int) := Int.natCast_nonneg _
            have hk3i : (k3 : Int) ≤ (n9 : Int) := by omega
            obtain ⟨gr', cap', e, c1, c4, _⟩ := hown.at hlt
            simp only [Value.slice.injEq, Option.some.injEq, Addr.mk.injEq, and_true, true_and] at e
            obtain ⟨rfl, rfl⟩ := e
            rw [HE8.out] at c1
            rw [HE9.out] at c4
            clear HOW
            by_cases hlt3 : k3 < n9
            · have hlt3i : (k3 : Int) < (n9 : Int) := by omega
              obtain ⟨g9, rfl, ⟨x1, d1⟩, df, hset⟩ := hown.min hlt HE9.out hlt3
              have HSET := hid hset
              have f1 := df k3
              clear hset hown df
              go_wp2_with fail
              go_roundw
              case rel => exact ⟨k3 + 1, hlt3, by go_num, HSET.out _⟩
              case measure => simp [intOf]; omega
            · obtain rfl : k3 = n9 := by omega
              have HOW := hid hown
              clear hown
              go_wp2_with fail
              go_roundw
              case rel => exact ⟨k + 1, hlt, by go_num, HOW.out⟩
              case measure => simp [intOf]; omega
    · obtain rfl : k = us.length := by omega
      obtain ⟨ps', _, _, hturn⟩ := HOW.out
      have hpw : wr.heap[w.heap.size]? = _ := hturn.blk (blk_below (blk_below HP0.out HO7.out.2.2.1) HO7.out.2.2.2) (fun hm => by have := (HTT.out _ hm).1; omega)
      have hsz := HO7.out.2.2.1.size
      have hb37 := HO7.out.2.2.1.step HO7.out.2.2.2
      have hb3w : Below w3.heap.size w3 wr := hb37.trans (hturn.below hb37.size (fun x hx => (HTT.out x hx).1))
      have hob := HO7.out.1.turn hturn (fun x hx hm => by have := (HO7.out.1.row.lt x hx).1; have := (HTT.out x hm).2; omega) (fun x hx hm => by have := (HO7.out.1.lt x hx).1; have := (HTT.out x hm).2; omega)
      have hsb := hob.is
      rw [HO7.out.2.1] at hsb
      have HSB := hid hsb; have HBW := hid hb3w
      obtain ⟨c0, c1, c2, _, _, _⟩ := three_at hpw
      clear hturn hpw hsz hb37 hob hsb hb3w HOW
      go_wp2_with fail
      refine (HA.out _ HBW.out).mono ?_
      rintro e w8 ⟨vc, cs, rfl, ho8, hc8, hb8⟩
      have hsc := ho8.is
      rw [hc8] at hsc
      have HSC := hid hsc; have HB8 := hid hb8
      have HSA := hid (fun W (h : Below w8.heap.size w8 W) => refSameC_any vb vc L1 L1 W ((HSB.out.below HB8.out).below h) (HSC.out.below h) HFL.out HFL.out)
      simp only [sameCs_refl] at HSA
      clear c0 c1 c2 ho8 hc8 hb8 hsc
      go_wp2_with ((go_at_call 31; go_loud ((with_reducible refine (HSA.out _ (by (repeat' (first | (with_reducible exact Below.refl _ _) | (with_reducible assumption) | (with_reducible refine Below.new ?_ _) | (with_reducible refine Below.alloc ?_ ?_ _) | (with_reducible refine Below.drew ?_) | (with_reducible refine Below.drewN ?_ _) | (with_reducible refine Below.setCell ?_ ?_ _) | (refine Below.step ?_ (by assumption)) | go_size)))).mono ?_); rintro e x1 ⟨rfl, hx1⟩)))
      go_ret
      exact ⟨rfl, (HB3.out.step (HBW.out.step HB8.out)).step hx1⟩
set_option maxRecDepth 100000 in
theorem RollupOwn_lifted (os : Os) (started : os.Started) (H : Type) (enc : TypeId × Value → H) :
    ReturnsInHanded {} Try.checked os 6 .any (Rows.rollupOwnSpec.pre6 enc Try.prog Try.f6 Rows.rollupOwnRow.domain false) (Rows.rollupOwnSpec.post enc Try.prog Try.f6 false true false false) := by
  refine law_lift started (by kernel_rfl) Try.func6
    (ChangeSpec.witness6 (enc := enc) (C := Try.checked) false ⟨#[], #[.agg #[.slice none 0 0, .slice none 0 0, .int .i64 0], .slice none 0 0], []⟩ 8 (by kernel_rfl) (by kernel_rfl) (by kernel_rfl) (by kernel_rfl)) rfl rfl (by kernel_rfl) ?_ ?_
  · intro ds hl
    match ds, hl with
    | [_, _], _ => exact ⟨rfl, rfl, rfl⟩
  · intro W base args ds p hval hA hsz
    rw [Try.params6] at hA hval hsz
    obtain ⟨v0, vs0, d0, ds0, p0, q0, hargs, rfl, rfl, h0, r0⟩ := trodAll_cons hA
    obtain ⟨v1, vs1, d1, ds1, p1, q1, rfl, rfl, rfl, h1, r1⟩ := trodAll_cons r0
    obtain ⟨rfl, rfl, rfl⟩ := trodAll_nil r1
    obtain rfl : args = #[v0, v1] := by cases args; simp_all
    obtain ⟨va0, vb0, x0, y0, z0, rfl, b0, e0, f0, g0, k0⟩ := open_sch (hval 0 24 v0 rfl rfl) h0
    obtain ⟨x1, b1, e1⟩ := open_rowsT Try.underlying38 (hval 1 38 v1 rfl rfl) h1
    exact RollupOwn_walk _ _ _ _ _ _ _ W b0 e0 f0 g0 k0 b1 e1

theorem RollupOwn_over : Rows.rollupOwnRow.holds Try.pinned (OpenSpec.ofChange Rows.rollupOwnSpec) :=
  OpenClaim.holds_of_wide 6 Try.f6 rfl rfl rfl rfl rfl rfl rfl ⟨rfl, rfl, rfl, rfl, rfl⟩ rfl rfl rfl rfl rfl (by kernel_rfl) Try.func6 (by kernel_rfl)
    (of_decide_eq_true (by kernel_rfl)) (by unfold Func.isWrapper; first | (rw [if_pos (by decide +kernel)]; kernel_rfl) | (rw [if_neg (by decide +kernel)]; exact ⟨rfl, rfl⟩))
    (fun os started H enc _ => RollupOwn_lifted os started H enc)

/-- The statement. -/
theorem RollupOwn_proved : Rows.RollupOwnSaid := RollupOwn_over
end Go.Proofs.Ytdgeinipdphoeaa
