/- Texts joined: SchM, SciG, SciH, LawE, OpenS. -/
import Derived.Test.YtdgeinipdphoeaaDoorHf
import Derived.Test.YtdgeinipdphoeaaDoorHa
import Derived.Test.YtdgeinipdphoeaaDoorHj
import Derived.Test.YtdgeinipdphoeaaDoorHg
import Derived.SizedLaws
import Derived.Lib.SmallJoins
import Derived.ProofKit
import Derived.LaidMore
import Derived.OpenShut
import Derived.Stop.Joined
import Derived.Stop.LaidErr
import Derived.Stop.LaidTwo
import Derived.LaidHandle
import Derived.Test.YtdgeinipdphoeaaDoorHi
import Derived.Test.YtdgeinipdphoeaaDoorHd
import Derived.SliceStrings
import Derived.Deep.Slices
import Derived.Deep.Fields
/- What the laws cut: schemas. -/
namespace Go.Proofs.YtdgeinipdphoeaaDoor
set_option linter.unusedVariables false
set_option linter.unusedSimpArgs false
set_option maxRecDepth 100000
open Go.ChangeShapes Go.WideShapes Go.ChangeAt Go.RowKit

def txtCut (n m : Nat) (ss : List ByteArray) : List ByteArray := (ss.take m).map (cutS n)
theorem txt_snoc (n : Nat) {ss : List ByteArray} {k : Nat} (hk : k < ss.length) : strsV ((ss.take (k + 1)).map (cutS n)) = strsV ((ss.take k).map (cutS n)) ++ [.string (cutS n ss[k])] := by
  rw [List.take_succ_eq_append_getElem hk, List.map_append]
  unfold strsV
  rw [List.map_append]
  rfl
theorem three_is {w : World} {b : Nat} {x y z : Value} {t : TypeId} (h : w.heap[b]? = some (.cells #[x, y, z] t (0, 0))) : w.cell? ⟨b, 0, none⟩ = some x ∧ w.cell? ⟨b, 1, none⟩ = some y ∧ w.cell? ⟨b, 2, none⟩ = some z ∧ w.frozen? ⟨b, 0, none⟩ = false ∧ w.frozen? ⟨b, 1, none⟩ = false ∧ w.frozen? ⟨b, 2, none⟩ = false := by
  unfold World.cell? World.frozen?
  rw [h]
  simp

theorem ownsRow_far {w : World} {base b o : Nat} {e : TypeId} {size : Nat} {v : Value} {n : Nat} {xs : List Value} (h : w.ownsRow base e size v n xs) (hb : b < base) {u : Value} : (w.setCell ⟨b, o, none⟩ u).ownsRow base e size v n xs := by
  refine ⟨h.1, ?_⟩
  rcases h.2 with h2 | ⟨g, cap, cur, hv, hg, hh, r⟩
  · exact .inl h2
  · exact .inr ⟨g, cap, cur, hv, hg, (heap_set_other (by omega)).trans hh, r⟩
theorem row_cnt {w : World} {base : Nat} {e : TypeId} {v : Value} {n : Nat} {X : List ByteArray} (h : w.ownsRow base e 1 v n (strsV X)) : w.ownsRow base e 1 v X.length (strsV X) := by
  have := h.1
  simp at this
  subst this
  exact h
set_option maxHeartbeats 4000000 in
theorem cut_any (vd vm : Value) (ds ms : List ByteArray) (g : Int) (w : World) (hd : StrsSl w vd ds) (hm : StrsSl w vm ms) (td : ∀ s ∈ ds, s.size ≤ 9223372036854775807) (tm : ∀ s ∈ ms, s.size ≤ 9223372036854775807) :
    Calls Tryd.prog 6 #[.agg #[vd, vm, .int .i64 g]] w fun e w' => ∃ v1 v2, e = .returned (.agg #[v1, v2, .int .i64 g]) ∧ w'.ownsRow w.heap.size 9 1 v1 (txtCut 30 10 ds).length (strsV (txtCut 30 10 ds)) ∧ w'.ownsRow w.heap.size 9 1 v2 (txtCut 30 10 ms).length (strsV (txtCut 30 10 ms)) ∧ Below w.heap.size w w' := by
  obtain ⟨i0, hi, hiz0, hiz1, hiz2⟩ := info_parts info_string
  have HD := hid hd; have HM := hid hm
  have HZD := hid (fun i (hi : i < ds.length) => td ds[i] (List.getElem_mem hi))
  have HZM := hid (fun i (hi : i < ms.length) => tm ms[i] (List.getElem_mem hi))
  obtain ⟨ad, cd, rfl, hcd, hcd2, _⟩ := SlAt.shape hd
  obtain ⟨am, cm, rfl, hcm, hcm2, _⟩ := SlAt.shape hm
  obtain ⟨LD, hLD⟩ : ∃ L, ds.length = L := ⟨_, rfl⟩
  obtain ⟨LM, hLM⟩ : ∃ L, ms.length = L := ⟨_, rfl⟩
  have HLD := hid hLD; have HLM := hid hLM
  obtain ⟨N, hN⟩ : ∃ N, min LD 10 = N := ⟨_, rfl⟩
  obtain ⟨M, hM⟩ : ∃ M, min LM 10 = M := ⟨_, rfl⟩
  have HCN : Hid ((N = LD ∨ N = 10) ∧ N ≤ LD ∧ N ≤ 10) := by unfold Hid; omega
  have HCM : Hid ((M = LM ∨ M = 10) ∧ M ≤ LM ∧ M ≤ 10) := by unfold Hid; omega
  rw [hLD] at hcd ⊢
  rw [hLM] at hcm ⊢
  clear hd hm td tm hLD hLM hN hM
  unfold maxLen at hcd2 hcm2
  go_enter Tryd.func6, Tryd.ntmps6
  go_wp2
  go_loopw [4] (fun i wr => ∃ k v, k ≤ N ∧ i = .int .i64 (k : Nat) ∧ wr.heap[w.heap.size + 1 + 1]? = some (.cells #[v, .slice none 0 0, .int .i64 0] 24 (0, 0)) ∧ wr.heap[w.heap.size]? = some (.cells #[.slice ad LD cd, .slice am LM cm, .int .i64 g] 24 (0, 0)) ∧ wr.heap[w.heap.size + 1]? = some (.cells #[.slice none 0 0, .slice none 0 0, .int .i64 0] 24 (0, 0)) ∧ wr.ownsRow (w.heap.size + 1 + 1 + 1) 9 1 v k (strsV ((ds.take k).map (cutS 30))) ∧ Below w.heap.size w wr) (fun i _ => N - (intOf i).toNat)
  case atStart => exact ⟨0, _, Nat.zero_le _, rfl, by (simp (disch := first | omega | (simp only [World.size_alloc, World.size_setCell, World.size_drew]; done) | (simp only [World.size_alloc, World.size_setCell, World.size_drew]; omega)) only [heap_at, heap_past, heap_set_other, heap_set_same]), by (simp (disch := first | omega | (simp only [World.size_alloc, World.size_setCell, World.size_drew]; done) | (simp only [World.size_alloc, World.size_setCell, World.size_drew]; omega)) only [heap_at, heap_past, heap_set_other, heap_set_same]), by (simp (disch := first | omega | (simp only [World.size_alloc, World.size_setCell, World.size_drew]; done) | (simp only [World.size_alloc, World.size_setCell, World.size_drew]; omega)) only [heap_at, heap_past, heap_set_other, heap_set_same]), World.ownsRow_nil _ _ _ _, by (repeat' (first | (with_reducible exact Below.refl _ _) | (with_reducible assumption) | (with_reducible refine Below.new ?_ _) | (with_reducible refine Below.alloc ?_ ?_ _) | (with_reducible refine Below.drew ?_) | (with_reducible refine Below.drewN ?_ _) | (with_reducible refine Below.setCell ?_ ?_ _) | (refine Below.step ?_ (by assumption)) | go_size))⟩
  case round =>
    obtain ⟨k, v, hk, rfl, hb2, hb0, hb1', hown, hbel⟩ := hrel
    obtain ⟨c20, c21, c22, f20, f21, f22⟩ := three_is hb2
    obtain ⟨c00, c01, c02, _, _, _⟩ := three_is hb0
    by_cases hkN : k < N
    · have hkL : k < LD := by have := HCN.out; omega
      have hk10 : k < 10 := by have := HCN.out; omega
      have hlen : k < ds.length := by rw [HLD.out]; exact hkL
      obtain ⟨b, off, rfl, hcell⟩ := (SlAt.parts HD.out).2.2.2.2 (by simp; omega)
      have ck := hcell k (.string ds[k]) (by rw [List.getElem?_map, List.getElem?_eq_getElem hlen]; rfl)
      have hblt : b < w.heap.size := World.block_lt_of_cell? _ _ ck
      have dk := cell_step ck hbel
      have hz := HZD.out k hlen
      have HT := hid (txt_snoc 30 hlen)
      generalize ds[k] = s at *
      have z2 := blk_lt hb2
      have z0 := blk_lt hb0
      have z3 : b < wr.heap.size := World.block_lt_of_cell? _ _ dk
      have HB := hid hbel; have HO := hid hown; have H2 := hid hb2; have H0 := hid hb0; have H1b := hid hb1'; have z1 := blk_lt hb1'
      clear hcell ck hbel hown hb2 hb0 hb1'
      have g1 : (0 : Int) ≤ (k : Int) := Int.natCast_nonneg _
      have g2 : (k : Int) < (LD : Int) := by omega
      have im := ite_min
      have q1 : (0 : Int) ≤ min (s.size : Int) 30 := by omega
      have q2 : min (s.size : Int) 30 ≤ (s.size : Int) := by omega
      have q3 : s.extract 0 (min (s.size : Int) 30).toNat = cutS 30 s := cutS_is 30 s
      go_wp2
      have hS0 : (fun w' : World => w'.cell? ⟨w.heap.size, 0, none⟩ = some (.slice (some ⟨b, off, none⟩) LD cd) ∧ w'.cell? ⟨w.heap.size + 1 + 1, 0, none⟩ = some v ∧ w'.cell? ⟨b, off + k, none⟩ = some (.string s)) wr.drew := ⟨c00, c20, dk⟩
      refine wp_region_some (fun w' : World => w'.cell? ⟨w.heap.size, 0, none⟩ = some (.slice (some ⟨b, off, none⟩) LD cd) ∧ w'.cell? ⟨w.heap.size + 1 + 1, 0, none⟩ = some v ∧ w'.cell? ⟨b, off + k, none⟩ = some (.string s)) [16, 17, 18] (by kernel_rfl) ?_
      (refine wpMix_take (i := 0) (v := ?_) rfl (by kernel_rfl) (fun _ _ _ h => h) (Or.inl ⟨by rfl, ?_⟩) hS0 ?_; rotate_left 1; (focus (intro w hSw; (try dsimp only at hSw); go_simp; try (with_reducible rfl))); (try simp only [Act.put, List.setIfInBounds_toArray, List.set_cons_zero, List.set_cons_succ]))
      (refine wpMix_take (i := 1) (v := ?_) rfl (by kernel_rfl) (fun _ _ _ h => h) (Or.inl ⟨by rfl, ?_⟩) hS0 ?_; rotate_left 1; (focus (intro w hSw; (try dsimp only at hSw); go_simp; try (with_reducible rfl))); (try simp only [Act.put, List.setIfInBounds_toArray, List.set_cons_zero, List.set_cons_succ]))
      (refine wpMix_take (i := 2) (v := ?_) rfl (by kernel_rfl) (fun _ _ _ h => h) (Or.inl ⟨by rfl, ?_⟩) hS0 ?_; rotate_left 1; (focus (intro w hSw; (try dsimp only at hSw); go_simp; try (with_reducible rfl))); (try simp only [Act.put, List.setIfInBounds_toArray, List.set_cons_zero, List.set_cons_succ]))
      (refine wpMix_take (i := 3) (v := ?_) rfl (by kernel_rfl) (fun _ _ _ h => h) (Or.inl ⟨by rfl, ?_⟩) hS0 ?_; rotate_left 1; (focus (intro w hSw; (try dsimp only at hSw); go_simp; try (with_reducible rfl))); (try simp only [Act.put, List.setIfInBounds_toArray, List.set_cons_zero, List.set_cons_succ]))
      (refine wpMix_take (i := 4) (v := ?_) rfl (by kernel_rfl) (fun _ _ _ h => h) (Or.inl ⟨by rfl, ?_⟩) hS0 ?_; rotate_left 1; (focus (intro w hSw; (try dsimp only at hSw); go_simp; try (with_reducible rfl))); (try simp only [Act.put, List.setIfInBounds_toArray, List.set_cons_zero, List.set_cons_succ]))
      (refine wpMix_take (i := 5) (v := ?_) rfl (by kernel_rfl) (fun _ _ _ h => h) (Or.inl ⟨by rfl, ?_⟩) hS0 ?_; rotate_left 1; (focus (intro w hSw; (try dsimp only at hSw); go_simp; try (with_reducible rfl))); (try simp only [Act.put, List.setIfInBounds_toArray, List.set_cons_zero, List.set_cons_succ]))
      (refine wpMix_take (i := 6) (v := ?_) rfl (by kernel_rfl) (fun _ _ _ h => h) (Or.inl ⟨by rfl, ?_⟩) hS0 ?_; rotate_left 1; (focus (intro w hSw; (try dsimp only at hSw); go_simp; try (with_reducible rfl))); (try simp only [Act.put, List.setIfInBounds_toArray, List.set_cons_zero, List.set_cons_succ]))
      (refine wpMix_take (i := 7) (v := ?_) rfl (by kernel_rfl) (fun _ _ _ h => h) (Or.inl ⟨by rfl, ?_⟩) hS0 ?_; rotate_left 1; (focus (intro w hSw; (try dsimp only at hSw); go_simp; try (with_reducible rfl))); (try simp only [Act.put, List.setIfInBounds_toArray, List.set_cons_zero, List.set_cons_succ]))
      (refine wpMix_take (i := 8) (v := ?_) rfl (by kernel_rfl) (fun _ _ _ h => h) (Or.inl ⟨by rfl, ?_⟩) hS0 ?_; rotate_left 1; (focus (intro w hSw; (try dsimp only at hSw); go_simp; try (with_reducible rfl))); (try simp only [Act.put, List.setIfInBounds_toArray, List.set_cons_zero, List.set_cons_succ]))
      (refine wpMix_take (i := 9) (v := ?_) rfl (by kernel_rfl) (fun _ _ _ h => h) (Or.inl ⟨by rfl, ?_⟩) hS0 ?_; rotate_left 1; (focus (intro w hSw; (try dsimp only at hSw); go_simp; try (with_reducible rfl))); (try simp only [Act.put, List.setIfInBounds_toArray, List.set_cons_zero, List.set_cons_succ]))
      (refine wpMix_take (i := 10) (v := ?_) rfl (by kernel_rfl) (fun _ _ _ h => h) (Or.inl ⟨by rfl, ?_⟩) hS0 ?_; rotate_left 1; (focus (intro w hSw; (try dsimp only at hSw); go_simp; try (with_reducible rfl))); (try simp only [Act.put, List.setIfInBounds_toArray, List.set_cons_zero, List.set_cons_succ]))
      (refine wpMix_take (i := 11) (v := ?_) rfl (by kernel_rfl) (fun _ _ _ h => h) (Or.inl ⟨by rfl, ?_⟩) hS0 ?_; rotate_left 1; (focus (intro w hSw; (try dsimp only at hSw); go_simp; try (with_reducible rfl))); (try simp only [Act.put, List.setIfInBounds_toArray, List.set_cons_zero, List.set_cons_succ]))
      (refine wpMix_take (i := 12) (v := ?_) rfl (by kernel_rfl) (fun _ _ _ h => h) (Or.inl ⟨by rfl, ?_⟩) hS0 ?_; rotate_left 1; (focus (intro w hSw; (try dsimp only at hSw); go_simp; try (with_reducible rfl))); (try simp only [Act.put, List.setIfInBounds_toArray, List.set_cons_zero, List.set_cons_succ]))
      (refine wpMix_take (i := 13) (v := ?_) rfl (by kernel_rfl) (fun _ _ _ h => h) (Or.inl ⟨by rfl, ?_⟩) hS0 ?_; rotate_left 1; (focus (intro w hSw; (try dsimp only at hSw); go_simp; try (with_reducible rfl))); (try simp only [Act.put, List.setIfInBounds_toArray, List.set_cons_zero, List.set_cons_succ]))
      (refine wpMix_take (i := 14) (v := ?_) rfl (by kernel_rfl) (fun _ _ _ h => h) (Or.inl ⟨by rfl, ?_⟩) hS0 ?_; rotate_left 1; (focus (intro w hSw; (try dsimp only at hSw); go_simp; try (with_reducible rfl))); (try simp only [Act.put, List.setIfInBounds_toArray, List.set_cons_zero, List.set_cons_succ]))
      refine wpMix_next (t := 15) (by kernel_rfl) ?_
      simp only [opsAt, List.flatMap_cons, List.flatMap_nil, List.take_succ_cons, List.take_zero, List.drop_succ_cons, List.drop_zero, List.append_nil, List.cons_append, List.nil_append]
      go_wp2
      refine ⟨⟨by go_simp, by go_simp, by go_simp⟩, ?_⟩
      refine wpMix_rest [16, 17, 18] (by kernel_rfl) ?_
      simp only [opsAt, List.flatMap_cons, List.flatMap_nil, List.take_succ_cons, List.take_zero, List.drop_succ_cons, List.drop_zero, List.append_nil, List.cons_append, List.nil_append]
      go_wp2_with (at_builtin; go_loud (refine wpList_append_sl _ rfl _ _ 22 rfl (w.heap.size + 1 + 1 + 1) 9 i0 (.string { data := #[] }) 1 16 Tryd.underlying22 hi hiz0 hiz1 hiz2 rfl (by decide) v k _ rfl ((HO.out.alloc _).drew) (.slice (some ⟨wr.heap.size, 0, none⟩) 1 1) 1 [.string (cutS 30 s)] rfl ((SlAt.new wr #[.string (cutS 30 s)] 9).drew) (by simp [Value.oneCell']) (by unfold maxLen; omega) (by omega) (by go_size) ?_); intro v1 w1 hown1 hgrow1 hb1; obtain ⟨a1, cp1, rfl, _, _, _⟩ := SlAt.shape (SlAt.own hown1); have hbk : w1.heap[w.heap.size + 1 + 1]? = some (.cells #[v, .slice none 0 0, .int .i64 0] 24 (0, 0)) := own_blk ((HO.out.alloc _).drew) hgrow1 (by omega) ((heap_past z2).trans H2.out); have e0 : w1.cell? ⟨w.heap.size + 1 + 1, 0, none⟩ = some v := (blk_cell hbk).trans rfl; have e1 : w1.frozen? ⟨w.heap.size + 1 + 1, 0, none⟩ = false := blk_free hbk)
      go_roundw
      case rel => exact ⟨k + 1, _, hkN, by go_num, blk_set hbk, (heap_set_other (by omega)).trans (own_blk ((HO.out.alloc _).drew) hgrow1 (by omega) ((heap_past z0).trans H0.out)), (heap_set_other (by omega)).trans (own_blk ((HO.out.alloc _).drew) hgrow1 (by omega) ((heap_past z1).trans H1b.out)), by rw [HT.out]; exact ownsRow_far hown1 (by omega), Below.setCell (own_below ((HO.out.alloc _).drew) hgrow1 (by have := HB.out; (repeat' (first | (with_reducible exact Below.refl _ _) | (with_reducible assumption) | (with_reducible refine Below.new ?_ _) | (with_reducible refine Below.alloc ?_ ?_ _) | (with_reducible refine Below.drew ?_) | (with_reducible refine Below.drewN ?_ _) | (with_reducible refine Below.setCell ?_ ?_ _) | (refine Below.step ?_ (by assumption)) | go_size))) (by omega)) (by simp; omega) _⟩
      case measure => simp [intOf]; omega
    · obtain rfl : k = N := by omega
      have hE : strsV ((ds.take k).map (cutS 30)) = strsV (txtCut 30 10 ds) := by
        have h1 := HCN.out; have h2 := HLD.out
        unfold txtCut
        rcases h1.1 with h | h
        · rw [List.take_of_length_le (by omega), List.take_of_length_le (by omega)]
        · rw [h]
      rw [hE] at hown
      have hv0 : StrsSl wr v (txtCut 30 10 ds) := StrsSl.own hown
      have HV0 := hid hown; have HG := hid (fun g h => (hown.lt g h).2); have HB := hid hbel; have H2 := hid hb2; have H0 := hid hb0; have H1b := hid hb1'; have z1 := blk_lt hb1'
      have hex : LD = k ∨ (k < LD ∧ k = 10) := by have := HCN.out; omega
      have HEX := hid hex
      obtain ⟨a0, cp0, rfl, _, _, _⟩ := SlAt.shape hv0
      generalize (txtCut 30 10 ds).length = n0 at *
      have hVs := hbel.size
      clear hE hown hbel hb2 hb0 hb1' hv0 hex z1
      obtain ⟨V0, hV0⟩ : ∃ V, wr = V := ⟨_, rfl⟩
      rw [hV0] at HV0 HG HB H2 H0 H1b hVs c20 c21 c22 f20 f21 f22 c00 c01 c02 ⊢
      clear hV0
      have zV := blk_lt H2.out
      obtain ⟨n9, hn9⟩ : ∃ n9, k = n9 := ⟨_, rfl⟩
      rw [hn9] at HV0
      clear hn9
      rcases HEX.out with h | ⟨h, h10⟩
      all_goals
        first | subst h | skip
        first | subst h10 | skip
        go_wp2
        go_loopw [5] (fun i wr => ∃ j v, j ≤ M ∧ i = .int .i64 (j : Nat) ∧ wr.heap[w.heap.size + 1 + 1]? = some (.cells #[.slice a0 n0 cp0, v, .int .i64 0] 24 (0, 0)) ∧ wr.heap[w.heap.size]? = some (.cells #[.slice ad LD cd, .slice am LM cm, .int .i64 g] 24 (0, 0)) ∧ wr.heap[w.heap.size + 1]? = some (.cells #[.slice none 0 0, .slice none 0 0, .int .i64 0] 24 (0, 0)) ∧ wr.ownsRow V0.heap.size 9 1 v j (strsV ((ms.take j).map (cutS 30))) ∧ wr.ownsRow (w.heap.size + 1 + 1 + 1) 9 1 (.slice a0 n0 cp0) n9 (strsV (txtCut 30 10 ds)) ∧ V0.heap.size ≤ wr.heap.size ∧ Below w.heap.size w wr) (fun i _ => M - (intOf i).toNat)
        case atStart => exact ⟨0, _, Nat.zero_le _, rfl, H2.out, H0.out, H1b.out, World.ownsRow_nil _ _ _ _, HV0.out, Nat.le_refl _, HB.out⟩
        case round =>
          obtain ⟨j, v, hj, rfl, hb2, hb0, hb1', hown, hown1', hVw, hbel⟩ := hrel
          clear c20 c21 c22 f20 f21 f22 c00 c01 c02
          obtain ⟨c20, c21, c22, f20, f21, f22⟩ := three_is hb2
          obtain ⟨c00, c01, c02, _, _, _⟩ := three_is hb0
          by_cases hjM : j < M
          · have hjL : j < LM := by have := HCM.out; omega
            have hj10 : j < 10 := by have := HCM.out; omega
            have hlen : j < ms.length := by rw [HLM.out]; exact hjL
            obtain ⟨b, off, rfl, hcell⟩ := (SlAt.parts HM.out).2.2.2.2 (by simp; omega)
            have ck := hcell j (.string ms[j]) (by rw [List.getElem?_map, List.getElem?_eq_getElem hlen]; rfl)
            have hblt : b < w.heap.size := World.block_lt_of_cell? _ _ ck
            have dk := cell_step ck hbel
            have hz := HZM.out j hlen
            have HT := hid (txt_snoc 30 hlen)
            generalize ms[j] = s at *
            have z2 := blk_lt hb2
            have z0 := blk_lt hb0
            have z3 : b < wr.heap.size := World.block_lt_of_cell? _ _ dk
            have HB := hid hbel; have HO := hid hown; have H1 := hid hown1'; have H2 := hid hb2; have H0 := hid hb0; have H1b := hid hb1'; have z1 := blk_lt hb1'
            clear hcell ck hbel hown hb2 hb0 hb1' hown1'
            have g1 : (0 : Int) ≤ (j : Int) := Int.natCast_nonneg _
            have g2 : (j : Int) < (LM : Int) := by omega
            have im := ite_min
            have q1 : (0 : Int) ≤ min (s.size : Int) 30 := by omega
            have q2 : min (s.size : Int) 30 ≤ (s.size : Int) := by omega
            have q3 : s.extract 0 (min (s.size : Int) 30).toNat = cutS 30 s := cutS_is 30 s
            go_wp2
            have hS0 : (fun w' : World => w'.cell? ⟨w.heap.size, 1, none⟩ = some (.slice (some ⟨b, off, none⟩) LM cm) ∧ w'.cell? ⟨w.heap.size + 1 + 1, 1, none⟩ = some v ∧ w'.cell? ⟨b, off + j, none⟩ = some (.string s)) wr.drew := ⟨c01, c21, dk⟩
            refine wp_region_some (fun w' : World => w'.cell? ⟨w.heap.size, 1, none⟩ = some (.slice (some ⟨b, off, none⟩) LM cm) ∧ w'.cell? ⟨w.heap.size + 1 + 1, 1, none⟩ = some v ∧ w'.cell? ⟨b, off + j, none⟩ = some (.string s)) [16, 17, 18] (by kernel_rfl) ?_
            (refine wpMix_take (i := 0) (v := ?_) rfl (by kernel_rfl) (fun _ _ _ h => h) (Or.inl ⟨by rfl, ?_⟩) hS0 ?_; rotate_left 1; (focus (intro w hSw; (try dsimp only at hSw); go_simp; try (with_reducible rfl))); (try simp only [Act.put, List.setIfInBounds_toArray, List.set_cons_zero, List.set_cons_succ]))
            (refine wpMix_take (i := 1) (v := ?_) rfl (by kernel_rfl) (fun _ _ _ h => h) (Or.inl ⟨by rfl, ?_⟩) hS0 ?_; rotate_left 1; (focus (intro w hSw; (try dsimp only at hSw); go_simp; try (with_reducible rfl))); (try simp only [Act.put, List.setIfInBounds_toArray, List.set_cons_zero, List.set_cons_succ]))
            (refine wpMix_take (i := 2) (v := ?_) rfl (by kernel_rfl) (fun _ _ _ h => h) (Or.inl ⟨by rfl, ?_⟩) hS0 ?_; rotate_left 1; (focus (intro w hSw; (try dsimp only at hSw); go_simp; try (with_reducible rfl))); (try simp only [Act.put, List.setIfInBounds_toArray, List.set_cons_zero, List.set_cons_succ]))
            (refine wpMix_take (i := 3) (v := ?_) rfl (by kernel_rfl) (fun _ _ _ h => h) (Or.inl ⟨by rfl, ?_⟩) hS0 ?_; rotate_left 1; (focus (intro w hSw; (try dsimp only at hSw); go_simp; try (with_reducible rfl))); (try simp only [Act.put, List.setIfInBounds_toArray, List.set_cons_zero, List.set_cons_succ]))
            (refine wpMix_take (i := 4) (v := ?_) rfl (by kernel_rfl) (fun _ _ _ h => h) (Or.inl ⟨by rfl, ?_⟩) hS0 ?_; rotate_left 1; (focus (intro w hSw; (try dsimp only at hSw); go_simp; try (with_reducible rfl))); (try simp only [Act.put, List.setIfInBounds_toArray, List.set_cons_zero, List.set_cons_succ]))
            (refine wpMix_take (i := 5) (v := ?_) rfl (by kernel_rfl) (fun _ _ _ h => h) (Or.inl ⟨by rfl, ?_⟩) hS0 ?_; rotate_left 1; (focus (intro w hSw; (try dsimp only at hSw); go_simp; try (with_reducible rfl))); (try simp only [Act.put, List.setIfInBounds_toArray, List.set_cons_zero, List.set_cons_succ]))
            (refine wpMix_take (i := 6) (v := ?_) rfl (by kernel_rfl) (fun _ _ _ h => h) (Or.inl ⟨by rfl, ?_⟩) hS0 ?_; rotate_left 1; (focus (intro w hSw; (try dsimp only at hSw); go_simp; try (with_reducible rfl))); (try simp only [Act.put, List.setIfInBounds_toArray, List.set_cons_zero, List.set_cons_succ]))
            (refine wpMix_take (i := 7) (v := ?_) rfl (by kernel_rfl) (fun _ _ _ h => h) (Or.inl ⟨by rfl, ?_⟩) hS0 ?_; rotate_left 1; (focus (intro w hSw; (try dsimp only at hSw); go_simp; try (with_reducible rfl))); (try simp only [Act.put, List.setIfInBounds_toArray, List.set_cons_zero, List.set_cons_succ]))
            (refine wpMix_take (i := 8) (v := ?_) rfl (by kernel_rfl) (fun _ _ _ h => h) (Or.inl ⟨by rfl, ?_⟩) hS0 ?_; rotate_left 1; (focus (intro w hSw; (try dsimp only at hSw); go_simp; try (with_reducible rfl))); (try simp only [Act.put, List.setIfInBounds_toArray, List.set_cons_zero, List.set_cons_succ]))
            (refine wpMix_take (i := 9) (v := ?_) rfl (by kernel_rfl) (fun _ _ _ h => h) (Or.inl ⟨by rfl, ?_⟩) hS0 ?_; rotate_left 1; (focus (intro w hSw; (try dsimp only at hSw); go_simp; try (with_reducible rfl))); (try simp only [Act.put, List.setIfInBounds_toArray, List.set_cons_zero, List.set_cons_succ]))
            (refine wpMix_take (i := 10) (v := ?_) rfl (by kernel_rfl) (fun _ _ _ h => h) (Or.inl ⟨by rfl, ?_⟩) hS0 ?_; rotate_left 1; (focus (intro w hSw; (try dsimp only at hSw); go_simp; try (with_reducible rfl))); (try simp only [Act.put, List.setIfInBounds_toArray, List.set_cons_zero, List.set_cons_succ]))
            (refine wpMix_take (i := 11) (v := ?_) rfl (by kernel_rfl) (fun _ _ _ h => h) (Or.inl ⟨by rfl, ?_⟩) hS0 ?_; rotate_left 1; (focus (intro w hSw; (try dsimp only at hSw); go_simp; try (with_reducible rfl))); (try simp only [Act.put, List.setIfInBounds_toArray, List.set_cons_zero, List.set_cons_succ]))
            (refine wpMix_take (i := 12) (v := ?_) rfl (by kernel_rfl) (fun _ _ _ h => h) (Or.inl ⟨by rfl, ?_⟩) hS0 ?_; rotate_left 1; (focus (intro w hSw; (try dsimp only at hSw); go_simp; try (with_reducible rfl))); (try simp only [Act.put, List.setIfInBounds_toArray, List.set_cons_zero, List.set_cons_succ]))
            (refine wpMix_take (i := 13) (v := ?_) rfl (by kernel_rfl) (fun _ _ _ h => h) (Or.inl ⟨by rfl, ?_⟩) hS0 ?_; rotate_left 1; (focus (intro w hSw; (try dsimp only at hSw); go_simp; try (with_reducible rfl))); (try simp only [Act.put, List.setIfInBounds_toArray, List.set_cons_zero, List.set_cons_succ]))
            (refine wpMix_take (i := 14) (v := ?_) rfl (by kernel_rfl) (fun _ _ _ h => h) (Or.inl ⟨by rfl, ?_⟩) hS0 ?_; rotate_left 1; (focus (intro w hSw; (try dsimp only at hSw); go_simp; try (with_reducible rfl))); (try simp only [Act.put, List.setIfInBounds_toArray, List.set_cons_zero, List.set_cons_succ]))
            refine wpMix_next (t := 15) (by kernel_rfl) ?_
            simp only [opsAt, List.flatMap_cons, List.flatMap_nil, List.take_succ_cons, List.take_zero, List.drop_succ_cons, List.drop_zero, List.append_nil, List.cons_append, List.nil_append]
            go_wp2
            refine ⟨⟨by go_simp, by go_simp, by go_simp⟩, ?_⟩
            refine wpMix_rest [16, 17, 18] (by kernel_rfl) ?_
            simp only [opsAt, List.flatMap_cons, List.flatMap_nil, List.take_succ_cons, List.take_zero, List.drop_succ_cons, List.drop_zero, List.append_nil, List.cons_append, List.nil_append]
            go_wp2_with (at_builtin; go_loud (refine wpList_append_sl _ rfl _ _ 22 rfl V0.heap.size 9 i0 (.string { data := #[] }) 1 16 Tryd.underlying22 hi hiz0 hiz1 hiz2 rfl (by decide) v j _ rfl ((HO.out.alloc _).drew) (.slice (some ⟨wr.heap.size, 0, none⟩) 1 1) 1 [.string (cutS 30 s)] rfl ((SlAt.new wr #[.string (cutS 30 s)] 9).drew) (by simp [Value.oneCell']) (by unfold maxLen; omega) (by omega) (by have := hVw; simp; omega) ?_); intro v1 w1 hown1 hgrow1 hb1; obtain ⟨a1, cp1, rfl, _, _, _⟩ := SlAt.shape (SlAt.own hown1); have hbk : w1.heap[w.heap.size + 1 + 1]? = some (.cells #[.slice a0 n0 cp0, v, .int .i64 0] 24 (0, 0)) := own_blk ((HO.out.alloc _).drew) hgrow1 (by omega) ((heap_past z2).trans H2.out); have e0 : w1.cell? ⟨w.heap.size + 1 + 1, 1, none⟩ = some v := (blk_cell hbk).trans rfl; have e1 : w1.frozen? ⟨w.heap.size + 1 + 1, 1, none⟩ = false := blk_free hbk)
            go_roundw
            case rel => exact ⟨j + 1, _, hjM, by go_num, blk_set hbk, (heap_set_other (by omega)).trans (own_blk ((HO.out.alloc _).drew) hgrow1 (by omega) ((heap_past z0).trans H0.out)), (heap_set_other (by omega)).trans (own_blk ((HO.out.alloc _).drew) hgrow1 (by omega) ((heap_past z1).trans H1b.out)), by rw [HT.out]; exact ownsRow_far hown1 (by omega), ownsRow_far (((H1.out.alloc _).drew).kept hgrow1 (by cases hg : (Value.slice a0 n0 cp0).ownBlock with | none => exact .inl rfl | some g => exact .inr fun e => by have h1 := HG.out g hg; have h2 := (HO.out.lt g e.symm).1; omega)) (by omega), by have := hgrow1.size; simp at this ⊢; omega, Below.setCell (own_below ((HO.out.alloc _).drew) hgrow1 (by have := HB.out; (repeat' (first | (with_reducible exact Below.refl _ _) | (with_reducible assumption) | (with_reducible refine Below.new ?_ _) | (with_reducible refine Below.alloc ?_ ?_ _) | (with_reducible refine Below.drew ?_) | (with_reducible refine Below.drewN ?_ _) | (with_reducible refine Below.setCell ?_ ?_ _) | (refine Below.step ?_ (by assumption)) | go_size))) (by omega)) (by simp; omega) _⟩
            case measure => simp [intOf]; omega
          · obtain rfl : j = M := by omega
            have hE : strsV ((ms.take j).map (cutS 30)) = strsV (txtCut 30 10 ms) := by
              have h1 := HCM.out; have h2 := HLM.out
              unfold txtCut
              rcases h1.1 with h | h
              · rw [List.take_of_length_le (by omega), List.take_of_length_le (by omega)]
              · rw [h]
            rw [hE] at hown
            have hv1 : StrsSl wr v (txtCut 30 10 ms) := StrsSl.own hown
            obtain ⟨a1, cp1, rfl, _, _, _⟩ := SlAt.shape hv1
            obtain ⟨c10, c11, c12, f10, f11, f12⟩ := three_is hb1'
            have z2 := blk_lt hb2
            have z1 := blk_lt hb1'
            have HV1 := hid hown; have HV2 := hid hown1'; have HB2 := hid hbel; have H2' := hid hb2; have H1' := hid hb1'
            have hex : LM = j ∨ (j < LM ∧ j = 10) := by have := HCM.out; omega
            have HEX2 := hid hex
            generalize (txtCut 30 10 ms).length = n1 at *
            clear hE hown hown1' hbel hb2 hb0 hb1' hv1 hex
            rcases HEX2.out with h | ⟨h, h10⟩
            all_goals
              first | subst h | skip
              first | subst h10 | skip
              go_wp2
              ((show bodyPost _ _ _ _ _ _); refine bodyPost_ret (by simp only [results, Tryd.results6]; go_simp; try rfl) rfl ?_)
              have x1 := ownsRow_far (b := w.heap.size + 1 + 1) (o := 2) (u := .int .i64 g) HV2.out (by omega)
              have x2 := ownsRow_far (b := w.heap.size + 1) (o := 0) (u := .slice a0 n0 cp0) x1 (by omega)
              have x3 := ownsRow_far (b := w.heap.size + 1) (o := 1) (u := .slice a1 n1 cp1) x2 (by omega)
              have x4 := (row_cnt (ownsRow_far (b := w.heap.size + 1) (o := 2) (u := .int .i64 g) x3 (by omega))).base_le (b' := w.heap.size) (by omega)
              have y1 := ownsRow_far (b := w.heap.size + 1 + 1) (o := 2) (u := .int .i64 g) HV1.out (by omega)
              have y2 := ownsRow_far (b := w.heap.size + 1) (o := 0) (u := .slice a0 n0 cp0) y1 (by omega)
              have y3 := ownsRow_far (b := w.heap.size + 1) (o := 1) (u := .slice a1 n1 cp1) y2 (by omega)
              have y4 := (row_cnt (ownsRow_far (b := w.heap.size + 1) (o := 2) (u := .int .i64 g) y3 (by omega))).base_le (b' := w.heap.size) (by omega)
              exact ⟨_, _, rfl, x4, y4, by have := HB2.out; (repeat' (first | (with_reducible exact Below.refl _ _) | (with_reducible assumption) | (with_reducible refine Below.new ?_ _) | (with_reducible refine Below.alloc ?_ ?_ _) | (with_reducible refine Below.drew ?_) | (with_reducible refine Below.drewN ?_ _) | (with_reducible refine Below.setCell ?_ ?_ _) | (refine Below.step ?_ (by assumption)) | go_size))⟩
end Go.Proofs.YtdgeinipdphoeaaDoor
/- The walk of SchemaCodes. -/
namespace Go.Proofs.YtdgeinipdphoeaaDoor
set_option linter.unusedVariables false
set_option linter.unusedSimpArgs false
set_option maxRecDepth 100000
open Go.ChangeShapes Go.WideShapes Go.ChangeAt Go.RowKit Go.Joins

theorem txt_ok (n : Nat) (hn : n ≤ 1000) (ss : List ByteArray) : Texts (txtCut n 10 ss) := by
  refine ⟨by unfold txtCut; simp; omega, fun s hs => ?_⟩
  unfold txtCut at hs
  obtain ⟨a, _, rfl⟩ := List.mem_map.1 hs
  have := cutS_size n a
  omega
theorem vals_ok (l : List ValD) : Vals (valsCut l) := by
  refine ⟨by unfold valsCut; simp; omega, fun s hs => ?_⟩
  unfold valsCut at hs
  obtain ⟨a, _, rfl⟩ := List.mem_map.1 hs
  have := cutS_size 110 a.s
  show (cutS 110 a.s).size ≤ _
  omega

theorem decF_len (ds ms : List ByteArray) (g : Int) (s : ByteArray) : (decF ds ms g s).nums.length ≤ 1000 := by
  unfold decF
  by_cases hr : rightS ds ms g = true
  · rw [if_pos hr]
    unfold rightS at hr
    simp only [Bool.and_eq_true, decide_eq_true_eq] at hr
    by_cases hF : (rowF ds.length ms.length s).code = 0
    · have := (rowF_dec hF).2.1; omega
    · rw [rowF_bad hF]; simp
  · rw [if_neg hr]; simp
set_option maxHeartbeats 4000000 in
theorem SchemaCodes_core (vd vm : Value) (ds ms : List ByteArray) (g : Int) (vr vn : Value) (t : Int) (l : List ValD) (xs : List Int) (s : ByteArray) (hs : s.size ≤ 9223372036854775807) (w : World)
    (hd : StrsSl w vd ds) (hm : StrsSl w vm ms) (td : ∀ s ∈ ds, s.size ≤ 9223372036854775807) (tm : ∀ s ∈ ms, s.size ≤ 9223372036854775807) (hg : I64 g)
    (hr : ValsSl w vr l) (hn : IntsSl w vn xs) (tl : ∀ v ∈ l, v.s.size ≤ 9223372036854775807) (tx : ∀ n ∈ xs, I64 n) (ht : I64 t) (am an : Addr) (hsent : Sent am an w) (hty : TypeG w) :
    Calls Tryd.prog 3 #[.agg #[vd, vm, .int .i64 g], .agg #[.int .i64 t, vr, vn], .string s] w fun e w' => e = .returned (.bool true) ∧ Below w.heap.size w w' := by
  have HSE := hid hsent; have HTY := hid hty
  clear hsent hty
  have HCUT := hid (fun W (h : Below w.heap.size w W) => cut_any vd vm ds ms g W (hd.below h) (hm.below h) td tm)
  have HFEW := hid (fun W (h : Below w.heap.size w W) => fewRow_any vr vn t l xs W (hr.below h) tl (hn.below h))
  obtain ⟨ad, cd, rfl, _, _, _⟩ := SlAt.shape hd
  obtain ⟨am', cm, rfl, _, _, _⟩ := SlAt.shape hm
  obtain ⟨ar, cr, rfl, _, _, _⟩ := SlAt.shape hr
  obtain ⟨an', cn, rfl, _, _, _⟩ := SlAt.shape hn
  have T1 := txt_ok 30 (by decide) ds; have T2 := txt_ok 30 (by decide) ms; have T3 := vals_ok l
  have T4 : Nums64 (xs.take 10) := fun n hn => tx n (List.mem_of_mem_take hn)
  have T5 : (xs.take 10).length ≤ 10 := by simp; omega
  have HD := hid hd; have HM := hid hm; have HR := hid hr; have HN := hid hn
  clear hd hm hr hn td tm tl tx
  generalize ds.length = nd at *
  generalize ms.length = nm at *
  generalize l.length = nl at *
  generalize xs.length = nx at *
  obtain ⟨D, hD⟩ : ∃ D, txtCut 30 10 ds = D := ⟨_, rfl⟩
  obtain ⟨M, hM⟩ : ∃ M, txtCut 30 10 ms = M := ⟨_, rfl⟩
  obtain ⟨V, hV⟩ : ∃ V, valsCut l = V := ⟨_, rfl⟩
  obtain ⟨X, hX⟩ : ∃ X, xs.take 10 = X := ⟨_, rfl⟩
  rw [hD, hM] at HCUT; rw [hV, hX] at HFEW
  rw [hD] at T1; rw [hM] at T2; rw [hV] at T3; rw [hX] at T4 T5
  clear hD hM hV hX
  go_enter Tryd.func3, Tryd.ntmps3
  go_wp2_with (go_at_call 5; go_loud ((with_reducible refine (shown10_any _).mono ?_); rintro e w1 ⟨rfl, hb1⟩; have hB1 : Below w.heap.size w w1 := (by (repeat' (first | (with_reducible exact Below.refl _ _) | (with_reducible assumption) | (with_reducible refine Below.new ?_ _) | (with_reducible refine Below.alloc ?_ ?_ _) | (with_reducible refine Below.drew ?_) | (with_reducible refine Below.drewN ?_ _) | (with_reducible refine Below.setCell ?_ ?_ _) | (refine Below.step ?_ (by assumption)) | go_size))); have hst := hid (show SchSt w ds ms g t l xs (.slice ad nd cd) (.slice am' nm cm) (.slice ar nl cr) (.slice an' nx cn) w1 from ⟨hB1, blk_below (by (simp (disch := first | omega | (simp only [World.size_alloc, World.size_setCell, World.size_drew]; done) | (simp only [World.size_alloc, World.size_setCell, World.size_drew]; omega)) only [heap_at, heap_past, heap_set_other, heap_set_same])) hb1, blk_below (by (simp (disch := first | omega | (simp only [World.size_alloc, World.size_setCell, World.size_drew]; done) | (simp only [World.size_alloc, World.size_setCell, World.size_drew]; omega)) only [heap_at, heap_past, heap_set_other, heap_set_same])) hb1, HD.out.below hB1, HM.out.below hB1, HR.out.below hB1, HN.out.below hB1⟩); obtain ⟨c0, c1, c2, f0, f1, f2⟩ := three_at hst.out.sch))
  refine (HCUT.out _ hB1).mono ?_
  rintro e w2 ⟨v1, v2, rfl, ho1, ho2, hb2⟩
  obtain ⟨a1, k1, rfl, _, _, _⟩ := SlAt.shape (SlAt.own ho1)
  obtain ⟨a2, k2, rfl, _, _, _⟩ := SlAt.shape (SlAt.own ho2)
  clear c0 c1 c2 f0 f1 f2
  have hz1 := blk_lt hst.out.row
  have hz2 := hb2.size
  have hst2 := hid (hst.out.cut HR.out HN.out hb2 ho1 ho2 (by omega) (by omega))
  have g1 := hid (row_far3 (b := w.heap.size) (x' := .slice a1 D.length k1) (y' := .slice a2 M.length k2) (z' := .int .i64 g) ho1 (by omega))
  have g2 := hid (row_far3 (b := w.heap.size) (x' := .slice a1 D.length k1) (y' := .slice a2 M.length k2) (z' := .int .i64 g) ho2 (by omega))
  obtain ⟨c0, c1, c2, f0, f1, f2⟩ := three_at (blk_below hst.out.sch hb2)
  obtain ⟨d0, d1, d2, e0, e1, e2⟩ := three_at (blk_below hst.out.row hb2)
  have hz4 : w.heap.size + 1 < w2.heap.size := by omega
  clear ho1 ho2 hst hb1
  generalize D.length = nD at *
  generalize M.length = nM at *
  go_wp2_with fail
  clear c0 c1 c2 f0 f1 f2 d0 d1 d2 e0 e1 e2
  have hzs : (((w2.setCell ⟨w.heap.size, 0, none⟩ (.slice a1 nD k1)).setCell ⟨w.heap.size, 1, none⟩ (.slice a2 nM k2)).setCell ⟨w.heap.size, 2, none⟩ (.int .i64 g)).heap.size = w2.heap.size := by simp only [World.size_setCell]
  generalize ((w2.setCell ⟨w.heap.size, 0, none⟩ (.slice a1 nD k1)).setCell ⟨w.heap.size, 1, none⟩ (.slice a2 nM k2)).setCell ⟨w.heap.size, 2, none⟩ (.int .i64 g) = W2 at *
  refine (HFEW.out _ hst2.out.bel).mono ?_
  rintro e w3 ⟨v3, v4, rfl, ho3, hv4, hb3⟩
  obtain ⟨a3, k3, rfl, _, _, _⟩ := SlAt.shape (SlAt.own ho3)
  obtain ⟨a4, k4, rfl, _, _, _⟩ := SlAt.shape (hv4 _ HN.out)
  have hz3 := hb3.size
  have hst3 := hid (hst2.out.few (hv4 _ HN.out) hb3 g1.out g2.out ho3 (by omega) (by omega) (by omega))
  obtain ⟨c0, c1, c2, f0, f1, f2⟩ := three_at (blk_below hst2.out.sch hb3)
  obtain ⟨d0, d1, d2, e0, e1, e2⟩ := three_at (blk_below hst2.out.row hb3)
  have hz5 : w.heap.size + 1 < w3.heap.size := by omega
  clear ho3 hst2 hb2 g1 g2 hv4 hzs
  generalize V.length = nV at *
  generalize X.length = nX at *
  have im := ite_min
  have i1 : (0 : Int) ≤ min (s.size : Int) 2000 := by omega
  have i2 : min (s.size : Int) 2000 ≤ (s.size : Int) := by omega
  have i3 : s.extract 0 (min (s.size : Int) 2000).toNat = cutS 2000 s := cutS_is 2000 s
  have TB : (cutS 2000 s).size ≤ 2000 := cutS_size 2000 s
  go_wp2_with fail
  clear c0 c1 c2 f0 f1 f2 d0 d1 d2 e0 e1 e2
  generalize ((w3.setCell ⟨w.heap.size + 1, 0, none⟩ (.int .i64 t)).setCell ⟨w.heap.size + 1, 1, none⟩ (.slice a3 nV k3)).setCell ⟨w.heap.size + 1, 2, none⟩ (.slice a4 nX k4) = W4 at *
  clear im i1 i2 i3 hz1 hz2 hz3 hz4 hz5 hb3
  generalize cutS 2000 s = B at *
  have hbel := hst3.out.bel
  have hB0 : B.size ≤ 9223372036854775807 := by omega
  have HE := hid (fun W (h : Below W4.heap.size W4 W) => encode_is _ _ _ _ D M g t V X W (hst3.out.r1.below h) (hst3.out.r2.below h) T1 T2 (hst3.out.r3.below h) T3 (hst3.out.r4.below h) T4)
  have HRE := hid (fun W (h : Below W4.heap.size W4 W) => refEncode_is _ _ _ _ D M g t V X W (hst3.out.r1.below h) (hst3.out.r2.below h) T1 T2 (hst3.out.r3.below h) T3 (hst3.out.r4.below h) T4)
  have HDE := hid (fun W (h : Below W4.heap.size W4 W) => decode_is am an _ _ D M g B hB0 W (hst3.out.r1.below h) (hst3.out.r2.below h) T1 T2 (HSE.out.below (hbel.trans (h.mono hbel.size))) (HTY.out.below (hbel.trans (h.mono hbel.size))))
  have HRD := hid (fun W (h : Below W4.heap.size W4 W) => refDecode_is _ _ D M g B hB0 W (hst3.out.r1.below h) (hst3.out.r2.below h) T1 T2)
  have hfl := decF_len D M g B
  generalize encB D M g t V X = EB at *
  generalize encC D M g t V X = EC at *
  generalize decF D M g B = F at *
  obtain ⟨C, tt, dl, nn, rr⟩ := F
  dsimp only at hfl
  have HDL := hid (show dl.length = dl.length ∧ nn.length = nn.length from ⟨rfl, rfl⟩)
  obtain ⟨n7, hn7⟩ : ∃ n7, dl.length = n7 := ⟨_, rfl⟩
  obtain ⟨n8, hn8⟩ : ∃ n8, nn.length = n8 := ⟨_, rfl⟩
  have HN7 := hid hn7; have HN8 := hid hn8
  have HFL := hid hfl
  have HBEL := hid hbel
  have hz4 := blk_lt hst3.out.row
  obtain ⟨c0, c1, c2, f0, f1, f2⟩ := three_at hst3.out.sch
  obtain ⟨d0, d1, d2, e0, e1, e2⟩ := three_at hst3.out.row
  clear hbel hn7 hn8 hfl T1 T2 T3 T4 T5 TB hB0
  refine (HE.out _ (Below.refl _ _)).mono ?_
  rintro e w5 ⟨rfl, hb5⟩
  obtain ⟨p0, p1, p2, _, _, _⟩ := three_at (hst3.out.below hb5).sch
  obtain ⟨q0, q1, q2, _, _, _⟩ := three_at (hst3.out.below hb5).row
  clear c0 c1 c2 f0 f1 f2 d0 d1 d2 e0 e1 e2
  go_wp2_with (go_at_call 9; go_loud ((with_reducible refine (HRE.out _ hb5).mono ?_); rintro e w6 ⟨rfl, hb6⟩; have hB6 := hb5.step hb6; obtain ⟨r0, r1, r2, _, _, _⟩ := three_at (hst3.out.below hB6).sch))
  refine (HDE.out _ hB6).mono ?_
  rintro e w7 ⟨vd7, vn7, rfl, ho7, hn7, hb7⟩
  dsimp only at ho7 hn7 ⊢
  obtain ⟨a7, k7, rfl⟩ := ho7.shape
  obtain ⟨a8, k8, rfl⟩ := hn7.shape
  have hv7 : ValsSl w7 _ dl := ValsSl.own ho7
  have hi7 : IntsSl w7 _ nn := IntsSl.own hn7
  rw [HN7.out] at hv7 ⊢
  rw [HN8.out] at hi7 ⊢
  have hB7 := hB6.step hb7
  obtain ⟨s0, s1, s2, _, _, _⟩ := three_at (hst3.out.below hB7).sch
  have hzc := hB7.size
  have hz7 : w.heap.size + 1 < w7.heap.size := by omega
  have hz8 : w.heap.size < w7.heap.size := by omega
  clear p0 p1 p2 q0 q1 q2 r0 r1 r2 ho7 hn7
  have HV7 := hid hv7; have HI7 := hid hi7
  clear hv7 hi7
  go_wp2_with fail
  refine (HRD.out _ (hB7.alloc (by omega) _)).mono ?_
  rintro e w9 ⟨vd9, vn9, rfl, ho9, hn9, hb9⟩
  dsimp only at ho9 hn9 ⊢
  obtain ⟨a9, k9, rfl⟩ := ho9.shape
  obtain ⟨a10, k10, rfl⟩ := hn9.shape
  have hv9 : ValsSl w9 _ dl := ValsSl.own ho9
  have hi9 : IntsSl w9 _ nn := IntsSl.own hn9
  rw [HN7.out] at hv9 ⊢
  rw [HN8.out] at hi9 ⊢
  have hq9 := blk_below (heap_at (w := w7) (o := .cells #[.int .i64 tt, .slice a7 n7 k7, .slice a8 n8 k8] 28 (0, 0)) rfl) hb9
  obtain ⟨x0, x1, x2, _, _, _⟩ := three_at hq9
  have hz9 := hb9.size
  simp only [World.size_alloc] at hz9
  have hz10 : w7.heap.size < w9.heap.size := by omega
  have hB79 : Below w7.heap.size w7 w9 := Below.trans (by (repeat' (first | (with_reducible exact Below.refl _ _) | (with_reducible assumption) | (with_reducible refine Below.new ?_ _) | (with_reducible refine Below.alloc ?_ ?_ _) | (with_reducible refine Below.drew ?_) | (with_reducible refine Below.drewN ?_ _) | (with_reducible refine Below.setCell ?_ ?_ _) | (refine Below.step ?_ (by assumption)) | go_size))) (hb9.mono (by simp))
  have hB9 : Below W4.heap.size W4 w9 := hB7.trans (hB79.mono hzc)
  have HSM : Hid (Calls Tryd.prog 12 #[.agg #[.int .i64 tt, .slice a7 n7 k7, .slice a8 n8 k8], .agg #[.int .i64 tt, .slice a9 n7 k9, .slice a10 n8 k10]] (w9.alloc (.cells #[.int .i64 tt, .slice a9 n7 k9, .slice a10 n8 k10] 28)) fun e w' => e = .returned (.bool true) ∧ Below (w9.alloc (.cells #[.int .i64 tt, .slice a9 n7 k9, .slice a10 n8 k10] 28)).heap.size (w9.alloc (.cells #[.int .i64 tt, .slice a9 n7 k9, .slice a10 n8 k10] 28)) w') := by
    have := refSame10_any (.slice a7 n7 k7) (.slice a9 n7 k9) (.slice a8 n8 k8) (.slice a10 n8 k10) tt tt dl dl nn nn (w9.alloc (.cells #[.int .i64 tt, .slice a9 n7 k9, .slice a10 n8 k10] 28)) ((HV7.out.below hB79).below (by (repeat' (first | (with_reducible exact Below.refl _ _) | (with_reducible assumption) | (with_reducible refine Below.new ?_ _) | (with_reducible refine Below.alloc ?_ ?_ _) | (with_reducible refine Below.drew ?_) | (with_reducible refine Below.drewN ?_ _) | (with_reducible refine Below.setCell ?_ ?_ _) | (refine Below.step ?_ (by assumption)) | go_size)))) (hv9.below (by (repeat' (first | (with_reducible exact Below.refl _ _) | (with_reducible assumption) | (with_reducible refine Below.new ?_ _) | (with_reducible refine Below.alloc ?_ ?_ _) | (with_reducible refine Below.drew ?_) | (with_reducible refine Below.drewN ?_ _) | (with_reducible refine Below.setCell ?_ ?_ _) | (refine Below.step ?_ (by assumption)) | go_size)))) ((HI7.out.below hB79).below (by (repeat' (first | (with_reducible exact Below.refl _ _) | (with_reducible assumption) | (with_reducible refine Below.new ?_ _) | (with_reducible refine Below.alloc ?_ ?_ _) | (with_reducible refine Below.drew ?_) | (with_reducible refine Below.drewN ?_ _) | (with_reducible refine Below.setCell ?_ ?_ _) | (refine Below.step ?_ (by assumption)) | go_size)))) (hi9.below (by (repeat' (first | (with_reducible exact Below.refl _ _) | (with_reducible assumption) | (with_reducible refine Below.new ?_ _) | (with_reducible refine Below.alloc ?_ ?_ _) | (with_reducible refine Below.drew ?_) | (with_reducible refine Below.drewN ?_ _) | (with_reducible refine Below.setCell ?_ ?_ _) | (refine Below.step ?_ (by assumption)) | go_size)))) (by have := HFL.out; omega) (by have := HFL.out; omega)
    have hb : ((tt == tt) && (decide (dl = dl) && decide (nn = nn))) = true := by simp
    rw [hb] at this
    exact this
  have hBW : Below w.heap.size w w9 := HBEL.out.trans (hB9.mono HBEL.out.size)
  clear ho9 hn9 s0 s1 s2 hb9 hv9 hi9
  go_wp2_with (go_at_call 12; go_loud ((with_reducible refine (HSM.out).mono ?_); rintro e w10 ⟨rfl, hb10⟩))
  go_ret
  exact ⟨rfl, (hBW.alloc (by have := hBW.size; omega) _).trans (hb10.mono (by have := hBW.size; simp; omega))⟩
end Go.Proofs.YtdgeinipdphoeaaDoor
/- The walk of SchemaBack. -/
namespace Go.Proofs.YtdgeinipdphoeaaDoor
set_option linter.unusedVariables false
set_option linter.unusedSimpArgs false
set_option maxRecDepth 100000
open Go.ChangeShapes Go.WideShapes Go.ChangeAt Go.RowKit Go.Joins

theorem fits_parts {ds ms : List ByteArray} {g t : Int} {l : List ValD} {n : Nat} (h : fitsS ds ms g t l n = true) : rightS ds ms g = true ∧ (0 ≤ t ∧ t ≤ 1000000000000) ∧ l.length = ds.length ∧ n = ms.length ∧ ∀ v ∈ l, okV v = true := by
  unfold fitsS at h
  simp only [Bool.and_eq_true, decide_eq_true_eq] at h
  exact ⟨h.1, h.2.1, h.2.2.1, h.2.2.2.1, List.all_eq_true.1 h.2.2.2.2⟩
theorem back_one {D M : List ByteArray} {g t : Int} {V : List ValD} {X : List Int} (h : fitsS D M g t V X.length = true) (hX : Nums64 X) {B : ByteArray} : decF D M g ((⟨(rowE t V X).toArray⟩ : ByteArray) ++ B) = ⟨0, t, V, X, B⟩ := by
  obtain ⟨h1, h2, h3, h4, h5⟩ := fits_parts h
  unfold decF
  rw [if_pos h1, ← h3, ← h4]
  obtain ⟨s', h6, h7⟩ := rowF_enc h2 h5 hX (s := (⟨(rowE t V X).toArray⟩ : ByteArray) ++ B) (r := bytesOf B) (by rw [str_app2])
  rw [h6, sx_inj h7]
theorem back_two {D M : List ByteArray} {g : Int} {B : ByteArray} (h : (decF D M g B).code = 0) : fitsS D M g (decF D M g B).time (decF D M g B).dims (decF D M g B).nums.length = true ∧ (⟨(rowE (decF D M g B).time (decF D M g B).dims (decF D M g B).nums).toArray⟩ : ByteArray) ++ (decF D M g B).rest = B := by
  unfold decF at h ⊢
  by_cases hr : rightS D M g = true
  · rw [if_pos hr] at h ⊢
    refine ⟨rowF_fits hr h, ?_⟩
    rw [str_app2]
    apply sx_inj
    rw [(rowF_dec h).2.2.1]
  · rw [if_neg hr] at h; exact absurd h (show ¬ (100 = 0) by decide)
theorem decF_vals (D M : List ByteArray) (g : Int) (B : ByteArray) : Vals (decF D M g B).dims ∧ Nums64 (decF D M g B).nums := by
  unfold decF
  have hz : ∀ c, Vals (⟨c, 0, [], [], B⟩ : RowF).dims ∧ Nums64 (⟨c, 0, [], [], B⟩ : RowF).nums := fun c => ⟨⟨by simp, by simp⟩, by intro n hn; simp at hn⟩
  by_cases hr : rightS D M g = true
  · rw [if_pos hr]
    by_cases hF : (rowF D.length M.length B).code = 0
    · obtain ⟨h1, h2, _, _, h5, h6⟩ := rowF_dec hF
      unfold rightS at hr
      simp only [Bool.and_eq_true, decide_eq_true_eq] at hr
      exact ⟨⟨by omega, fun v hv => by have := (okV_is (h5 v hv)).1; omega⟩, h6⟩
    · rw [rowF_bad hF]; exact hz _
  · rw [if_neg hr]; exact hz _

theorem beq_of {x y : ByteArray} (h : x = y) : (x.toList == y.toList) = true := by rw [h]; simp
set_option maxHeartbeats 4000000 in
theorem SchemaBack_core (vd vm : Value) (ds ms : List ByteArray) (g : Int) (vr vn : Value) (t : Int) (l : List ValD) (xs : List Int) (s : ByteArray) (hs : s.size ≤ 9223372036854775807) (w : World)
    (hd : StrsSl w vd ds) (hm : StrsSl w vm ms) (td : ∀ s ∈ ds, s.size ≤ 9223372036854775807) (tm : ∀ s ∈ ms, s.size ≤ 9223372036854775807) (hg : I64 g)
    (hr : ValsSl w vr l) (hn : IntsSl w vn xs) (tl : ∀ v ∈ l, v.s.size ≤ 9223372036854775807) (tx : ∀ n ∈ xs, I64 n) (ht : I64 t) (am an : Addr) (hsent : Sent am an w) (hty : TypeG w) :
    Calls Tryd.prog 4 #[.agg #[vd, vm, .int .i64 g], .agg #[.int .i64 t, vr, vn], .string s] w fun e w' => e = .returned (.bool true) ∧ Below w.heap.size w w' := by
  have HSE := hid hsent; have HTY := hid hty
  clear hsent hty
  have HCUT := hid (fun W (h : Below w.heap.size w W) => cut_any vd vm ds ms g W (hd.below h) (hm.below h) td tm)
  have HFEW := hid (fun W (h : Below w.heap.size w W) => fewRow_any vr vn t l xs W (hr.below h) tl (hn.below h))
  obtain ⟨ad, cd, rfl, _, _, _⟩ := SlAt.shape hd
  obtain ⟨am', cm, rfl, _, _, _⟩ := SlAt.shape hm
  obtain ⟨ar, cr, rfl, _, _, _⟩ := SlAt.shape hr
  obtain ⟨an', cn, rfl, _, _, _⟩ := SlAt.shape hn
  have T1 := txt_ok 30 (by decide) ds; have T2 := txt_ok 30 (by decide) ms; have T3 := vals_ok l
  have T4 : Nums64 (xs.take 10) := fun n hn => tx n (List.mem_of_mem_take hn)
  have T5 : (xs.take 10).length ≤ 10 := by simp; omega
  have HD := hid hd; have HM := hid hm; have HR := hid hr; have HN := hid hn
  clear hd hm hr hn td tm tl tx
  generalize ds.length = nd at *
  generalize ms.length = nm at *
  generalize l.length = nl at *
  generalize xs.length = nx at *
  obtain ⟨D, hD⟩ : ∃ D, txtCut 30 10 ds = D := ⟨_, rfl⟩
  obtain ⟨M, hM⟩ : ∃ M, txtCut 30 10 ms = M := ⟨_, rfl⟩
  obtain ⟨V, hV⟩ : ∃ V, valsCut l = V := ⟨_, rfl⟩
  obtain ⟨X, hX⟩ : ∃ X, xs.take 10 = X := ⟨_, rfl⟩
  rw [hD, hM] at HCUT; rw [hV, hX] at HFEW
  rw [hD] at T1; rw [hM] at T2; rw [hV] at T3; rw [hX] at T4 T5
  clear hD hM hV hX
  go_enter Tryd.func4, Tryd.ntmps4
  go_wp2_with (go_at_call 5; go_loud ((with_reducible refine (shown10_any _).mono ?_); rintro e w1 ⟨rfl, hb1⟩; have hB1 : Below w.heap.size w w1 := (by (repeat' (first | (with_reducible exact Below.refl _ _) | (with_reducible assumption) | (with_reducible refine Below.new ?_ _) | (with_reducible refine Below.alloc ?_ ?_ _) | (with_reducible refine Below.drew ?_) | (with_reducible refine Below.drewN ?_ _) | (with_reducible refine Below.setCell ?_ ?_ _) | (refine Below.step ?_ (by assumption)) | go_size))); have hst := hid (show SchSt w ds ms g t l xs (.slice ad nd cd) (.slice am' nm cm) (.slice ar nl cr) (.slice an' nx cn) w1 from ⟨hB1, blk_below (by (simp (disch := first | omega | (simp only [World.size_alloc, World.size_setCell, World.size_drew]; done) | (simp only [World.size_alloc, World.size_setCell, World.size_drew]; omega)) only [heap_at, heap_past, heap_set_other, heap_set_same])) hb1, blk_below (by (simp (disch := first | omega | (simp only [World.size_alloc, World.size_setCell, World.size_drew]; done) | (simp only [World.size_alloc, World.size_setCell, World.size_drew]; omega)) only [heap_at, heap_past, heap_set_other, heap_set_same])) hb1, HD.out.below hB1, HM.out.below hB1, HR.out.below hB1, HN.out.below hB1⟩); obtain ⟨c0, c1, c2, f0, f1, f2⟩ := three_at hst.out.sch))
  refine (HCUT.out _ hB1).mono ?_
  rintro e w2 ⟨v1, v2, rfl, ho1, ho2, hb2⟩
  obtain ⟨a1, k1, rfl, _, _, _⟩ := SlAt.shape (SlAt.own ho1)
  obtain ⟨a2, k2, rfl, _, _, _⟩ := SlAt.shape (SlAt.own ho2)
  clear c0 c1 c2 f0 f1 f2
  have hz1 := blk_lt hst.out.row
  have hz2 := hb2.size
  have hst2 := hid (hst.out.cut HR.out HN.out hb2 ho1 ho2 (by omega) (by omega))
  have g1 := hid (row_far3 (b := w.heap.size) (x' := .slice a1 D.length k1) (y' := .slice a2 M.length k2) (z' := .int .i64 g) ho1 (by omega))
  have g2 := hid (row_far3 (b := w.heap.size) (x' := .slice a1 D.length k1) (y' := .slice a2 M.length k2) (z' := .int .i64 g) ho2 (by omega))
  obtain ⟨c0, c1, c2, f0, f1, f2⟩ := three_at (blk_below hst.out.sch hb2)
  obtain ⟨d0, d1, d2, e0, e1, e2⟩ := three_at (blk_below hst.out.row hb2)
  have hz4 : w.heap.size + 1 < w2.heap.size := by omega
  clear ho1 ho2 hst hb1
  generalize D.length = nD at *
  generalize M.length = nM at *
  go_wp2_with fail
  clear c0 c1 c2 f0 f1 f2 d0 d1 d2 e0 e1 e2
  have hzs : (((w2.setCell ⟨w.heap.size, 0, none⟩ (.slice a1 nD k1)).setCell ⟨w.heap.size, 1, none⟩ (.slice a2 nM k2)).setCell ⟨w.heap.size, 2, none⟩ (.int .i64 g)).heap.size = w2.heap.size := by simp only [World.size_setCell]
  generalize ((w2.setCell ⟨w.heap.size, 0, none⟩ (.slice a1 nD k1)).setCell ⟨w.heap.size, 1, none⟩ (.slice a2 nM k2)).setCell ⟨w.heap.size, 2, none⟩ (.int .i64 g) = W2 at *
  refine (HFEW.out _ hst2.out.bel).mono ?_
  rintro e w3 ⟨v3, v4, rfl, ho3, hv4, hb3⟩
  obtain ⟨a3, k3, rfl, _, _, _⟩ := SlAt.shape (SlAt.own ho3)
  obtain ⟨a4, k4, rfl, _, _, _⟩ := SlAt.shape (hv4 _ HN.out)
  have hz3 := hb3.size
  have hst3 := hid (hst2.out.few (hv4 _ HN.out) hb3 g1.out g2.out ho3 (by omega) (by omega) (by omega))
  obtain ⟨c0, c1, c2, f0, f1, f2⟩ := three_at (blk_below hst2.out.sch hb3)
  obtain ⟨d0, d1, d2, e0, e1, e2⟩ := three_at (blk_below hst2.out.row hb3)
  have hz5 : w.heap.size + 1 < w3.heap.size := by omega
  clear ho3 hst2 hb2 g1 g2 hv4 hzs
  generalize V.length = nV at *
  generalize X.length = nX at *
  have im := ite_min
  have i1 : (0 : Int) ≤ min (s.size : Int) 2000 := by omega
  have i2 : min (s.size : Int) 2000 ≤ (s.size : Int) := by omega
  have i3 : s.extract 0 (min (s.size : Int) 2000).toNat = cutS 2000 s := cutS_is 2000 s
  have TB : (cutS 2000 s).size ≤ 2000 := cutS_size 2000 s
  go_wp2_with fail
  clear c0 c1 c2 f0 f1 f2 d0 d1 d2 e0 e1 e2
  generalize ((w3.setCell ⟨w.heap.size + 1, 0, none⟩ (.int .i64 t)).setCell ⟨w.heap.size + 1, 1, none⟩ (.slice a3 nV k3)).setCell ⟨w.heap.size + 1, 2, none⟩ (.slice a4 nX k4) = W4 at *
  clear im i1 i2 i3 hz1 hz2 hz3 hz4 hz5 hb3
  generalize cutS 2000 s = B at *
  have hbel := hst3.out.bel
  have hB0 : B.size ≤ 9223372036854775807 := by omega
  have hEl : (encB D M g t V X).length ≤ 100000 := by
    unfold encB
    split
    · rename_i hf
      obtain ⟨h1, h2, h3, h4, h5⟩ := fits_parts hf
      unfold rightS at h1
      simp only [Bool.and_eq_true, decide_eq_true_eq] at h1
      unfold rowE
      rw [List.length_append, List.length_append]
      have q1 := putB_ten (n := t.toNat) (by omega)
      have q2 := vals_le V (fun v hv => (okV_is (h5 v hv)).1)
      have q3 := nums_le X T4
      omega
    · simp
  obtain ⟨U, hU⟩ : ∃ U, (⟨(encB D M g t V X).toArray⟩ : ByteArray) ++ B = U := ⟨_, rfl⟩
  have hUz : U.size ≤ 9223372036854775807 := by
    rw [← hU, ByteArray.size_append]
    show (encB D M g t V X).toArray.size + B.size ≤ _
    rw [List.size_toArray]; omega
  have HE := hid (fun W (h : Below W4.heap.size W4 W) => encode_is _ _ _ _ D M g t V X W (hst3.out.r1.below h) (hst3.out.r2.below h) T1 T2 (hst3.out.r3.below h) T3 (hst3.out.r4.below h) T4)
  have HDU := hid (fun W (h : Below W4.heap.size W4 W) => decode_is am an _ _ D M g U hUz W (hst3.out.r1.below h) (hst3.out.r2.below h) T1 T2 (HSE.out.below (hbel.trans (h.mono hbel.size))) (HTY.out.below (hbel.trans (h.mono hbel.size))))
  have HDB := hid (fun W (h : Below W4.heap.size W4 W) => decode_is am an _ _ D M g B hB0 W (hst3.out.r1.below h) (hst3.out.r2.below h) T1 T2 (HSE.out.below (hbel.trans (h.mono hbel.size))) (HTY.out.below (hbel.trans (h.mono hbel.size))))
  have HFI := hid (fun W (h : Below W4.heap.size W4 W) => fits_any _ _ _ _ D M g t V X.length _ W (hst3.out.r1.below h) (hst3.out.r2.below h) T1 T2 (hst3.out.r3.below h) T3 (show SlAt W _ X.length 1 _ from hst3.out.r4.below h))
  obtain ⟨hv2, hn2⟩ := decF_vals D M g B
  have hfl2 := decF_len D M g B
  have hfl1 := decF_len D M g U
  have HEP := hid (fun (u1 u2 : Value) W (h : Below W4.heap.size W4 W) (k1 : ValsSl W u1 (decF D M g B).dims) (k2 : IntsSl W u2 (decF D M g B).nums) => encode_is _ _ u1 u2 D M g (decF D M g B).time (decF D M g B).dims (decF D M g B).nums W (hst3.out.r1.below h) (hst3.out.r2.below h) T1 T2 k1 hv2 k2 hn2)
  have HFP := hid (fun (u1 u2 : Value) W (h : Below W4.heap.size W4 W) (k1 : ValsSl W u1 (decF D M g B).dims) (k2 : IntsSl W u2 (decF D M g B).nums) => fits_any _ _ u1 u2 D M g (decF D M g B).time (decF D M g B).dims (decF D M g B).nums.length _ W (hst3.out.r1.below h) (hst3.out.r2.below h) T1 T2 k1 hv2 (show SlAt W _ _ 1 _ from k2))
  -- what the first decoding gives
  have hone : fitsS D M g t V X.length = true → encC D M g t V X = 0 ∧ decF D M g U = ⟨0, t, V, X, B⟩ := fun h => by
    refine ⟨by unfold encC; rw [if_pos h], ?_⟩
    rw [← hU]
    unfold encB
    rw [if_pos h]
    exact back_one h T4
  have hnot : fitsS D M g t V X.length = false → encC D M g t V X ≠ 0 := fun h => by
    unfold encC
    rw [if_neg (by simp [h])]
    split <;> decide
  have htwo : (decF D M g B).code = 0 → fitsS D M g (decF D M g B).time (decF D M g B).dims (decF D M g B).nums.length = true ∧ encC D M g (decF D M g B).time (decF D M g B).dims (decF D M g B).nums = 0 ∧ (⟨(encB D M g (decF D M g B).time (decF D M g B).dims (decF D M g B).nums).toArray⟩ : ByteArray) ++ (decF D M g B).rest = B := fun h => by
    obtain ⟨h1, h2⟩ := back_two h
    refine ⟨h1, by unfold encC; rw [if_pos h1], ?_⟩
    unfold encB
    rw [if_pos h1]
    exact h2
  have HONE := hid hone; have HNOT := hid hnot; have HTWO := hid htwo
  clear hone hnot htwo hv2 hn2 T1 T2 T3 T4 hUz hB0
  generalize encB D M g t V X = EB at *
  generalize encC D M g t V X = EC at *
  generalize decF D M g U = F1 at *
  generalize decF D M g B = F2 at *
  obtain ⟨C1, t1, l1, x1, r1⟩ := F1
  obtain ⟨C2, t2, l2, x2, r2⟩ := F2
  dsimp only at hfl1 hfl2 HTWO HEP HFP HONE
  generalize encB D M g t2 l2 x2 = EB2 at *
  generalize encC D M g t2 l2 x2 = EC2 at *
  generalize fitsS D M g t V X.length = FB at *
  generalize fitsS D M g t2 l2 x2.length = FB2 at *
  obtain ⟨n7, hn7⟩ : ∃ n7, l2.length = n7 := ⟨_, rfl⟩
  obtain ⟨n8, hn8⟩ : ∃ n8, x2.length = n8 := ⟨_, rfl⟩
  have HN7 := hid hn7; have HN8 := hid hn8
  have HU := hid hU; have HFL1 := hid hfl1
  have HBEL := hid hbel
  have HT5 := hid T5
  have hz4 := blk_lt hst3.out.row
  clear hbel hn7 hn8 hU hfl1 hfl2 T5
  have key : ∃ EC' : Nat, EC = EC' ∧ True := ⟨_, rfl, trivial⟩
  clear key
  refine (HE.out _ (Below.refl _ _)).mono ?_
  rintro e w5 ⟨rfl, hb5⟩
  obtain ⟨p0, p1, p2, _, _, _⟩ := three_at (hst3.out.below hb5).sch
  obtain ⟨q0, q1, q2, _, _, _⟩ := three_at (hst3.out.below hb5).row
  go_wp2_with fail
  rw [HU.out]
  refine (HDU.out _ hb5).mono ?_
  rintro e w6 ⟨vd6, vn6, rfl, ho6, hn6, hb6⟩
  dsimp only at ho6 hn6 ⊢
  obtain ⟨a6, k6, rfl⟩ := ho6.shape
  obtain ⟨a7, k7, rfl⟩ := hn6.shape
  have hv6 : ValsSl w6 _ l1 := ValsSl.own ho6
  have hi6 : IntsSl w6 _ x1 := IntsSl.own hn6
  have hB6 := hb5.step hb6
  obtain ⟨s0, s1, s2, _, _, _⟩ := three_at (hst3.out.below hB6).sch
  obtain ⟨y0, y1, y2, _, _, _⟩ := three_at (hst3.out.below hB6).row
  have hzc := hB6.size
  have hz6 : w.heap.size + 1 < w6.heap.size := by omega
  have hz7 : w.heap.size < w6.heap.size := by omega
  clear p0 p1 p2 q0 q1 q2 ho6 hn6
  cases FB
  case' false =>
    have hec := HNOT.out rfl
    have hc1 : decide ((EC : Int) = 0) = false := by simp; omega
    have hc2 : ¬ (EC : Int) = 0 := by omega
    have hc3 : ((EC : Int) == 0) = false := by simp; omega
    clear hec
    generalize l1.length = m1 at *
    generalize x1.length = m2 at *
    go_wp2_with fail
    clear hc1 hc2 hc3 s0 s1 s2 y0 y1 y2
    have hB8 := hB6.alloc hzc (.cells #[.int .i64 t1, .slice a6 m1 k6, .slice a7 m2 k7] 28)
    have hz8 : w.heap.size + 1 < (w6.alloc (.cells #[.int .i64 t1, .slice a6 m1 k6, .slice a7 m2 k7] 28)).heap.size := by simp; omega
    generalize w6.alloc (.cells #[.int .i64 t1, .slice a6 m1 k6, .slice a7 m2 k7] 28) = w8 at *
  case' true =>
    obtain ⟨h1, h2⟩ := HONE.out rfl
    simp only [RowF.mk.injEq] at h2
    obtain ⟨rfl, rfl, rfl, rfl, rfl⟩ := h2
    subst h1
    have HSM : Hid (Calls Tryd.prog 12 #[.agg #[.int .i64 t1, .slice a6 l1.length k6, .slice a7 x1.length k7], .agg #[.int .i64 t1, .slice a3 nV k3, .slice a4 nX k4]] (w6.alloc (.cells #[.int .i64 t1, .slice a6 l1.length k6, .slice a7 x1.length k7] 28)) fun e w' => e = .returned (.bool true) ∧ Below (w6.alloc (.cells #[.int .i64 t1, .slice a6 l1.length k6, .slice a7 x1.length k7] 28)).heap.size (w6.alloc (.cells #[.int .i64 t1, .slice a6 l1.length k6, .slice a7 x1.length k7] 28)) w') := by
      have := refSame10_any _ _ _ _ t1 t1 l1 l1 x1 x1 (w6.alloc (.cells #[.int .i64 t1, .slice a6 l1.length k6, .slice a7 x1.length k7] 28)) (hv6.below (by (repeat' (first | (with_reducible exact Below.refl _ _) | (with_reducible assumption) | (with_reducible refine Below.new ?_ _) | (with_reducible refine Below.alloc ?_ ?_ _) | (with_reducible refine Below.drew ?_) | (with_reducible refine Below.drewN ?_ _) | (with_reducible refine Below.setCell ?_ ?_ _) | (refine Below.step ?_ (by assumption)) | go_size)))) ((hst3.out.below hB6).r3.below (by (repeat' (first | (with_reducible exact Below.refl _ _) | (with_reducible assumption) | (with_reducible refine Below.new ?_ _) | (with_reducible refine Below.alloc ?_ ?_ _) | (with_reducible refine Below.drew ?_) | (with_reducible refine Below.drewN ?_ _) | (with_reducible refine Below.setCell ?_ ?_ _) | (refine Below.step ?_ (by assumption)) | go_size)))) (hi6.below (by (repeat' (first | (with_reducible exact Below.refl _ _) | (with_reducible assumption) | (with_reducible refine Below.new ?_ _) | (with_reducible refine Below.alloc ?_ ?_ _) | (with_reducible refine Below.drew ?_) | (with_reducible refine Below.drewN ?_ _) | (with_reducible refine Below.setCell ?_ ?_ _) | (refine Below.step ?_ (by assumption)) | go_size)))) ((hst3.out.below hB6).r4.below (by (repeat' (first | (with_reducible exact Below.refl _ _) | (with_reducible assumption) | (with_reducible refine Below.new ?_ _) | (with_reducible refine Below.alloc ?_ ?_ _) | (with_reducible refine Below.drew ?_) | (with_reducible refine Below.drewN ?_ _) | (with_reducible refine Below.setCell ?_ ?_ _) | (refine Below.step ?_ (by assumption)) | go_size)))) (by have := (SlAt.parts hst3.out.r4).1; have := HT5.out; omega) (by have := (SlAt.parts hst3.out.r4).1; have := HT5.out; omega)
      have hb : ((t1 == t1) && (decide (l1 = l1) && decide (x1 = x1))) = true := by simp
      rw [hb] at this
      exact this
    have hBa := hB6.alloc hzc (.cells #[.int .i64 t1, .slice a6 l1.length k6, .slice a7 x1.length k7] 28)
    clear hv6 hi6
    generalize l1.length = m1 at *
    generalize x1.length = m2 at *
    have i0 : ((0 : Nat) : Int) = 0 := rfl
    rw [i0]
    go_wp2_with (first
      | (go_at_call 12; go_loud ((with_reducible refine (HSM.out).mono ?_); rintro e w7 ⟨rfl, hb7⟩; have hB7 : Below W4.heap.size W4 w7 := hBa.trans (hb7.mono (by simp; omega)); obtain ⟨p0, p1, p2, _, _, _⟩ := three_at (hst3.out.below hB7).sch; obtain ⟨q0, q1, q2, _, _, _⟩ := three_at (hst3.out.below hB7).row))
      | (go_at_call 13; go_loud ((with_reducible refine (HFI.out _ hB7).mono ?_); rintro e w8 ⟨rfl, hb8⟩; have hB8 := hB7.step hb8; obtain ⟨x0, x1, x2, _, _, _⟩ := three_at (hst3.out.below hB8).sch)))
    have hz8 : w.heap.size + 1 < w8.heap.size := by have := hB8.size; omega
    clear p0 p1 p2 q0 q1 q2 x0 x1 x2 s0 s1 s2 y0 y1 y2
  all_goals
    refine (HDB.out _ hB8).mono ?_
    rintro e w9 ⟨vd9, vn9, rfl, ho9, hn9, hb9⟩
    dsimp only at ho9 hn9 ⊢
    obtain ⟨a9, k9, rfl⟩ := ho9.shape
    obtain ⟨a10, k10, rfl⟩ := hn9.shape
    have hv9 : ValsSl w9 _ l2 := ValsSl.own ho9
    have hi9 : IntsSl w9 _ x2 := IntsSl.own hn9
    rw [HN7.out] at hv9 ⊢
    rw [HN8.out] at hi9 ⊢
    have hB9 := hB8.step hb9
    have hzd := hB9.size
    obtain ⟨p0, p1, p2, _, _, _⟩ := three_at (hst3.out.below hB9).sch
    have hz9 : w.heap.size + 1 < w9.heap.size := by have := hb9.size; omega
    have hz10 : w.heap.size < w9.heap.size := by omega
    have hBa9 := hB9.alloc hzd (.cells #[.int .i64 t2, .slice a9 n7 k9, .slice a10 n8 k10] 28)
    have hv10 := hv9.below (show Below w9.heap.size w9 (w9.alloc (.cells #[.int .i64 t2, .slice a9 n7 k9, .slice a10 n8 k10] 28)) by (repeat' (first | (with_reducible exact Below.refl _ _) | (with_reducible assumption) | (with_reducible refine Below.new ?_ _) | (with_reducible refine Below.alloc ?_ ?_ _) | (with_reducible refine Below.drew ?_) | (with_reducible refine Below.drewN ?_ _) | (with_reducible refine Below.setCell ?_ ?_ _) | (refine Below.step ?_ (by assumption)) | go_size)))
    have hi10 := hi9.below (show Below w9.heap.size w9 (w9.alloc (.cells #[.int .i64 t2, .slice a9 n7 k9, .slice a10 n8 k10] 28)) by (repeat' (first | (with_reducible exact Below.refl _ _) | (with_reducible assumption) | (with_reducible refine Below.new ?_ _) | (with_reducible refine Below.alloc ?_ ?_ _) | (with_reducible refine Below.drew ?_) | (with_reducible refine Below.drewN ?_ _) | (with_reducible refine Below.setCell ?_ ?_ _) | (refine Below.step ?_ (by assumption)) | go_size)))
    have HE2 := hid (HEP.out _ _ _ hBa9 hv10 hi10)
    have HF2 := hid (fun W (h : Below (w9.alloc (.cells #[.int .i64 t2, .slice a9 n7 k9, .slice a10 n8 k10] 28)).heap.size (w9.alloc (.cells #[.int .i64 t2, .slice a9 n7 k9, .slice a10 n8 k10] 28)) W) => HFP.out _ _ W (hBa9.step h) (hv10.below h) (hi10.below h))
    have hBW : Below w.heap.size w (w9.alloc (.cells #[.int .i64 t2, .slice a9 n7 k9, .slice a10 n8 k10] 28)) := HBEL.out.trans (hBa9.mono HBEL.out.size)
    have hcells := fun W (h : Below (w9.alloc (.cells #[.int .i64 t2, .slice a9 n7 k9, .slice a10 n8 k10] 28)).heap.size (w9.alloc (.cells #[.int .i64 t2, .slice a9 n7 k9, .slice a10 n8 k10] 28)) W) => three_at ((hst3.out.below hBa9).below h).sch
    have hcellr := fun W (h : Below (w9.alloc (.cells #[.int .i64 t2, .slice a9 n7 k9, .slice a10 n8 k10] 28)).heap.size (w9.alloc (.cells #[.int .i64 t2, .slice a9 n7 k9, .slice a10 n8 k10] 28)) W) => three_at (blk_below (heap_at (w := w9) (o := .cells #[.int .i64 t2, .slice a9 n7 k9, .slice a10 n8 k10] 28 (0, 0)) rfl) h)
    have HCS := hid hcells; have HCR := hid hcellr
    clear hcells hcellr ho9 hn9 hb9 hv9 hi9 hv10 hi10
    by_cases hC2 : C2 = 0
    · subst hC2
      obtain ⟨h1, h2, h3⟩ := HTWO.out rfl
      subst h1
      subst h2
      have hsz : EB2.length + r2.size ≤ 2000 := by
        have := congrArg ByteArray.size h3
        rw [ByteArray.size_append] at this
        have e : (⟨EB2.toArray⟩ : ByteArray).size = EB2.length := by show EB2.toArray.size = _; simp
        omega
      have hq := beq_of h3
      have H3 := hid h3
      clear h3
      have i0 : ((0 : Nat) : Int) = 0 := rfl
      rw [i0] at *
      go_wp2_with (first
        | (go_at_call 8; go_loud ((with_reducible refine (HE2.out).mono ?_); rintro e w10 ⟨rfl, hb10⟩; obtain ⟨x0, x1, x2, _, _, _⟩ := HCS.out _ hb10; obtain ⟨x3, x4, x5, _, _, _⟩ := HCR.out _ hb10))
        | (go_at_call 13; go_loud ((with_reducible refine (HF2.out _ hb10).mono ?_); rintro e w11 ⟨rfl, hb11⟩)))
      go_ret
      exact ⟨rfl, hBW.trans ((hb10.trans (hb11.mono hb10.size)).mono hBW.size)⟩
    · have hc1 : decide ((C2 : Int) = 0) = false := by simp; omega
      have hc2 : ¬ (C2 : Int) = 0 := by omega
      have hc3 : ((C2 : Int) == 0) = false := by simp; omega
      go_wp2_with (go_at_call 8; go_loud ((with_reducible refine (HE2.out).mono ?_); rintro e w10 ⟨rfl, hb10⟩; obtain ⟨x0, x1, x2, _, _, _⟩ := HCS.out _ hb10; obtain ⟨x3, x4, x5, _, _, _⟩ := HCR.out _ hb10))
      go_ret
      exact ⟨rfl, hBW.trans (hb10.mono hBW.size)⟩
end Go.Proofs.YtdgeinipdphoeaaDoor
/- The frame that all tied statements of a seat of three listed variables share: a law that returns true and leaves what was there as it was has its row; what the listed variables hold. -/
namespace Go.Proofs.YtdgeinipdphoeaaDoor
set_option linter.unusedVariables false
set_option linter.unusedSimpArgs false
open Go.ChangeShapes Go.WideShapes Go.ChangeAt Go.RowKit Go.Joins

theorem ownK : ownKnob Tryd.prog.godebug = none := by kernel_rfl
theorem laidOutK : laidOutB Tryd.prog = true := by kernel_rfl

theorem trodAll_stays {H : Type} {enc : TypeId × Value → H} {P : Program} {W W' : World} (hl : laidOutB P = true) (sp : Nat → Bool) : ∀ (ts : List TypeId) (vs : List Value) (ds : List (DataW H)) (ps : List MemPlace),
    ts.all (fun t => P.readableRec t && decide (t < P.types.size)) = true → DataW.TrodAll enc P W 0 (fun _ => true) true ts vs ds ps → (∀ p ∈ ps, W.sameAt W' p) → (∀ p ∈ ps, sp p.block = true) → DataW.TrodAll enc P W' 0 sp true ts vs ds ps
  | [], [], [], _, _, h, _, _ => h
  | t :: ts, v :: vs, d :: ds, ps, hr, h, hsame, hsp => by
    obtain ⟨p, q, h1, h2, rfl⟩ := h
    simp only [List.all_cons, Bool.and_eq_true, decide_eq_true_eq] at hr
    exact ⟨p, q, WideElems.Trod_stays hl hr.1.1 hr.1.2 h1 (fun x hx => hsame x (by simp [hx])) (fun x hx => hsp x (by simp [hx])), trodAll_stays hl sp ts vs ds q hr.2 h2 (fun x hx => hsame x (by simp [hx])) (fun x hx => hsp x (by simp [hx])), rfl⟩
  | [], [], _ :: _, _, _, h, _, _ => h.elim
  | [], _ :: _, _, _, _, h, _, _ => h.elim
  | _ :: _, [], _, _, _, h, _, _ => h.elim
  | _ :: _, _ :: _, [], _, _, h, _, _ => h.elim

/-- What the row asks behind the call, of a law that has returned true and made new blocks alone. -/
theorem law_post {H : Type} {enc : TypeId × Value → H} {fn : Func} {s : ChangeSpec} {W W' : World} {args : Array Value} {ds gs : List (DataW H)} {before : List MemPlace} {apart : Bool}
    (hv : s.vars = []) (hres : fn.resultTypes = #[4]) (hread : fn.params.toList.all (fun t => Tryd.prog.readableRec t && decide (t < Tryd.prog.types.size)) = true)
    (hW : DataW.Whole enc Tryd.prog fn.params.toList s.vars apart W args.toList ds gs before)
    (hs1 : (s.fn H (ds ++ gs)).results = [.lit (.bool true)]) (hs2 : (s.fn H (ds ++ gs)).args = ds) (hs3 : (s.fn H (ds ++ gs)).vars = []) (hb : Below W.heap.size W W') :
    s.post enc Tryd.prog fn apart true false false W args (.bool true) W' := by
  have hlt : ∀ p ∈ before, p.block < W.heap.size := fun p hp => hW.lt p hp
  have hW' := hW
  obtain ⟨p, q, hA, hV, rfl, _, _⟩ := hW
  rw [hv] at hV
  have hq : q = [] := by cases gs with
    | nil => exact hV
    | cons _ _ => exact hV.elim
  subst hq
  refine ⟨ds, gs, _, [], p ++ [], [], hW', ?_, ?_, ?_, hb.frame _, fun h => by cases h⟩
  · rw [hres, hs1]
    exact trodAll_cons_mk (shut_bool Tryd.underlying4 true) trodAll_mk0
  · rw [hs2, List.append_nil]
    exact trodAll_stays laidOutK _ _ _ _ _ hread hA (fun x hx => hb.same (hlt x (by simp [hx]))) (fun x hx => by simpa using hlt x (by simp [hx]))
  · rw [hv, hs3]; rfl

abbrev laidL : List (String × DataW Unit) := [("errors.errorType", Rows.laid_errors_errorType), ("tesserae/varint.errMore", Rows.laid_tesserae_varint_errMore), ("tesserae/varint.errNone", Rows.laid_tesserae_varint_errNone)]
theorem gMore : Tryd.prog.globalNamed "tesserae/varint.errMore" = some 1 := by kernel_rfl
theorem gNone : Tryd.prog.globalNamed "tesserae/varint.errNone" = some 2 := by kernel_rfl
theorem gType : Tryd.prog.globalNamed "errors.errorType" = some 0 := by kernel_rfl
theorem tMore : (Tryd.prog.globals[1]?).map (·.type) = some 49 := by kernel_rfl
theorem tNone : (Tryd.prog.globals[2]?).map (·.type) = some 49 := by kernel_rfl
theorem cellsE : Tryd.prog.cellsOf 158 = 1 := by kernel_rfl
theorem cellsS : Tryd.prog.cellsOf 9 = 1 := by kernel_rfl
theorem starE : "*" ++ "errors.errorString" = "*errors.errorString" := by decide
theorem rowE' (u : TypeId) (h : Tryd.prog.typeName? 3 u = some "*errors.errorString") : u = 138 :=
  typeName_ptr_named (nm := "errors.errorString") (by rw [starE]; kernel_rfl) (by kernel_rfl) (by decide) u (by rw [starE]; exact h)
theorem tRt : (Tryd.prog.cutTypes.find? (·.1 == "internal/reflectlite.rtype")).map (·.2) = some 120 := by kernel_rfl
theorem tOne : ((List.range 170).filter fun t => Tryd.prog.rowNamed t [101, 114, 114, 111, 114]) = [49] := by kernel_rfl
theorem tSize : Tryd.prog.types.size = 170 := by kernel_rfl
/-- The door's own heap meets the condition. -/
theorem door_met (os : Os) (args : Array Value) : laidMetH Tryd.prog laidL ((World.doorLaid Tryd.prog 400 os).forCall (fun _ _ => 0) ⟨#[], args, []⟩).memory :=
  laidMetH_of_parts3 (fuel := 8) (laidMet_of_run' 8 (by kernel_rfl) (by kernel_rfl)) (by kernel_rfl) (by kernel_rfl)
/-- What the condition gives the walks. -/
theorem sent_of_laid {W : World} (h0 : laidMetH Tryd.prog laidL W) : (∃ am an, Sent am an W) ∧ TypeG W := by
  have h' : laidMet Tryd.prog [("tesserae/varint.errMore", Rows.laid_tesserae_varint_errMore), ("tesserae/varint.errNone", Rows.laid_tesserae_varint_errNone)] W ∧ handlesMet Tryd.prog [("errors.errorType", Rows.laid_errors_errorType)] W := h0
  obtain ⟨h, hh⟩ := h'
  constructor
  · obtain ⟨a0, a1, s0, s1, c0, c1, t0, t1, hv0, hv1, _, _, _, _, _, _, hne, hb0, hb1⟩ := laid_sentinels2 h gMore tMore gNone tNone Tryd.underlying49 rowE' Tryd.underlying138 Tryd.underlying158 rfl rfl Tryd.underlying9 cellsE cellsS
    refine ⟨a0, a1, ?_, ?_, hne, ⟨c0, t0, hb0⟩, c1, t1, hb1⟩
    · simpa using World.var?_cell gNone hv1 0
    · simpa using World.var?_cell gMore hv0 0
  · obtain ⟨name, u, ty, e1, e2, e3, e4, e5⟩ := hh _ (List.mem_cons_self ..)
    have en : name = [101, 114, 114, 111, 114] := (Option.some.inj e1).symm
    subst en
    obtain rfl := Option.some.inj (tRt.symm.trans e2)
    have hm : ty ∈ (List.range 170).filter fun t => Tryd.prog.rowNamed t [101, 114, 114, 111, 114] := List.mem_filter.2 ⟨List.mem_range.2 (by rw [← tSize]; exact e3), e4⟩
    rw [tOne] at hm
    obtain rfl := List.mem_singleton.1 hm
    have hh : typeHandle Tryd.prog 49 = .pointer (some ⟨3, 49, none⟩) := by kernel_rfl
    rw [hh] at e5
    unfold TypeG
    simpa using World.var?_cell gType e5 0

set_option maxRecDepth 100000 in
/-- A law of any parameters: out of its walk. -/
theorem law_lift {H : Type} {enc : TypeId × Value → H} {os : Os} {f : FuncId} {fn : Func} {s : ChangeSpec} {conds : List PathCond}
    (started : os.Started) (noInit : Tryd.prog.inits.idxOf? f = none) (hfn : Tryd.prog.funcs[f]? = some fn)
    (witness : ∃ (w : World) (tape : Tape) (i : Input), w.os = os ∧ (w.forCall tape i).Shaped Tryd.checked.prog ∧ i.vars = [] ∧ Input.okWide Tryd.checked.prog (w.forCall tape i) .any w.heap.size f i ∧
      ((s.pre enc Tryd.checked.prog fn conds false (w.forCall tape i).memory i.args ∧ laidMetH Tryd.prog laidL (w.forCall tape i).memory) ∧ sizedMet enc Tryd.checked.prog fn (OpenSpec.ofChange s) false (w.forCall tape i).memory i.args) ∧ ({} : Assume).holds Tryd.checked.prog (lone (Frame.enter Tryd.checked.prog f i.args .normal) [] (w.forCall tape i)))
    (hv : s.vars = []) (hres : fn.resultTypes = #[4]) (hread : fn.params.toList.all (fun t => Tryd.prog.readableRec t && decide (t < Tryd.prog.types.size)) = true)
    (hspec : ∀ ds : List (DataW H), ds.length = fn.params.toList.length → (s.fn H (ds ++ [])).results = [.lit (.bool true)] ∧ (s.fn H (ds ++ [])).args = ds ∧ (s.fn H (ds ++ [])).vars = [])
    (walk : ∀ (W : World) (base : Nat) (args : Array Value) (ds : List (DataW H)) (p : List MemPlace) (am an : Addr), Sent am an W → TypeG W → (∀ (j : Nat) t v, fn.params[j]? = some t → args[j]? = some v → Value.okWide Tryd.prog W .any base t v) →
      DataW.TrodAll enc Tryd.prog W 0 (fun _ => true) true fn.params.toList args.toList ds p → (DataW.weightsEach Tryd.prog fn.params.toList ds).all (· ≤ reachBytes) = true →
      Calls Tryd.prog f args W fun e W' => e = .returned (.bool true) ∧ Below W.heap.size W W') :
    ReturnsInHanded {} Tryd.checked os f .any (fun w args => (s.pre enc Tryd.prog fn conds false w args ∧ laidMetH Tryd.prog laidL w) ∧ sizedMet enc Tryd.prog fn (OpenSpec.ofChange s) false w args) (s.post enc Tryd.prog fn false true false false) := by
  refine returnsInHanded_of_change_and (C := Tryd.checked) (X := fun w _ => laidMetH Tryd.prog laidL w) (fun _ _ _ hh h => h.of_heap hh) ownK started noInit hfn witness ?_
  intro W base args ds gs before hval hW _ hsz hL _
  have hW' := hW
  obtain ⟨p, q, hA, hV, rfl, _, _⟩ := hW
  rw [hv] at hV
  have hg : gs = [] := by cases gs with
    | nil => rfl
    | cons _ _ => exact hV.elim
  subst hg
  have hlen : ds.length = fn.params.toList.length := by
    have : ∀ (ts : List TypeId) (vs : List Value) (ds : List (DataW H)) (ps : List MemPlace), DataW.TrodAll enc Tryd.prog W 0 (fun _ => true) true ts vs ds ps → ds.length = ts.length := by
      intro ts
      induction ts with
      | nil => intro vs ds ps h; cases vs <;> cases ds <;> first | rfl | exact h.elim
      | cons t ts ih => intro vs ds ps h; cases vs <;> cases ds <;> first | exact h.elim | (obtain ⟨_, _, _, h2, _⟩ := h; simp [ih _ _ _ h2])
    exact this _ _ _ _ hA
  obtain ⟨hs1, hs2, hs3⟩ := hspec ds hlen
  have hsz' : (DataW.weightsEach Tryd.prog fn.params.toList ds).all (· ≤ reachBytes) = true := by
    have e : fn.params.toList ++ s.plain.varTypes Tryd.prog = fn.params.toList := by
      have : s.plain.varTypes Tryd.prog = [] := by simp [DataSpec.varTypes, ChangeSpec.plain, hv]
      rw [this, List.append_nil]
    have h2 := hsz
    rw [List.append_nil] at h2
    rw [← e]; exact h2
  obtain ⟨⟨am, an, hS⟩, hT⟩ := sent_of_laid hL
  refine (walk W base args ds p am an hS hT hval hA hsz').mono fun e W' ⟨he, hb⟩ => ?_
  exact ⟨_, he, law_post hv hres hread hW' hs1 hs2 hs3 hb⟩
end Go.Proofs.YtdgeinipdphoeaaDoor
/- How arguments that are texts, values, schemas, rows, and lists of these are opened. -/
namespace Go.Proofs.YtdgeinipdphoeaaDoor
set_option linter.unusedVariables false
set_option linter.unusedSimpArgs false
set_option maxRecDepth 100000
open Go.ChangeShapes Go.WideShapes Go.ChangeAt Go.RowKit Go.Joins Go.Deep

section
variable {H : Type} {enc : TypeId × Value → H} {W : World} {base : Nat}
/-- A slice of elements of some cells. -/
theorem open_sl {t e : TypeId} (n : Nat) (ht : Tryd.prog.underlying t = some (.slice e)) (hC : Tryd.prog.cellsOf e = n) (h0 : 0 < n) {v : Value} {fuel : Nat} {x : DataW H × List MemPlace} (h : DataW.trod enc Tryd.prog W 0 (fun _ => true) true fuel t [v] = some x) :
    ∃ (ao : Option Addr) (len cap : Nat), v = .slice ao len cap ∧ len ≤ cap ∧ cap ≤ maxLen ∧ (ao = none → cap = 0) ∧
      (0 < len → ∃ b off, ao = some ⟨b, off, none⟩ ∧ ∀ i, i < len → ∃ (cs : List Value) (k : Nat) (y : DataW H × List MemPlace), cs.length = n ∧ (∀ j u, cs[j]? = some u → W.cell? ⟨b, off + (i * n + j), none⟩ = some u) ∧ DataW.trod enc Tryd.prog W 0 (fun _ => true) true k e cs = some y) := by
  rcases open_slice ht h with ⟨hcs, _⟩ | ⟨a, len, cap, m, k, D, Pl, hcs, _, hl, hm, hmm, _, hi⟩
  · simp at hcs
    exact ⟨none, 0, 0, hcs, Nat.le_refl _, by simp, fun _ => rfl, fun h => absurd h (by omega)⟩
  · simp at hcs
    simp only [if_true] at hmm
    refine ⟨some a, len, cap, hcs, hl, hm, (fun h => by cases h), fun hlen => ?_⟩
    have key : ∀ i, i < len → ∃ (cs : List Value) (y : DataW H × List MemPlace), cs.length = n ∧ (∀ j u, cs[j]? = some u → W.cell? ((a.add (i * n)).add j) = some u) ∧ DataW.trod enc Tryd.prog W 0 (fun _ => true) true k e cs = some y := fun i hi' => by
      obtain ⟨cs, hc, ht'⟩ := hi i (by omega)
      rw [hC] at hc
      obtain ⟨_, hcl, hat⟩ := World.cells?_some hc
      exact ⟨cs, _, hcl, fun j u hj => by rw [hat j (by have := (List.getElem?_eq_some_iff.1 hj).1; omega)]; exact hj, ht'⟩
    obtain ⟨b, off, s⟩ := a
    obtain ⟨cs0, _, hl0, hc0, _⟩ := key 0 hlen
    have hs : s = none := by
      have := hc0 0 cs0[0] (List.getElem?_eq_getElem (by omega))
      have := spot_none this
      simpa [Addr.add] using this
    subst hs
    refine ⟨b, off, rfl, fun i hi' => ?_⟩
    obtain ⟨cs, y, h1, h2, h3⟩ := key i hi'
    refine ⟨cs, k, y, h1, fun j u hj => ?_, h3⟩
    have h4 := h2 j u hj
    have e1 : ((⟨b, off, none⟩ : Addr).add (i * n)).add j = ⟨b, off + (i * n + j), none⟩ := by
      have ea : ∀ o m : Nat, (⟨b, o, none⟩ : Addr).add m = ⟨b, o + m, none⟩ := fun o m => by unfold Addr.add; split <;> simp_all
      rw [ea, ea, Nat.add_assoc]
    rw [e1] at h4
    exact h4
/-- The cells of elements, read one by one, are the cells of the list. -/
theorem sl_of {α : Type} {n len : Nat} {f : α → List Value} (hf : ∀ x, (f x).length = n) (h0 : 0 < n) {b off : Nat} (R : α → Prop)
    (h : ∀ i, i < len → ∃ x, R x ∧ ∀ j u, (f x)[j]? = some u → W.cell? ⟨b, off + (i * n + j), none⟩ = some u) : ∃ l : List α, l.length = len ∧ (∀ x ∈ l, R x) ∧ ∀ j u, (l.flatMap f)[j]? = some u → W.cell? ⟨b, off + j, none⟩ = some u := by
  induction len with
  | zero => exact ⟨[], rfl, by simp, by simp⟩
  | succ m ih =>
    obtain ⟨l, h1, h2, h3⟩ := ih (fun i hi => h i (by omega))
    obtain ⟨x, hx, hc⟩ := h m (by omega)
    refine ⟨l ++ [x], by simp [h1], fun y hy => ?_, fun j u hj => ?_⟩
    · rcases List.mem_append.1 hy with h | h
      · exact h2 y h
      · simp at h; subst h; exact hx
    · have hll : (l.flatMap f).length = m * n := by rw [flat_len n f hf, h1]
      rw [List.flatMap_append] at hj
      by_cases hjl : j < m * n
      · rw [List.getElem?_append_left (by omega)] at hj
        exact h3 j u hj
      · rw [List.getElem?_append_right (by omega), hll] at hj
        have := hc (j - m * n) u (by simpa using hj)
        rw [show m * n + (j - m * n) = j by omega] at this
        exact this
theorem flat_one {α : Type} (g : α → Value) : ∀ l : List α, l.flatMap (fun x => [g x]) = l.map g
  | [] => rfl
  | x :: l => by rw [List.flatMap_cons, flat_one g l]; rfl
theorem open_strs {t : TypeId} (ht : Tryd.prog.underlying t = some (.slice 9)) {v : Value} {fuel : Nat} {x : DataW H × List MemPlace} (h : DataW.trod enc Tryd.prog W 0 (fun _ => true) true fuel t [v] = some x) :
    ∃ ss, StrsSl W v ss ∧ ∀ s ∈ ss, s.size ≤ 9223372036854775807 := by
  obtain ⟨ao, len, cap, rfl, h1, h2, h3, hA⟩ := open_sl 1 ht (by kernel_rfl) (by decide) h
  by_cases h0 : 0 < len
  · obtain ⟨b, off, rfl, hc⟩ := hA h0
    obtain ⟨ss, hl, hR, hcells⟩ := sl_of (W := W) (n := 1) (len := len) (f := fun s : ByteArray => [Value.string s]) (fun _ => rfl) (by decide) (b := b) (off := off) (fun s => s.size ≤ 9223372036854775807) (fun i hi => by
      obtain ⟨cs, k, y, hl, hcell, ht'⟩ := hc i hi
      obtain ⟨s, hs, _, hsz⟩ := DataW.trod_string Tryd.underlying9 ht'
      subst hs
      exact ⟨s, by unfold maxLen at hsz; omega, hcell⟩)
    subst hl
    rw [flat_one] at hcells
    exact ⟨ss, ⟨by simp, _, cap, rfl, h1, h2, (fun h => by cases h), fun _ => ⟨b, off, rfl, hcells⟩⟩, hR⟩
  · obtain rfl : len = 0 := by omega
    exact ⟨[], ⟨by simp, ao, cap, rfl, h1, h2, h3, fun h => by simp at h⟩, by simp⟩
theorem open_nums {t : TypeId} (ht : Tryd.prog.underlying t = some (.slice 2)) {v : Value} {fuel : Nat} {x : DataW H × List MemPlace} (h : DataW.trod enc Tryd.prog W 0 (fun _ => true) true fuel t [v] = some x) :
    ∃ xs, IntsSl W v xs ∧ ∀ n ∈ xs, I64 n := by
  obtain ⟨ao, len, cap, rfl, h1, h2, h3, hA⟩ := open_sl 1 ht (by kernel_rfl) (by decide) h
  by_cases h0 : 0 < len
  · obtain ⟨b, off, rfl, hc⟩ := hA h0
    obtain ⟨xs, hl, hR, hcells⟩ := sl_of (W := W) (n := 1) (len := len) (f := fun s : Int => [Value.int .i64 s]) (fun _ => rfl) (by decide) (b := b) (off := off) I64 (fun i hi => by
      obtain ⟨cs, k, y, hl, hcell, ht'⟩ := hc i hi
      obtain ⟨s, hs, _, hsz⟩ := DataW.trod_int Tryd.underlying2 ht'
      subst hs
      exact ⟨s, i64_of_wf hsz, hcell⟩)
    subst hl
    rw [flat_one] at hcells
    exact ⟨xs, ⟨by simp, _, cap, rfl, h1, h2, (fun h => by cases h), fun _ => ⟨b, off, rfl, hcells⟩⟩, hR⟩
  · obtain rfl : len = 0 := by omega
    exact ⟨[], ⟨by simp, ao, cap, rfl, h1, h2, h3, fun h => by simp at h⟩, by simp⟩
theorem val_of {cs : List Value} {k : Nat} {y : DataW H × List MemPlace} (h : DataW.trod enc Tryd.prog W 0 (fun _ => true) true k 41 cs = some y) : ∃ v : ValD, cs = v.cells ∧ v.s.size ≤ 9223372036854775807 := by
  obtain ⟨y0, y1, n, _, hl, h0, h1⟩ := trod_struct2 Tryd.underlying41 h
  have hC : Tryd.prog.cellsOf 41 = 2 := by kernel_rfl
  rw [hC] at hl
  match cs, hl with
  | [a, b], _ =>
    obtain ⟨s, e0, _, hs⟩ := DataW.trod_string Tryd.underlying9 h0
    obtain ⟨c, e1, _⟩ := DataW.trod_bool Tryd.underlying4 h1
    have c0 : Tryd.prog.cellsOf 9 = 1 := by kernel_rfl
    have c1 : Tryd.prog.cellsOf 4 = 1 := by kernel_rfl
    rw [c0] at e0
    rw [c1] at e1
    simp at e0 e1
    subst e0 e1
    exact ⟨⟨s, c⟩, rfl, by unfold maxLen at hs; omega⟩
theorem open_vals {t : TypeId} (ht : Tryd.prog.underlying t = some (.slice 41)) {v : Value} {fuel : Nat} {x : DataW H × List MemPlace} (h : DataW.trod enc Tryd.prog W 0 (fun _ => true) true fuel t [v] = some x) :
    ∃ l, ValsSl W v l ∧ ∀ v ∈ l, v.s.size ≤ 9223372036854775807 := by
  obtain ⟨ao, len, cap, rfl, h1, h2, h3, hA⟩ := open_sl 2 ht (by kernel_rfl) (by decide) h
  by_cases h0 : 0 < len
  · obtain ⟨b, off, rfl, hc⟩ := hA h0
    obtain ⟨l, hl, hR, hcells⟩ := sl_of (W := W) (n := 2) (len := len) (f := ValD.cells) ValD.cells_len (by decide) (b := b) (off := off) (fun v => v.s.size ≤ 9223372036854775807) (fun i hi => by
      obtain ⟨cs, k, y, hl, hcell, ht'⟩ := hc i hi
      obtain ⟨v, hv, hsz⟩ := val_of ht'
      subst hv
      exact ⟨v, hsz, hcell⟩)
    subst hl
    exact ⟨l, ⟨flat_len 2 _ ValD.cells_len l, _, cap, rfl, h1, h2, (fun h => by cases h), fun _ => ⟨b, off, rfl, hcells⟩⟩, hR⟩
  · obtain rfl : len = 0 := by omega
    exact ⟨[], ⟨by simp, ao, cap, rfl, h1, h2, h3, fun h => by simp at h⟩, by simp⟩
theorem open_sch {v : Value} {d : DataW H} {p : List MemPlace} (hv : Value.okWide Tryd.prog W .any base 24 v) (h : DataW.Trod enc Tryd.prog W 0 (fun _ => true) true 24 v d p) :
    ∃ vd vm ds ms g, v = .agg #[vd, vm, .int .i64 g] ∧ StrsSl W vd ds ∧ StrsSl W vm ms ∧ (∀ s ∈ ds, s.size ≤ 9223372036854775807) ∧ (∀ s ∈ ms, s.size ≤ 9223372036854775807) ∧ I64 g := by
  obtain ⟨v0, v1, v2, y0, y1, y2, m, rfl, _, _, h0, h1, h2⟩ := open_agg3 (P := Tryd.prog) Tryd.underlying24 (by kernel_rfl) (by kernel_rfl) hv h
  obtain ⟨ds, a1, a2⟩ := open_strs Tryd.underlying22 h0
  obtain ⟨ms, b1, b2⟩ := open_strs Tryd.underlying22 h1
  obtain ⟨g, e, _, hg⟩ := DataW.trod_int Tryd.underlying2 h2
  simp at e
  subst e
  exact ⟨v0, v1, ds, ms, g, rfl, a1, b1, a2, b2, i64_of_wf hg⟩
theorem open_row {v : Value} {d : DataW H} {p : List MemPlace} (hv : Value.okWide Tryd.prog W .any base 28 v) (h : DataW.Trod enc Tryd.prog W 0 (fun _ => true) true 28 v d p) :
    ∃ vr vn t l xs, v = .agg #[.int .i64 t, vr, vn] ∧ ValsSl W vr l ∧ IntsSl W vn xs ∧ (∀ v ∈ l, v.s.size ≤ 9223372036854775807) ∧ (∀ n ∈ xs, I64 n) ∧ I64 t := by
  obtain ⟨v0, v1, v2, y0, y1, y2, m, rfl, _, _, h0, h1, h2⟩ := open_agg3 (P := Tryd.prog) Tryd.underlying28 (by kernel_rfl) (by kernel_rfl) hv h
  obtain ⟨t, e, _, ht⟩ := DataW.trod_int Tryd.underlying2 h0
  obtain ⟨l, a1, a2⟩ := open_vals Tryd.underlying25 h1
  obtain ⟨xs, b1, b2⟩ := open_nums Tryd.underlying26 h2
  simp at e
  subst e
  exact ⟨v1, v2, t, l, xs, rfl, a1, b1, a2, b2, i64_of_wf ht⟩
end
end Go.Proofs.YtdgeinipdphoeaaDoor
