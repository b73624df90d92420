/- What the laws cut: values of at most ten, texts. -/
import Derived.Test.YtdgeinipdphoeaaSchK
namespace Go.Proofs.Ytdgeinipdphoeaa
set_option linter.unusedVariables false
set_option linter.unusedSimpArgs false
set_option maxRecDepth 100000
open Go.ChangeShapes Go.WideShapes Go.ChangeAt Go.RowKit

def cutS (n : Nat) (s : ByteArray) : ByteArray := s.extract 0 (min s.size n)
theorem cutS_size (n : Nat) (s : ByteArray) : (cutS n s).size ≤ n := by unfold cutS; rw [ByteArray.size_extract]; omega
theorem cutS_is (n : Nat) (s : ByteArray) : s.extract 0 (min (s.size : Int) (n : Int)).toNat = cutS n s := by
  unfold cutS
  rw [show (min (s.size : Int) (n : Int)).toNat = min s.size n by omega]
def valCut (v : ValD) : ValD := ⟨cutS 110 v.s, v.nl⟩
def valsCut (l : List ValD) : List ValD := (l.take 10).map valCut
theorem info_val : (Try.prog.info? 54).map (fun i => (i.zero, i.size, i.bytes)) = some (some (.agg #[.string { data := #[] }, .bool false]), 2, 24) := by kernel_rfl

set_option maxHeartbeats 2000000 in
theorem vals_any (v : Value) (l : List ValD) (w : World) (hv : ValsSl w v l) (hl : ∀ v ∈ l, v.s.size ≤ 9223372036854775807) :
    Calls Try.prog 44 #[v] w fun e w' => ∃ v', e = .returned v' ∧ w'.ownsRow w.heap.size 54 2 v' (valsCut l).length ((valsCut l).flatMap ValD.cells) ∧ Below w.heap.size w w' := by
  obtain ⟨i0, hi, hiz0, hiz1, hiz2⟩ := info_parts info_val
  obtain ⟨ao, cap, rfl, h1, h2, h3, hA⟩ := ValsSl.parts hv
  have HA := hid hA
  have HZ := hid (fun i (hi : i < l.length) => hl l[i] (List.getElem_mem hi))
  clear hl
  obtain ⟨N, hN⟩ : ∃ N, min l.length 10 = N := ⟨_, rfl⟩
  have HN := hid hN
  have HLn : Hid ((valsCut l).length = N) := by unfold Hid; rw [← hN]; simp [valsCut, Nat.min_comm]
  rw [HLn.out]
  have HT : Hid (∀ k (hk : k < l.length), k < N → ((l.take (k + 1)).map valCut).flatMap ValD.cells = ((l.take k).map valCut).flatMap ValD.cells ++ [.string (cutS 110 l[k].s), .bool l[k].nl]) := fun k hk _ => by
    rw [List.take_succ_eq_append_getElem hk, List.map_append, List.flatMap_append]
    rfl
  obtain ⟨R, hR⟩ : ∃ R, (valsCut l).flatMap ValD.cells = R := ⟨_, rfl⟩
  rw [hR]
  have HE : Hid (((l.take N).map valCut).flatMap ValD.cells = R) := by
    unfold Hid
    rw [← hR]
    unfold valsCut
    congr 2
    rw [← hN]
    by_cases h : l.length ≤ 10
    · rw [List.take_of_length_le (by omega), List.take_of_length_le h]
    · rw [show min l.length 10 = 10 by omega]
  clear hA hv HLn hR
  unfold maxLen at h2
  obtain ⟨L, hL⟩ : ∃ L, l.length = L := ⟨_, rfl⟩
  have HL := hid hL
  have hN10 : N ≤ 10 := by omega
  have hNL : N ≤ L := by omega
  have hcase : N = L ∨ N = 10 := by omega
  have HCS := hid hcase
  rw [hL] at h1 ⊢
  clear hL hN hcase
  go_enter Try.func44, Try.ntmps44
  go_wp2
  go_loopw [3, 4] (fun o i wr => ∃ k : Nat, k ≤ N ∧ i = .int .i64 k ∧ wr.ownsRow w.heap.size 54 2 o k (((l.take k).map valCut).flatMap ValD.cells) ∧ Below w.heap.size w wr) (fun _ i _ => N - (intOf i).toNat)
  case atStart => exact ⟨0, Nat.zero_le _, rfl, by simpa using World.ownsRow_nil _ _ _ _, Below.refl _ _⟩
  case round =>
    obtain ⟨k, hk, rfl, hown, hbel⟩ := hrel
    by_cases hkN : k < N
    · have hlen : k < l.length := by rw [HL.out]; omega
      obtain ⟨b, off, rfl, hc⟩ := HA.out (by omega)
      obtain ⟨c1, c2⟩ := hc k hlen
      have hblt : b < w.heap.size := World.block_lt_of_cell? _ _ c1
      have d1 := cell_step c1 hbel
      have d2 := cell_step c2 hbel
      have hz := HZ.out k hlen
      have ht := HT.out k hlen hkN
      generalize l[k].s = s at *
      generalize l[k].nl = bl at *
      have HT2 := hid ht; have HB := hid hbel; have HO := hid hown
      clear ht hbel hown hc c1 c2
      have g1 : (0 : Int) ≤ (k : Int) := Int.natCast_nonneg _
      have g2 : (k : Int) < (L : Int) := by omega
      have g3 : k < L := by omega
      have g4 : k < 10 := by omega
      obtain ⟨W0, hW0⟩ : ∃ W0, wr = W0 := ⟨_, rfl⟩
      rw [hW0] at HB HO d1 d2 ⊢
      clear hW0
      have im := ite_min
      have q1 : (0 : Int) ≤ min (s.size : Int) 110 := by omega
      have q2 : min (s.size : Int) 110 ≤ (s.size : Int) := by omega
      have q3 : s.extract 0 (min (s.size : Int) 110).toNat = cutS 110 s := cutS_is 110 s
      go_wp2
      go_region_held3 (fun w' => w'.cell? ⟨b, off + k * 2, none⟩ = some (.string s) ∧ w'.cell? ⟨b, off + k * 2 + 1, none⟩ = some (.bool bl)) (first | exact ⟨e0, e1⟩ | go_keep) ((first
        | (refine step_append_sl _ (by rfl) _ _ _ (by rfl) w.heap.size 54 i0 (.agg #[.string { data := #[] }, .bool false]) 2 24 Try.underlying25 hi hiz0 hiz1 hiz2 rfl (by decide) _ k _ (by rfl) ((HO.out.alloc _).drew) (.slice (some ⟨W0.heap.size, 0, none⟩) 1 1) 1 [.string (cutS 110 s), .bool bl] (by rfl) ((SlAt.new W0 #[.string (cutS 110 s), .bool bl] 54).drew) (by simp [Value.oneCell']) (by unfold maxLen; omega) (by omega) (by have := HB.out.size; go_size) ?_; intro v1 w1 hown1 hgrow1 hb1; have e0 : w1.cell? ⟨b, off + k * 2, none⟩ = some (.string s) := own_far ((HO.out.alloc _).drew) hgrow1 hblt (by go_simp); have e1 : w1.cell? ⟨b, off + k * 2 + 1, none⟩ = some (.bool bl) := own_far ((HO.out.alloc _).drew) hgrow1 hblt (by go_simp); have hB1 : Below w.heap.size w w1 := own_below ((HO.out.alloc _).drew) hgrow1 (by have := HB.out; (repeat' (first | (with_reducible exact Below.refl _ _) | (with_reducible assumption) | (with_reducible refine Below.new ?_ _) | (with_reducible refine Below.alloc ?_ ?_ _) | (with_reducible refine Below.drew ?_) | (with_reducible refine Below.drewN ?_ _) | (with_reducible refine Below.setCell ?_ ?_ _) | (refine Below.step ?_ (by assumption)) | go_size))) (Nat.le_refl _))))
      have hown2 : w1.ownsRow w.heap.size 54 2 v1 (k + 1) (((l.take (k + 1)).map valCut).flatMap ValD.cells) := by rw [HT2.out]; exact hown1
      have HO2 := hid hown2; have HB2 := hid hB1
      clear hown1 hown2 hgrow1 hb1 hB1
      go_wp2
      go_roundw
      case rel => exact ⟨k + 1, by omega, by go_num, HO2.out, HB2.out⟩
      case measure => simp [intOf]; omega
    · obtain rfl : k = N := by omega
      rw [HE.out] at hown
      have HO := hid hown; have HB := hid hbel
      clear hown hbel
      rcases HCS.out with h | h
      · subst h
        go_wp2
        go_ret
        exact ⟨u3, rfl, HO.out, HB.out⟩
      · subst h
        by_cases h10 : L = 10
        · subst h10
          go_wp2
          go_ret
          exact ⟨u3, rfl, HO.out, HB.out⟩
        · have h11 : 10 < L := by omega
          clear h10
          go_wp2
          go_ret
          exact ⟨u3, rfl, HO.out, HB.out⟩
end Go.Proofs.Ytdgeinipdphoeaa
