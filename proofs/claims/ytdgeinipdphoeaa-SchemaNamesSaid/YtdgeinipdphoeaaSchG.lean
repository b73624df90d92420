/- Schemas: the reference's 'Right'. -/
import Derived.Test.YtdgeinipdphoeaaSchF
import Derived.Test.YtdgeinipdphoeaaAppSl
import Derived.Deep.RegionHeld3
import Derived.Deep.QuietTactic
import Derived.BigQuiet
namespace Go.Proofs.Ytdgeinipdphoeaa
set_option linter.unusedVariables false
set_option linter.unusedSimpArgs false
set_option maxRecDepth 100000
open Go.ChangeShapes Go.WideShapes Go.ChangeAt Go.RowKit

theorem seen_or (l : List ByteArray) (t : ByteArray) : (seenB l t = false ∧ ∀ i (hi : i < l.length), (t.toList == l[i].toList) = false) ∨ (seenB l t = true ∧ ∃ j, ∃ hj : j < l.length, (t.toList == l[j].toList) = true ∧ ∀ i (hi : i < j), (t.toList == (l[i]'(Nat.lt_trans hi hj)).toList) = false) := by
  have H : ∀ n, n ≤ l.length → (∀ i (hi : i < l.length), i < n → (t.toList == l[i].toList) = false) ∨ (∃ j, ∃ hj : j < l.length, (t.toList == l[j].toList) = true ∧ ∀ i (hi : i < j), (t.toList == (l[i]'(Nat.lt_trans hi hj)).toList) = false) := by
    intro n
    induction n with
    | zero => intro _; exact .inl fun i hi h => absurd h (Nat.not_lt_zero i)
    | succ n ih =>
      intro hn
      rcases ih (by omega) with h | h
      · by_cases hg : (t.toList == (l[n]'(by omega)).toList) = true
        · exact .inr ⟨n, by omega, hg, fun i hi => h i (by omega) hi⟩
        · refine .inl fun i hi hin => ?_
          by_cases e : i = n
          · subst e; simpa using hg
          · exact h i hi (by omega)
      · exact .inr h
  rcases H l.length (Nat.le_refl _) with h | h
  · refine .inl ⟨?_, fun i hi => h i hi hi⟩
    unfold seenB
    rw [List.any_eq_false]
    intro x hx
    obtain ⟨i, hi, rfl⟩ := List.getElem_of_mem hx
    have := h i hi hi
    rw [ByteArray.toList_eq, ByteArray.toList_eq] at this
    simpa using fun e => (by rw [e] at this; simp at this)
  · refine .inr ⟨?_, h⟩
    obtain ⟨j, hj, he, _⟩ := h
    unfold seenB
    rw [List.any_eq_true]
    refine ⟨l[j], List.getElem_mem hj, ?_⟩
    rw [ByteArray.toList_eq, ByteArray.toList_eq] at he
    rw [beq_iff_eq] at he ⊢
    exact he.symm

set_option maxHeartbeats 4000000 in
theorem refRight_mid (vd vm : Value) (ds ms : List ByteArray) (g : Int) (w : World) (hd : StrsSl w vd ds) (hm : StrsSl w vm ms) (td : Texts ds) (tm : Texts ms) (h1 : 1 ≤ ds.length) (h2 : ds.length ≤ 6) (h3 : ms.length ≤ 4) (h4 : 1 ≤ g) (h5 : g ≤ 1000000000) :
    Calls Try.prog 22 #[.agg #[vd, vm, .int .i64 g]] w fun e w' => e = .returned (.bool (namesB (ds ++ ms))) ∧ Below w.heap.size w w' := by
  obtain ⟨i0, hi, hiz0, hiz1, hiz2⟩ := info_parts info_string
  obtain ⟨ta, _⟩ := td.app tm
  obtain ⟨J, hJ, hpre, hat, hres⟩ : ∃ J, J ≤ (ds ++ ms).length ∧ (∀ i, i < J → okAt (ds ++ ms) i = true) ∧ (J < (ds ++ ms).length → okAt (ds ++ ms) J = false) ∧ namesB (ds ++ ms) = decide (J = (ds ++ ms).length) := by
    rcases names_first (ds ++ ms) with ⟨e1, e2⟩ | ⟨e1, j, hj, e2, e3⟩
    · exact ⟨_, Nat.le_refl _, e2, fun h => absurd h (Nat.lt_irrefl _), by rw [e1]; simp⟩
    · exact ⟨j, by omega, e3, fun _ => e2, by rw [e1]; exact (decide_eq_false (by omega)).symm⟩
  rw [hres]
  clear hres
  have HTA := hid ta; have HPRE := hid hpre; have HAT := hid hat
  obtain ⟨ss, hss⟩ : ∃ ss, ds ++ ms = ss := ⟨_, rfl⟩
  have HSS := hid hss
  rw [hss] at HPRE HAT HTA hJ ⊢
  obtain ⟨ad, cd, rfl, _, _, _⟩ := SlAt.shape hd
  obtain ⟨am, cm, rfl, _, _, _⟩ := SlAt.shape hm
  have hN : ss.length = ds.length + ms.length := by rw [← hss]; simp
  have HD : Hid (SlAt w (.slice ad ds.length cd) ds.length 1 (strsV ds)) := hid hd
  have HM : Hid (SlAt w (.slice am ms.length cm) ms.length 1 (strsV ms)) := hid hm
  clear hd hm ta hpre hat hss
  have hN10 : ss.length ≤ 10 := by omega
  obtain ⟨N, hNN⟩ : ∃ N, ss.length = N := ⟨_, rfl⟩
  rw [hNN] at HAT hJ hN hN10 ⊢
  have HN := hid hN; have HNN := hid hNN
  clear hN hNN
  generalize ds.length = nd at *
  generalize ms.length = nm at *
  go_enter Try.func22, Try.ntmps22
  go_wp2
  go_region_held3 (fun w' => w'.cell? ⟨w.heap.size, 0, none⟩ = some (.slice ad nd cd) ∧ w'.cell? ⟨w.heap.size, 1, none⟩ = some (.slice am nm cm)) (first | exact ⟨f0, f1⟩ | exact ⟨e0, e1⟩ | go_keep) ((first
    | (refine step_append_sl _ (by rfl) _ _ _ (by rfl) (w.heap.size + 1) 9 i0 (.string { data := #[] }) 1 16 Try.underlying22 hi hiz0 hiz1 hiz2 rfl (by decide) (.slice none 0 0) 0 [] (by rfl) (World.ownsRow_nil _ _ _ _) (.slice ad nd cd) nd (strsV ds) (by rfl) (SlAt.below HD.out (by (repeat' (first | (with_reducible exact Below.refl _ _) | (with_reducible assumption) | (with_reducible refine Below.new ?_ _) | (with_reducible refine Below.alloc ?_ ?_ _) | (with_reducible refine Below.drew ?_) | (with_reducible refine Below.drewN ?_ _) | (with_reducible refine Below.setCell ?_ ?_ _) | (refine Below.step ?_ (by assumption)) | go_size)))) (strs_one _) (by unfold maxLen; omega) (by omega) (by go_size) ?_; intro v1 w1 hown1 hgrow1 hb1; obtain ⟨e0, e1⟩ : w1.cell? ⟨w.heap.size, 0, none⟩ = some (.slice ad nd cd) ∧ w1.cell? ⟨w.heap.size, 1, none⟩ = some (.slice am nm cm) := ⟨own_far (World.ownsRow_nil _ (w.heap.size + 1) 9 1) hgrow1 (by omega) (by go_simp), own_far (World.ownsRow_nil _ (w.heap.size + 1) 9 1) hgrow1 (by omega) (by go_simp)⟩; have hB1 : Below w.heap.size w w1 := own_below (World.ownsRow_nil _ (w.heap.size + 1) 9 1) hgrow1 (by (repeat' (first | (with_reducible exact Below.refl _ _) | (with_reducible assumption) | (with_reducible refine Below.new ?_ _) | (with_reducible refine Below.alloc ?_ ?_ _) | (with_reducible refine Below.drew ?_) | (with_reducible refine Below.drewN ?_ _) | (with_reducible refine Below.setCell ?_ ?_ _) | (refine Below.step ?_ (by assumption)) | go_size))) (by omega))
    | (refine step_append_sl _ (by rfl) _ _ _ (by rfl) (w.heap.size + 1) 9 i0 (.string { data := #[] }) 1 16 Try.underlying22 hi hiz0 hiz1 hiz2 rfl (by decide) v1 (0 + nd) ([] ++ strsV ds) (by rfl) hown1 (.slice am nm cm) nm (strsV ms) (by rfl) (SlAt.below HM.out (by (repeat' (first | (with_reducible exact Below.refl _ _) | (with_reducible assumption) | (with_reducible refine Below.new ?_ _) | (with_reducible refine Below.alloc ?_ ?_ _) | (with_reducible refine Below.drew ?_) | (with_reducible refine Below.drewN ?_ _) | (with_reducible refine Below.setCell ?_ ?_ _) | (refine Below.step ?_ (by assumption)) | go_size)))) (strs_one _) (by unfold maxLen; omega) (by omega) (Nat.succ_le_of_lt (World.block_lt_of_cell? _ _ e0)) ?_; intro v2 w2 hown2 hgrow2 hb2; obtain ⟨f0, f1⟩ : w2.cell? ⟨w.heap.size, 0, none⟩ = some (.slice ad nd cd) ∧ w2.cell? ⟨w.heap.size, 1, none⟩ = some (.slice am nm cm) := ⟨own_far hown1 hgrow2 (by omega) (by go_simp), own_far hown1 hgrow2 (by omega) (by go_simp)⟩; have hB2 : Below w.heap.size w w2 := own_below hown1 hgrow2 (by (repeat' (first | (with_reducible exact Below.refl _ _) | (with_reducible assumption) | (with_reducible refine Below.new ?_ _) | (with_reducible refine Below.alloc ?_ ?_ _) | (with_reducible refine Below.drew ?_) | (with_reducible refine Below.drewN ?_ _) | (with_reducible refine Below.setCell ?_ ?_ _) | (refine Below.step ?_ (by assumption)) | go_size))) (by omega))))
  have hv2 : StrsSl w2 v2 ss := by
    rw [← HSS.out]
    refine StrsSl.own (base := w.heap.size + 1) (e := 9) (n := 0 + nd + nm) ?_
    simpa [strsV] using hown2
  obtain ⟨a2, c2, rfl, hc2, hc3, _⟩ := SlAt.shape hv2
  have HV := hid hv2
  clear hown1 hown2 hgrow1 hgrow2 hb1 hb2 hv2 hB1 e0 e1 f0 f1 HD HM
  rw [HNN.out] at hc2 ⊢
  go_wp2
  go_loopw [4] (fun i wr => ∃ k : Nat, k ≤ J ∧ i = .int .i64 k ∧ Below w2.heap.size w2 wr) (fun i _ => N - (intOf i).toNat)
  case atStart => exact ⟨0, Nat.zero_le _, rfl, Below.refl _ _⟩
  case round =>
    obtain ⟨k, hk, rfl, hbel⟩ := hrel
    by_cases hkN : k < N
    · have hlen : k < ss.length := by rw [HNN.out]; exact hkN
      obtain ⟨b, off, rfl, hcell⟩ := (SlAt.parts HV.out).2.2.2.2 (by simp; omega)
      have HC := hid (fun i (hi : i < ss.length) => hcell i (.string ss[i]) (by rw [List.getElem?_map, List.getElem?_eq_getElem hi]; rfl))
      clear hcell
      have hok : okAt ss k = (!seenB (ss.take k) ss[k] && nameB ss[k]) := by unfold okAt strAt; rw [List.getElem?_eq_getElem hlen]; rfl
      have hsz := HTA.out ss[k] (List.getElem_mem hlen)
      have ck := HC.out k hlen
      obtain ⟨s, hs⟩ : ∃ s, ss[k] = s := ⟨_, rfl⟩
      have HN2 := hid (fun W => refIsName_any ss[k] W hsz)
      rw [hs] at hok hsz ck HN2
      have HCK := hid ck; have HOK := hid hok; have HBEL := hid hbel
      clear ck hok hs hbel
      obtain ⟨W0, hW0⟩ : ∃ W0, wr = W0 := ⟨_, rfl⟩
      rw [hW0] at HBEL ⊢
      clear hW0
      rcases seen_or (ss.take k) s with ⟨hsb, hno⟩ | ⟨hsb, j, hj, hyes, hno⟩
      · have HNO := hid (fun i (hi : i < k) => (show (s.toList == (ss[i]'(Nat.lt_trans hi hlen)).toList) = false from by have := hno i (by simp; omega); simpa using this))
        clear hno
        have HSB := hid hsb
        clear hsb
        go_wp2
        go_loopw [5] (fun i wr => ∃ m : Nat, m ≤ k ∧ i = .int .i64 m ∧ Below w2.heap.size w2 wr) (fun i _ => k - (intOf i).toNat)
        case atStart => exact ⟨0, Nat.zero_le _, rfl, HBEL.out⟩
        case round =>
          obtain ⟨m, hm, rfl, hbel⟩ := hrel
          have c1 := cell_step HCK.out hbel
          have HB := hid hbel
          by_cases hmk : m < k
          · have c2 := cell_step (HC.out m (Nat.lt_trans hmk hlen)) hbel
            have heq := HNO.out m hmk
            obtain ⟨t, ht⟩ : ∃ t, ss[m]'(Nat.lt_trans hmk hlen) = t := ⟨_, rfl⟩
            rw [ht] at c2 heq
            clear ht hbel
            have g1 : (0 : Int) ≤ (m : Int) := Int.natCast_nonneg _
            have g2 : (m : Int) < (N : Int) := by omega
            have g3 : (0 : Int) ≤ (k : Int) := Int.natCast_nonneg _
            have g4 : (k : Int) < (N : Int) := by omega
            go_wp2
            go_quiet (fail)
            go_wp2
            go_roundw
            case rel => exact ⟨m + 1, hmk, by go_num, by have := HB.out; (repeat' (first | (with_reducible exact Below.refl _ _) | (with_reducible assumption) | (with_reducible refine Below.new ?_ _) | (with_reducible refine Below.alloc ?_ ?_ _) | (with_reducible refine Below.drew ?_) | (with_reducible refine Below.drewN ?_ _) | (with_reducible refine Below.setCell ?_ ?_ _) | (refine Below.step ?_ (by assumption)) | go_size))⟩
            case measure => simp [intOf]; omega
          · obtain rfl : m = k := by omega
            by_cases hkJ : m < J
            · have hnm : nameB s = true := by
                have h1 := HPRE.out m hkJ
                rw [HOK.out, HSB.out] at h1
                simpa using h1
              rw [hnm] at HN2
              clear hbel hnm
              go_wp2_with (go_at_call 50; ((with_reducible refine (HN2.out _).mono ?_); rintro e w4 ⟨rfl, hb4⟩))
              go_roundw
              case rel => exact ⟨m + 1, hkJ, by go_num, by have := HB.out; (repeat' (first | (with_reducible exact Below.refl _ _) | (with_reducible assumption) | (with_reducible refine Below.new ?_ _) | (with_reducible refine Below.alloc ?_ ?_ _) | (with_reducible refine Below.drew ?_) | (with_reducible refine Below.drewN ?_ _) | (with_reducible refine Below.setCell ?_ ?_ _) | (refine Below.step ?_ (by assumption)) | go_size))⟩
              case measure => simp [intOf]; omega
            · obtain rfl : m = J := by omega
              have hnm : nameB s = false := by
                have h1 := HAT.out hkN
                rw [HOK.out, HSB.out] at h1
                simpa using h1
              rw [hnm] at HN2
              clear hbel hnm
              have HD : Hid (decide (m = N) = false) := by unfold Hid; simp; omega
              go_wp2_with (go_at_call 50; ((with_reducible refine (HN2.out _).mono ?_); rintro e w4 ⟨rfl, hb4⟩))
              go_ret
              have := HB.out
              exact ⟨ret_bool (by rw [HD.out]), hB2.trans (Below.mono (B := w2.heap.size) (by (repeat' (first | (with_reducible exact Below.refl _ _) | (with_reducible assumption) | (with_reducible refine Below.new ?_ _) | (with_reducible refine Below.alloc ?_ ?_ _) | (with_reducible refine Below.drew ?_) | (with_reducible refine Below.drewN ?_ _) | (with_reducible refine Below.setCell ?_ ?_ _) | (refine Below.step ?_ (by assumption)) | go_size))) hB2.size)⟩
      · have hJk : k = J := by
          by_cases h : k < J
          · have h1 := HPRE.out k h
            rw [HOK.out, hsb] at h1
            simp at h1
          · omega
        have hjk : j < k := by simp at hj; omega
        have HNO := hid (fun i (hi : i < j) => (show (s.toList == (ss[i]'(Nat.lt_trans (Nat.lt_trans hi hjk) hlen)).toList) = false from by have := hno i hi; simpa using this))
        have hyes2 : (s.toList == (ss[j]'(Nat.lt_trans hjk hlen)).toList) = true := by simpa using hyes
        clear hno hsb hyes
        have HY := hid hyes2
        have HD : Hid (decide (J = N) = false) := by unfold Hid; simp; omega
        clear hyes2 hJk
        go_wp2
        go_loopw [5] (fun i wr => ∃ m : Nat, m ≤ j ∧ i = .int .i64 m ∧ Below w2.heap.size w2 wr) (fun i _ => k - (intOf i).toNat)
        case atStart => exact ⟨0, Nat.zero_le _, rfl, HBEL.out⟩
        case round =>
          obtain ⟨m, hm, rfl, hbel⟩ := hrel
          have c1 := cell_step HCK.out hbel
          have HB := hid hbel
          have c2 := cell_step (HC.out m (by omega)) hbel
          have g1 : (0 : Int) ≤ (m : Int) := Int.natCast_nonneg _
          have g2 : (m : Int) < (N : Int) := by omega
          have g3 : (0 : Int) ≤ (k : Int) := Int.natCast_nonneg _
          have g4 : (k : Int) < (N : Int) := by omega
          have g5 : m < k := by omega
          by_cases hmk : m < j
          · have heq := HNO.out m hmk
            obtain ⟨t, ht⟩ : ∃ t, ss[m]'(by omega) = t := ⟨_, rfl⟩
            rw [ht] at c2 heq
            clear ht hbel
            go_wp2
            go_quiet (fail)
            go_wp2
            go_roundw
            case rel => exact ⟨m + 1, hmk, by go_num, by have := HB.out; (repeat' (first | (with_reducible exact Below.refl _ _) | (with_reducible assumption) | (with_reducible refine Below.new ?_ _) | (with_reducible refine Below.alloc ?_ ?_ _) | (with_reducible refine Below.drew ?_) | (with_reducible refine Below.drewN ?_ _) | (with_reducible refine Below.setCell ?_ ?_ _) | (refine Below.step ?_ (by assumption)) | go_size))⟩
            case measure => simp [intOf]; omega
          · obtain rfl : m = j := by omega
            have heq := HY.out
            obtain ⟨t, ht⟩ : ∃ t, ss[m]'(by omega) = t := ⟨_, rfl⟩
            rw [ht] at c2 heq
            clear ht hbel
            go_wp2
            go_quiet (fail)
            go_wp2
            go_ret
            have := HB.out
            exact ⟨ret_bool (by rw [HD.out]), hB2.trans (Below.mono (B := w2.heap.size) (by (repeat' (first | (with_reducible exact Below.refl _ _) | (with_reducible assumption) | (with_reducible refine Below.new ?_ _) | (with_reducible refine Below.alloc ?_ ?_ _) | (with_reducible refine Below.drew ?_) | (with_reducible refine Below.drewN ?_ _) | (with_reducible refine Below.setCell ?_ ?_ _) | (refine Below.step ?_ (by assumption)) | go_size))) hB2.size)⟩
    · obtain rfl : k = N := by omega
      obtain rfl : k = J := by omega
      go_wp2
      go_ret
      exact ⟨ret_bool (by simp), hB2.trans (hbel.mono hB2.size)⟩

set_option maxHeartbeats 1000000 in
theorem refRight_any (vd vm : Value) (ds ms : List ByteArray) (g : Int) (w : World) (hd : StrsSl w vd ds) (hm : StrsSl w vm ms) (td : Texts ds) (tm : Texts ms) :
    Calls Try.prog 22 #[.agg #[vd, vm, .int .i64 g]] w fun e w' => e = .returned (.bool (rightS ds ms g)) ∧ Below w.heap.size w w' := by
  by_cases h1 : 1 ≤ ds.length ∧ ds.length ≤ 6 ∧ ms.length ≤ 4 ∧ 1 ≤ g ∧ g ≤ 1000000000
  · obtain ⟨h1, h2, h3, h4, h5⟩ := h1
    have hr : rightS ds ms g = namesB (ds ++ ms) := by simp [rightS, h1, h2, h3, h4, h5]
    rw [hr]
    exact refRight_mid vd vm ds ms g w hd hm td tm h1 h2 h3 h4 h5
  · have hr : rightS ds ms g = false := by simp [rightS]; omega
    rw [hr]
    have hcase : ds.length < 1 ∨ (1 ≤ ds.length ∧ 6 < ds.length) ∨ ((1 ≤ ds.length ∧ ds.length ≤ 6) ∧ 4 < ms.length) ∨ ((1 ≤ ds.length ∧ ds.length ≤ 6) ∧ ms.length ≤ 4 ∧ g < 1) ∨ ((1 ≤ ds.length ∧ ds.length ≤ 6) ∧ ms.length ≤ 4 ∧ 1 ≤ g ∧ 1000000000 < g) := by omega
    obtain ⟨td, _⟩ := td
    obtain ⟨tm, _⟩ := tm
    obtain ⟨ad, cd, rfl, _, _, _⟩ := SlAt.shape hd
    obtain ⟨am, cm, rfl, _, _, _⟩ := SlAt.shape hm
    clear hd hm hr h1
    generalize ds.length = nd at *
    generalize ms.length = nm at *
    rcases hcase with h | ⟨h1, h⟩ | ⟨⟨h1, h2⟩, h⟩ | ⟨⟨h1, h2⟩, h3, h⟩ | ⟨⟨h1, h2⟩, h3, h4, h⟩
    all_goals
      go_enter Try.func22, Try.ntmps22
      go_wp2
      go_ret
      exact ⟨rfl, by (repeat' (first | (with_reducible exact Below.refl _ _) | (with_reducible assumption) | (with_reducible refine Below.new ?_ _) | (with_reducible refine Below.alloc ?_ ?_ _) | (with_reducible refine Below.drew ?_) | (with_reducible refine Below.drewN ?_ _) | (with_reducible refine Below.setCell ?_ ?_ _) | (refine Below.step ?_ (by assumption)) | go_size))⟩
end Go.Proofs.Ytdgeinipdphoeaa
