/- Texts joined: SchA, SchB, SchC, SchD, SchE, SchF, SchG. -/
import Derived.Test.YtdgeinipdphoeaaGa
import Derived.Lib.OthersKept
import Derived.Laws.RangeAny
import Derived.Maps.Views
import Derived.StringKeys
import Derived.Lib.AppendZeros
import Derived.Laws.AppendOwnNone
import Derived.Deep.RegionHeld3
import Derived.Deep.QuietTactic
import Derived.BigQuiet
/- Schemas: which texts are names, by the program and by the reference. -/
namespace Go.Proofs.Ytdgeinipdphoeaa
set_option linter.unusedVariables false
set_option linter.unusedSimpArgs false
open Go.ChangeShapes Go.WideShapes Go.ChangeAt Go.RowKit

/-- May a byte stand at a name's place i? -/
def goodC (i : Nat) (c : UInt8) : Bool := decide (97 ≤ c.toNat ∧ c.toNat ≤ 122) || (decide (i ≠ 0) && (decide (c.toNat = 95) || decide (48 ≤ c.toNat ∧ c.toNat ≤ 57)))
/-- Is a text a name? -/
def nameB (s : ByteArray) : Bool := decide (0 < s.size ∧ s.size ≤ 20) && (List.range s.size).all fun i => goodC i (s.data.toList[i]?.getD 0)
theorem byte_at (s : ByteArray) (i : Nat) (h : i < s.size) : s.data.toList[i]?.getD 0 = s[i] := by
  have : i < s.data.toList.length := by simpa using h
  rw [List.getElem?_eq_getElem this]
  rfl
theorem name_good {s : ByteArray} (h : ∀ i (hi : i < s.size), goodC i s[i] = true) : nameB s = decide (0 < s.size ∧ s.size ≤ 20) := by
  unfold nameB
  have : ((List.range s.size).all fun i => goodC i (s.data.toList[i]?.getD 0)) = true := by
    rw [List.all_eq_true]
    intro i hi
    have hi := List.mem_range.1 hi
    rw [byte_at s i hi]
    exact h i hi
  rw [this, Bool.and_true]
theorem name_bad {s : ByteArray} {j : Nat} (hj : j < s.size) (h : goodC j s[j] = false) : nameB s = false := by
  unfold nameB
  have : ((List.range s.size).all fun i => goodC i (s.data.toList[i]?.getD 0)) = false := by
    rw [List.all_eq_false]
    refine ⟨j, List.mem_range.2 hj, ?_⟩
    rw [byte_at s j hj, h]
    simp
  rw [this, Bool.and_false]
theorem good_or (s : ByteArray) : (∀ i (hi : i < s.size), goodC i s[i] = true) ∨ ∃ j, ∃ hj : j < s.size, goodC j s[j] = false ∧ ∀ i (hi : i < j), goodC i (s[i]'(Nat.lt_trans hi hj)) = true := by
  have H : ∀ n, n ≤ s.size → (∀ i (hi : i < s.size), i < n → goodC i s[i] = true) ∨ ∃ j, ∃ hj : j < s.size, goodC j s[j] = false ∧ ∀ i (hi : i < j), goodC i (s[i]'(Nat.lt_trans hi hj)) = true := by
    intro n
    induction n with
    | zero => intro _; exact .inl fun i hi h => absurd h (Nat.not_lt_zero i)
    | succ n ih =>
      intro hn
      rcases ih (by omega) with h | h
      · by_cases hg : goodC n (s[n]'(by omega)) = true
        · refine .inl fun i hi hin => ?_
          by_cases e : i = n
          · subst e; exact hg
          · exact h i hi (by omega)
        · exact .inr ⟨n, by omega, by simpa using hg, fun i hi => h i (by omega) hi⟩
      · exact .inr h
  rcases H s.size (Nat.le_refl _) with h | h
  · exact .inl fun i hi => h i hi hi
  · exact .inr h
theorem goodC_iff {i : Nat} {c : UInt8} : goodC i c = true ↔ (97 ≤ c.toNat ∧ c.toNat ≤ 122) ∨ (i ≠ 0 ∧ (c.toNat = 95 ∨ (48 ≤ c.toNat ∧ c.toNat ≤ 57))) := by
  unfold goodC
  simp only [Bool.or_eq_true, Bool.and_eq_true, decide_eq_true_eq]

/-- The next rune. -/
theorem rune_at (w : World) (k : Nat) (s : ByteArray) (pos : Nat) (hk : w.heap[k]? = some (.stringIter s pos)) (h : pos < s.size) :
    ∃ r v : Nat, (∀ ty, (Instr.next (.pointer (some ⟨k, 0, none⟩)) true ty).run Try.prog w = .ok (.tuple #[.bool true, .int .i64 pos, .int .i32 (r : Int)]) (w.iterAt k s (pos + v))) ∧ 1 ≤ v ∧
      (((s[pos]'h).toNat < 128 ∧ r = (s[pos]'h).toNat ∧ v = 1) ∨ (128 ≤ (s[pos]'h).toNat ∧ 128 ≤ r)) ∧ r ≤ 2147483647 := by
  refine ⟨(Utf8.decode s pos).1, (Utf8.decode s pos).2, fun ty => Lib.run_next_any_at w k s pos ty hk h, ?_, ?_, decode_le s pos⟩
  · by_cases ha : (s[pos]'h).toNat < 128
    · rw [decode_ascii s pos h ha]; exact Nat.le_refl _
    · exact (decode_high s pos h (by omega)).2
  · by_cases ha : (s[pos]'h).toNat < 128
    · rw [decode_ascii s pos h ha]; exact .inl ⟨ha, rfl, rfl⟩
    · exact .inr ⟨by omega, (decode_high s pos h (by omega)).1⟩

set_option maxRecDepth 100000 in
set_option maxHeartbeats 1000000 in
theorem isName_none (s : ByteArray) (w : World) (h0 : s.size = 0) : Calls Try.prog 81 #[.string s] w fun e w' => e = .returned (.bool false) ∧ Below w.heap.size w w' := by
  obtain rfl : s = { data := #[] } := by
    cases s with
    | mk d =>
      have : d.size = 0 := h0
      rw [Array.size_eq_zero_iff.1 this]
  clear h0
  have hnx := fun ty => run_next_end (P := Try.prog) w { data := #[] } 0 ty (by decide)
  go_enter Try.func81, Try.ntmps81
  go_wp2
  refine wp_scope_straight ?_
  go_wp2
  refine wp_label ?_
  go_wp2
  refine wp_loop_rounds 1 ?_
  rw [rounds_succ]
  go_wp2
  (try rw [Exit.noGoto_ret])
  go_ret
  exact ⟨rfl, (Below.refl _ _).alloc (Nat.le_refl _) _⟩

set_option maxRecDepth 100000 in
set_option maxHeartbeats 1000000 in
theorem isName_some (s : ByteArray) (w : World) (h0 : 0 < s.size) (hs : s.size ≤ 9223372036854775807) (b0 : Bool) (hb0 : decide (s.size ≤ 20) = b0) (j : Nat) (hj : j ≤ s.size) (h : ∀ i (hi : i < j), goodC i (s[i]'(by omega)) = true)
    (hbad : ∀ hj : j < s.size, goodC j s[j] = false) :
    Calls Try.prog 81 #[.string s] w fun e w' => e = .returned (.bool (b0 && decide (j = s.size))) ∧ Below w.heap.size w w' := by
  have hne : s.toList.isEmpty = false := by
    rw [ByteArray.toList_eq]
    have : 0 < s.data.toList.length := by simpa using h0
    cases hd : s.data.toList with
    | nil => rw [hd] at this; simp at this
    | cons a l => rfl
  have hb1 : decide ((s.size : Int) ≤ 20) = b0 := by rw [← hb0]; simp; omega
  clear hb0
  go_enter Try.func81, Try.ntmps81
  go_wp2
  refine wp_scope_straight ?_
  go_wp2
  refine wp_label ?_
  go_wp2
  go_loopw [3] (fun b wr => ∃ pos : Nat, pos ≤ j ∧ b = .bool b0 ∧ wr.heap[w.heap.size]? = some (.stringIter s pos) ∧ Below w.heap.size w wr) (fun _ wr => s.size - wr.iterPos w.heap.size)
  case atStart => exact ⟨0, Nat.zero_le _, rfl, World.iter_heap w s 0, (Below.refl _ _).alloc (Nat.le_refl _) _⟩
  case round =>
    obtain ⟨pos, hp, rfl, hit, hB⟩ := hrel
    have hsz : w.heap.size < wr.heap.size := (Array.getElem?_eq_some_iff.1 hit).1
    by_cases hpj : pos < j
    · have hg := goodC_iff.1 (h pos hpj)
      obtain ⟨r, v, hnx, hv, hr, hr2⟩ := rune_at wr w.heap.size s pos hit (by omega)
      obtain ⟨c, hc⟩ : ∃ c, (s[pos]'(by omega)).toNat = c := ⟨_, rfl⟩
      rw [hc] at hg hr
      obtain ⟨rfl, rfl⟩ : r = c ∧ v = 1 := by omega
      have hit2 := Lib.iterAt_heap wr w.heap.size s pos (pos + 1) hit
      have hB2 := Lib.below_iterAt hB (k := w.heap.size) (Nat.le_refl _) s (pos + 1)
      have hm : s.size - (wr.iterAt w.heap.size s (pos + 1)).iterPos w.heap.size < s.size - wr.iterPos w.heap.size := by
        simp only [World.iterPos, hit2, hit]; omega
      have HI := hid hit2; have HB2 := hid hB2; have HM := hid hm
      clear h hbad hne hb1 hit2 hB2 hm hv hr hc hB hit
      rcases hg with ⟨g1, g2⟩ | ⟨g0, g1 | ⟨g1, g2⟩⟩
      · go_wp2
        go_roundw
        case rel => exact ⟨pos + 1, hpj, rfl, HI.out, HB2.out⟩
        case measure => exact HM.out
      · subst g1
        have hp0 : ((pos : Int) == 0) = false := by simp; omega
        go_wp2
        go_roundw
        case rel => exact ⟨pos + 1, hpj, rfl, HI.out, HB2.out⟩
        case measure => exact HM.out
      · have hn : ((r : Int) != 95) = true := by simp; omega
        have hp0 : ((pos : Int) == 0) = false := by simp; omega
        go_wp2
        go_roundw
        case rel => exact ⟨pos + 1, hpj, rfl, HI.out, HB2.out⟩
        case measure => exact HM.out
    · obtain rfl : pos = j := by omega
      by_cases hps : pos < s.size
      · have hg := hbad hps
        obtain ⟨r, v, hnx, hv, hr, hr2⟩ := rune_at wr w.heap.size s pos hit hps
        obtain ⟨c, hc⟩ : ∃ c, (s[pos]'hps).toNat = c := ⟨_, rfl⟩
        have hg2 : ¬ ((97 ≤ c ∧ c ≤ 122) ∨ (pos ≠ 0 ∧ (c = 95 ∨ (48 ≤ c ∧ c ≤ 57)))) := fun hh => by
          rw [← hc] at hh
          rw [goodC_iff.2 hh] at hg
          cases hg
        rw [hc] at hr
        have hB2 := Lib.below_iterAt hB (k := w.heap.size) (Nat.le_refl _) s (pos + v)
        have HB2 := hid hB2
        have HD : Hid (decide (pos = s.size) = false) := by unfold Hid; simp; omega
        have hcase : ((r < 97 ∨ 122 < r) ∧ pos = 0) ∨ ((r < 97 ∨ 122 < r) ∧ 0 < pos ∧ r ≠ 95 ∧ (r < 48 ∨ 57 < r)) := by omega
        clear h hbad hne hb1 hB2 hv hr hc hB hit hg2 hg
        rcases hcase with ⟨g1, g0⟩ | ⟨g1, g2, g3, g4⟩
        · have hp0 : ((pos : Int) == 0) = true := by simp; omega
          clear g0
          rcases g1 with g1 | g1
          · go_wp2
            all_goals ((try rw [Exit.noGoto_ret]); go_ret; exact ⟨ret_bool (by rw [HD.out, Bool.and_false]), HB2.out⟩)
          · have hd : decide ((r : Int) ≤ 122) = false := by rw [decide_eq_false_iff_not]; omega
            go_wp2
            all_goals ((try rw [Exit.noGoto_ret]); go_ret; exact ⟨ret_bool (by rw [HD.out, Bool.and_false]), HB2.out⟩)
        · have hp0 : ((pos : Int) == 0) = false := by simp; omega
          have hn : ((r : Int) != 95) = true := by simp; omega
          clear g3 g2
          have hcase : r < 48 ∨ (57 < r ∧ r < 97) ∨ 122 < r := by omega
          clear g1 g4
          rcases hcase with g1 | ⟨g1, g2⟩ | g1
          · go_wp2
            all_goals ((try rw [Exit.noGoto_ret]); go_ret; exact ⟨ret_bool (by rw [HD.out, Bool.and_false]), HB2.out⟩)
          · have hd2 : decide ((57 : Int) < r) = true := by rw [decide_eq_true_eq]; omega
            go_wp2
            all_goals ((try rw [Exit.noGoto_ret]); go_ret; exact ⟨ret_bool (by rw [HD.out, Bool.and_false]), HB2.out⟩)
          · have hd : decide ((r : Int) ≤ 122) = false := by rw [decide_eq_false_iff_not]; omega
            have hd2 : decide ((57 : Int) < r) = true := by rw [decide_eq_true_eq]; omega
            go_wp2
            all_goals ((try rw [Exit.noGoto_ret]); go_ret; exact ⟨ret_bool (by rw [HD.out, Bool.and_false]), HB2.out⟩)
      · have hnx : ∀ ty, (Instr.next (.pointer (some ⟨w.heap.size, 0, none⟩)) true ty).run Try.prog wr = _ := fun ty => Lib.run_next_end_at wr w.heap.size s pos ty hit hps
        have HB2 := hid hB
        have HD : Hid (decide (pos = s.size) = true) := by unfold Hid; simp; omega
        clear h hbad hne hb1 hB hit
        go_wp2
        (try rw [Exit.noGoto_ret])
        go_ret
        exact ⟨ret_bool (by rw [HD.out, Bool.and_true]), HB2.out⟩

theorem isName_any (s : ByteArray) (w : World) (hs : s.size ≤ 9223372036854775807) : Calls Try.prog 81 #[.string s] w fun e w' => e = .returned (.bool (nameB s)) ∧ Below w.heap.size w w' := by
  by_cases h0 : s.size = 0
  · refine (isName_none s w h0).mono fun e w' ⟨he, hw⟩ => ⟨he.trans (ret_bool ?_), hw⟩
    unfold nameB; simp [h0]
  · rcases good_or s with h | ⟨j, hj, h1, h2⟩
    · refine (isName_some s w (by omega) hs _ rfl s.size (Nat.le_refl _) (fun i hi => h i hi) (fun hh => absurd hh (Nat.lt_irrefl _))).mono fun e w' ⟨he, hw⟩ => ⟨he.trans (ret_bool ?_), hw⟩
      rw [name_good h]
      have : 0 < s.size := by omega
      simp [this]
    · refine (isName_some s w (by omega) hs _ rfl j (by omega) h2 (fun _ => h1)).mono fun e w' ⟨he, hw⟩ => ⟨he.trans (ret_bool ?_), hw⟩
      rw [name_bad hj h1]
      have : ¬ j = s.size := by omega
      simp [this]

set_option maxRecDepth 100000 in
set_option maxHeartbeats 1000000 in
theorem refIsName_out (s : ByteArray) (w : World) (hs : s.size ≤ 9223372036854775807) (h : s.size = 0 ∨ 20 < s.size) : Calls Try.prog 50 #[.string s] w fun e w' => e = .returned (.bool false) ∧ Below w.heap.size w w' := by
  rcases h with h | h
  all_goals
    go_enter Try.func50, Try.ntmps50
    go_wp2
    go_ret
    exact ⟨rfl, by (repeat' (first | (with_reducible exact Below.refl _ _) | (with_reducible assumption) | (with_reducible refine Below.new ?_ _) | (with_reducible refine Below.alloc ?_ ?_ _) | (with_reducible refine Below.drew ?_) | (with_reducible refine Below.drewN ?_ _) | (with_reducible refine Below.setCell ?_ ?_ _) | (refine Below.step ?_ (by assumption)) | go_size))⟩
set_option maxRecDepth 100000 in
set_option maxHeartbeats 1000000 in
theorem refIsName_head (s : ByteArray) (w : World) (h0 : 0 < s.size) (h1 : s.size ≤ 20) (h : (s[0]'h0).toNat < 97 ∨ 122 < (s[0]'h0).toNat) : Calls Try.prog 50 #[.string s] w fun e w' => e = .returned (.bool false) ∧ Below w.heap.size w w' := by
  have hc2 := (s[0]'h0).toNat_lt
  rcases h with h | h
  all_goals
    go_enter Try.func50, Try.ntmps50
    go_wp2
    all_goals (go_ret; exact ⟨rfl, by (repeat' (first | (with_reducible exact Below.refl _ _) | (with_reducible assumption) | (with_reducible refine Below.new ?_ _) | (with_reducible refine Below.alloc ?_ ?_ _) | (with_reducible refine Below.drew ?_) | (with_reducible refine Below.drewN ?_ _) | (with_reducible refine Below.setCell ?_ ?_ _) | (refine Below.step ?_ (by assumption)) | go_size))⟩)
set_option maxRecDepth 100000 in
set_option maxHeartbeats 1000000 in
theorem refIsName_some (s : ByteArray) (w : World) (h0 : 0 < s.size) (h1 : s.size ≤ 20) (h2 : 97 ≤ (s[0]'h0).toNat ∧ (s[0]'h0).toNat ≤ 122) (j : Nat) (hj : j ≤ s.size) (h : ∀ i (hi : i < j), goodC i (s[i]'(by omega)) = true)
    (hbad : ∀ hj : j < s.size, goodC j s[j] = false) :
    Calls Try.prog 50 #[.string s] w fun e w' => e = .returned (.bool (decide (j = s.size))) ∧ Below w.heap.size w w' := by
  have hj0 : 0 < j := by
    rcases Nat.eq_zero_or_pos j with e | e
    · subst e
      have := hbad h0
      rw [goodC_iff.2 (.inl h2)] at this
      cases this
    · exact e
  obtain ⟨c0, hc0⟩ : ∃ c0, (s[0]'h0).toNat = c0 := ⟨_, rfl⟩
  rw [hc0] at h2
  go_enter Try.func50, Try.ntmps50
  go_wp2
  clear hc0
  go_loop [3] (fun i => ∃ k : Nat, k ≤ j ∧ i = .int .i64 k) (fun i => s.size - (intOf i).toNat)
  case atStart => exact ⟨0, Nat.zero_le _, rfl⟩
  case round =>
    obtain ⟨k, hk, rfl⟩ := hrel
    by_cases hkj : k < j
    · have hg := goodC_iff.1 (h k hkj)
      have hc2 := (s[k]'(by omega)).toNat_lt
      obtain ⟨c, hc⟩ : ∃ c, (s[k]'(by omega)).toNat = c := ⟨_, rfl⟩
      rw [hc] at hg hc2
      have hks : k < s.size := by omega
      clear h hbad
      rcases hg with ⟨g1, g2⟩ | ⟨g0, g1 | ⟨g1, g2⟩⟩
      · go_wp2
        go_round
        case rel => exact ⟨k + 1, hkj, by go_num⟩
        case measure => simp [intOf]; omega
      · subst g1
        go_wp2
        go_round
        case rel => exact ⟨k + 1, hkj, by go_num⟩
        case measure => simp [intOf]; omega
      · go_wp2
        go_round
        case rel => exact ⟨k + 1, hkj, by go_num⟩
        case measure => simp [intOf]; omega
    · obtain rfl : k = j := by omega
      by_cases hps : k < s.size
      · have hg := hbad hps
        have hc2 := (s[k]'hps).toNat_lt
        obtain ⟨c, hc⟩ : ∃ c, (s[k]'hps).toNat = c := ⟨_, rfl⟩
        have hg2 : ¬ ((97 ≤ c ∧ c ≤ 122) ∨ (k ≠ 0 ∧ (c = 95 ∨ (48 ≤ c ∧ c ≤ 57)))) := fun hh => by
          rw [← hc] at hh
          rw [goodC_iff.2 hh] at hg
          cases hg
        rw [hc] at hc2
        have HD : Hid (decide (k = s.size) = false) := by unfold Hid; simp; omega
        have hcase : c < 48 ∨ (57 < c ∧ c < 95) ∨ c = 96 ∨ 122 < c := by omega
        clear h hbad hg2 hg
        rcases hcase with g1 | ⟨g1, g2⟩ | g1 | g1
        · have hn : ((c : Int) == 95) = false := by simp; omega
          go_wp2
          all_goals (go_ret; exact ⟨ret_bool (by rw [HD.out]), by (repeat' (first | (with_reducible exact Below.refl _ _) | (with_reducible assumption) | (with_reducible refine Below.new ?_ _) | (with_reducible refine Below.alloc ?_ ?_ _) | (with_reducible refine Below.drew ?_) | (with_reducible refine Below.drewN ?_ _) | (with_reducible refine Below.setCell ?_ ?_ _) | (refine Below.step ?_ (by assumption)) | go_size))⟩)
        · have hn : ((c : Int) == 95) = false := by simp; omega
          have hn2 : decide ((c : Int) ≤ 57) = false := by rw [decide_eq_false_iff_not]; omega
          go_wp2
          all_goals (go_ret; exact ⟨ret_bool (by rw [HD.out]), by (repeat' (first | (with_reducible exact Below.refl _ _) | (with_reducible assumption) | (with_reducible refine Below.new ?_ _) | (with_reducible refine Below.alloc ?_ ?_ _) | (with_reducible refine Below.drew ?_) | (with_reducible refine Below.drewN ?_ _) | (with_reducible refine Below.setCell ?_ ?_ _) | (refine Below.step ?_ (by assumption)) | go_size))⟩)
        · subst g1
          go_wp2
          all_goals (go_ret; exact ⟨ret_bool (by rw [HD.out]), by (repeat' (first | (with_reducible exact Below.refl _ _) | (with_reducible assumption) | (with_reducible refine Below.new ?_ _) | (with_reducible refine Below.alloc ?_ ?_ _) | (with_reducible refine Below.drew ?_) | (with_reducible refine Below.drewN ?_ _) | (with_reducible refine Below.setCell ?_ ?_ _) | (refine Below.step ?_ (by assumption)) | go_size))⟩)
        · have hn : ((c : Int) == 95) = false := by simp; omega
          have hn2 : decide ((c : Int) ≤ 57) = false := by rw [decide_eq_false_iff_not]; omega
          have hn3 : decide ((c : Int) ≤ 122) = false := by rw [decide_eq_false_iff_not]; omega
          go_wp2
          all_goals (go_ret; exact ⟨ret_bool (by rw [HD.out]), by (repeat' (first | (with_reducible exact Below.refl _ _) | (with_reducible assumption) | (with_reducible refine Below.new ?_ _) | (with_reducible refine Below.alloc ?_ ?_ _) | (with_reducible refine Below.drew ?_) | (with_reducible refine Below.drewN ?_ _) | (with_reducible refine Below.setCell ?_ ?_ _) | (refine Below.step ?_ (by assumption)) | go_size))⟩)
      · have HD : Hid (decide (k = s.size) = true) := by unfold Hid; simp; omega
        clear h hbad
        go_wp2
        go_ret
        exact ⟨ret_bool (by rw [HD.out]), by (repeat' (first | (with_reducible exact Below.refl _ _) | (with_reducible assumption) | (with_reducible refine Below.new ?_ _) | (with_reducible refine Below.alloc ?_ ?_ _) | (with_reducible refine Below.drew ?_) | (with_reducible refine Below.drewN ?_ _) | (with_reducible refine Below.setCell ?_ ?_ _) | (refine Below.step ?_ (by assumption)) | go_size))⟩
theorem refIsName_any (s : ByteArray) (w : World) (hs : s.size ≤ 9223372036854775807) : Calls Try.prog 50 #[.string s] w fun e w' => e = .returned (.bool (nameB s)) ∧ Below w.heap.size w w' := by
  by_cases h0 : s.size = 0 ∨ 20 < s.size
  · refine (refIsName_out s w hs h0).mono fun e w' ⟨he, hw⟩ => ⟨he.trans (ret_bool ?_), hw⟩
    unfold nameB
    rw [show decide (0 < s.size ∧ s.size ≤ 20) = false by rw [decide_eq_false_iff_not]; omega]
    rfl
  · have hp : 0 < s.size := by omega
    have hl : s.size ≤ 20 := by omega
    by_cases h2 : 97 ≤ (s[0]'hp).toNat ∧ (s[0]'hp).toNat ≤ 122
    · rcases good_or s with h | ⟨j, hj, h3, h4⟩
      · refine (refIsName_some s w hp hl h2 s.size (Nat.le_refl _) (fun i hi => h i hi) (fun hh => absurd hh (Nat.lt_irrefl _))).mono fun e w' ⟨he, hw⟩ => ⟨he.trans (ret_bool ?_), hw⟩
        rw [name_good h]
        simp [hp, hl]
      · refine (refIsName_some s w hp hl h2 j (by omega) h4 (fun _ => h3)).mono fun e w' ⟨he, hw⟩ => ⟨he.trans (ret_bool ?_), hw⟩
        rw [name_bad hj h3]
        have : ¬ j = s.size := by omega
        simp [this]
    · refine (refIsName_head s w hp hl (by omega)).mono fun e w' ⟨he, hw⟩ => ⟨he.trans (ret_bool ?_), hw⟩
      have : goodC 0 (s[0]'hp) = false := by
        rw [Bool.eq_false_iff]
        intro h
        rcases goodC_iff.1 h with h | ⟨h, _⟩
        · exact h2 h
        · exact h rfl
      rw [name_bad hp this]
end Go.Proofs.Ytdgeinipdphoeaa
/- Schemas: the program's 'areNames'. -/
namespace Go.Proofs.Ytdgeinipdphoeaa
set_option linter.unusedVariables false
set_option linter.unusedSimpArgs false
open Go.ChangeShapes Go.WideShapes Go.ChangeAt Go.RowKit
open Go.Maps (Keyed)

/-- A slice value of strings in memory. -/
def StrsAt (w : World) (v : Value) (ss : List ByteArray) : Prop :=
  ∃ ao cap, v = .slice ao ss.length cap ∧ (0 < ss.length → ∃ b off, ao = some ⟨b, off, none⟩ ∧ ∀ j, j < ss.length → w.cell? ⟨b, off + j, none⟩ = some (.string (ss[j]?.getD { data := #[] })))
abbrev strAt (ss : List ByteArray) (j : Nat) : ByteArray := ss[j]?.getD { data := #[] }
/-- The names so far. -/
def seenD (l : List ByteArray) : DataW Unit := l.foldl (fun D s => D.put (.string s.data.toList) (.lit (.bool true))) (.map [])
theorem seenD_snoc (l : List ByteArray) (s : ByteArray) : seenD (l ++ [s]) = (seenD l).put (.string s.data.toList) (.lit (.bool true)) := by simp [seenD]
theorem fold_isMap : ∀ (l : List ByteArray) (D : DataW Unit), Maps.IsMap D → Maps.IsMap (l.foldl (fun D s => D.put (.string s.data.toList) (.lit (.bool true))) D)
  | [], _, h => h
  | s :: l, D, h => fold_isMap l _ (h.put _ _)
theorem seenD_at (t : ByteArray) : ∀ (l : List ByteArray) (D : DataW Unit) (c : Bool), Maps.IsMap D → D.atKey (.string t.data.toList) (.lit (.bool false)) = .lit (.bool c) →
    (l.foldl (fun D s => D.put (.string s.data.toList) (.lit (.bool true))) D).atKey (.string t.data.toList) (.lit (.bool false)) = .lit (.bool (c || l.any fun s => s.data.toList == t.data.toList))
  | [], D, c, h, e => by simpa using e
  | s :: l, D, c, h, e => by
    rw [List.foldl_cons, List.any_cons]
    by_cases hs : s.data.toList = t.data.toList
    · rw [seenD_at t l _ true (h.put _ _) (by rw [hs]; exact Maps.atKey_put_same h (by trivial) _ _)]
      simp [hs]
    · rw [seenD_at t l _ c (h.put _ _) (by rw [Maps.atKey_put_other (fun e => hs (by simpa using e.symm))]; exact e)]
      have : (s.data.toList == t.data.toList) = false := by simpa using hs
      simp [this]
def seenB (l : List ByteArray) (t : ByteArray) : Bool := l.any fun s => s.data.toList == t.data.toList
theorem seen_is (l : List ByteArray) (t : ByteArray) : (seenD l).atKey (.string t.data.toList) (.lit (.bool false)) = .lit (.bool (seenB l t)) := by
  have := seenD_at t l (.map []) false Maps.isMap_empty rfl
  rw [Bool.false_or] at this
  exact this
/-- Is the j-th one right: a name, that has not been? -/
def okAt (ss : List ByteArray) (j : Nat) : Bool := !seenB (ss.take j) (strAt ss j) && nameB (strAt ss j)
def namesB (ss : List ByteArray) : Bool := (List.range ss.length).all (okAt ss)
theorem names_first (ss : List ByteArray) : (namesB ss = true ∧ ∀ i, i < ss.length → okAt ss i = true) ∨ (namesB ss = false ∧ ∃ j, j < ss.length ∧ okAt ss j = false ∧ ∀ i, i < j → okAt ss i = true) := by
  cases h : namesB ss with
  | true =>
    refine .inl ⟨rfl, fun i hi => ?_⟩
    unfold namesB at h
    rw [List.all_eq_true] at h
    exact h i (List.mem_range.2 hi)
  | false =>
    refine .inr ⟨rfl, ?_⟩
    have hx : ∃ j, j < ss.length ∧ okAt ss j = false := by
      unfold namesB at h
      rw [List.all_eq_false] at h
      obtain ⟨j, hj, hn⟩ := h
      exact ⟨j, List.mem_range.1 hj, by simpa using hn⟩
    obtain ⟨j, hj, hn⟩ := hx
    induction j using Nat.strongRecOn with
    | _ j ih =>
      by_cases hlow : ∃ i, i < j ∧ okAt ss i = false
      · obtain ⟨i, hi, hni⟩ := hlow
        exact ih i hi (by omega) hni
      · exact ⟨j, hj, hn, fun i hi => by
          cases ho : okAt ss i with
          | true => rfl
          | false => exact absurd ⟨i, hi, ho⟩ hlow⟩

theorem zeroB (w : World) : (zeroValue 4).run Try.prog w = .ok (.bool false) w := by kernel_rfl

set_option maxHeartbeats 1000000 in
/-- The walk up to the j-th one, which is the end, or the first wrong one. -/
theorem areNames_to (v : Value) (ss : List ByteArray) (w : World) (hv : StrsAt w v ss) (hl : ss.length ≤ 1000000) (hs : ∀ s ∈ ss, s.size ≤ 9223372036854775807) (j : Nat) (hj : j ≤ ss.length) (hpre : ∀ i, i < j → okAt ss i = true) (hat : j < ss.length → okAt ss j = false) :
    Calls Try.prog 48 #[v] w fun e w' => e = .returned (.bool (decide (j = ss.length))) ∧ Below w.heap.size w w' := by
  obtain ⟨ao, cap, rfl, hA⟩ := hv
  have HA := hid hA; have HPRE := hid hpre; have HAT := hid hat
  have HZ := hid (fun k (hk : k < ss.length) => hs (strAt ss k) (by unfold strAt; rw [List.getElem?_eq_getElem hk]; exact List.getElem_mem _))
  have HTK := hid (fun k (hk : k < ss.length) => (show ss.take (k + 1) = ss.take k ++ [strAt ss k] by rw [List.take_succ_eq_append_getElem hk]; unfold strAt; rw [List.getElem?_eq_getElem hk]; rfl))
  obtain ⟨M, hM⟩ : ∃ M, ss.length = M := ⟨_, rfl⟩
  have HM := hid hM
  rw [hM] at hl hj HA HAT HZ HTK ⊢
  clear hA hpre hat hs hM
  go_enter Try.func48, Try.ntmps48
  have hmake : ∀ X, (Instr.makeMap 114 none).run Try.prog X = .ok (.map (some X.heap.size)) (X.alloc (.map #[] 0)) := fun X => by first | exact run_makeMap X _ _ _ Try.underlying114 | exact run_makeMap _ _ | rfl
  go_wp2
  go_loopw [9] (fun i wr => ∃ k : Nat, k ≤ j ∧ i = .int .i64 k ∧ wr.ownsMap Try.prog 9 (plainElem (H := Unit) Try.prog 4) w.heap.size k (seenD (ss.take k)) ∧ Below w.heap.size w wr) (fun i _ => M - (intOf i).toNat)
  case atStart => exact ⟨0, Nat.zero_le _, rfl, World.ownsMap_made w _ _ _, by (repeat' (first | (with_reducible exact Below.refl _ _) | (with_reducible assumption) | (with_reducible refine Below.new ?_ _) | (with_reducible refine Below.alloc ?_ ?_ _) | (with_reducible refine Below.drew ?_) | (with_reducible refine Below.drewN ?_ _) | (with_reducible refine Below.setCell ?_ ?_ _) | (refine Below.step ?_ (by assumption)) | go_size))⟩
  case round =>
    obtain ⟨k, hk, rfl, hmap, hbel⟩ := hrel
    have hz := hbel.size
    by_cases hkM : k < M
    · obtain ⟨b, o, rfl, hc⟩ := HA.out (by omega)
      have e0 := cell_step (hc k hkM) hbel
      have hsz := HZ.out k hkM
      have htk := HTK.out k hkM
      obtain ⟨s, hse⟩ : ∃ s, strAt ss k = s := ⟨_, rfl⟩
      have hse' : ss[k]?.getD { data := #[] } = s := hse
      rw [hse] at hsz htk
      rw [hse'] at e0
      have hkey : keyOf Try.prog 9 (.string s) = some (.string s.data.toList) := WideMaps.keyOf_string_mk Try.underlying9 (by unfold maxLen; omega)
      have hsn := seen_is (ss.take k) s
      have hokk : okAt ss k = (!seenB (ss.take k) s && nameB s) := by unfold okAt; rw [hse]
      have hml := hmap.lt
      have HTK1 := hid htk; have HSN := hid hsn; have HOK := hid hokk; have HKEY := hid hkey; have HMAP := hid hmap
      have HN := hid (fun W => isName_any s W hsz)
      clear hc hse hse' htk hsn hokk hkey
      by_cases hkj : k < j
      · have h1 := HPRE.out k hkj
        rw [HOK.out] at h1
        simp only [Bool.and_eq_true, Bool.not_eq_true'] at h1
        obtain ⟨hs1, hn1⟩ := h1
        rw [hn1] at HN
        have HS1 := hid hs1
        clear hs1 hn1
        go_wp2_with (first
          | (at_lookup; go_loud (refine wpList_lookup_own_bool _ rfl _ _ 114 rfl 9 4 (Maps.string_keyed Try.underlying9) Try.underlying114 Try.underlying4 (zeroB _) w.heap.size k (seenD (ss.take k)) rfl HMAP.out _ (.string s.data.toList) rfl HKEY.out ?_; intro c hc; rw [HSN.out, HS1.out] at hc; simp only [DataW.lit.injEq, Lit.bool.injEq] at hc; subst hc))
          | (go_at_call 81; ((with_reducible refine (HN.out _).mono ?_); rintro e w2 ⟨rfl, hb2⟩; have hmap2 := hid (HMAP.out.kept (row := none) ⟨hb2.os, hb2.tape, hb2.output, hb2.size, fun i hi _ => hb2.block i hi⟩ (by simp)); have hz2 := hb2.size))
          | (at_mapUpdate; go_loud (refine wpList_mapUpdate_own _ rfl _ _ _ 114 rfl 9 4 (Maps.string_keyed Try.underlying9) Try.underlying114 _ w.heap.size k (seenD (ss.take k)) rfl hmap2.out (by unfold maxLen; omega) _ _ (.string s.data.toList) rfl rfl HKEY.out (.lit (.bool true)) [] (plainElem_bool Try.underlying4 true) ?_); intro w3 hown3 hg3))
        go_roundw
        case rel => exact ⟨k + 1, by omega, by go_num, by rw [HTK1.out, seenD_snoc]; exact hown3, (hbel.step hb2).grown hg3 (by omega) (fun r e => by cases e; exact Nat.le_refl _)⟩
        case measure => simp [intOf]; omega
      · obtain rfl : k = j := by omega
        have h1 := HAT.out hkM
        rw [HOK.out] at h1
        have hdec : decide (k = M) = false := by simp; omega
        cases hsb : seenB (ss.take k) s with
        | true =>
          have HS1 := hid hsb
          clear hsb h1
          go_wp2_with (first
          | (at_lookup; go_loud (refine wpList_lookup_own_bool _ rfl _ _ 114 rfl 9 4 (Maps.string_keyed Try.underlying9) Try.underlying114 Try.underlying4 (zeroB _) w.heap.size k (seenD (ss.take k)) rfl HMAP.out _ (.string s.data.toList) rfl HKEY.out ?_; intro c hc; rw [HSN.out, HS1.out] at hc; simp only [DataW.lit.injEq, Lit.bool.injEq] at hc; subst hc))
          | (go_at_call 81; ((with_reducible refine (HN.out _).mono ?_); rintro e w2 ⟨rfl, hb2⟩)))
          go_ret
          exact ⟨ret_bool (by simp [hdec]), by (repeat' (first | (with_reducible exact Below.refl _ _) | (with_reducible assumption) | (with_reducible refine Below.new ?_ _) | (with_reducible refine Below.alloc ?_ ?_ _) | (with_reducible refine Below.drew ?_) | (with_reducible refine Below.drewN ?_ _) | (with_reducible refine Below.setCell ?_ ?_ _) | (refine Below.step ?_ (by assumption)) | go_size))⟩
        | false =>
          have hn1 : nameB s = false := by rw [hsb] at h1; simpa using h1
          rw [hn1] at HN
          have HS1 := hid hsb
          clear hsb h1 hn1
          go_wp2_with (first
          | (at_lookup; go_loud (refine wpList_lookup_own_bool _ rfl _ _ 114 rfl 9 4 (Maps.string_keyed Try.underlying9) Try.underlying114 Try.underlying4 (zeroB _) w.heap.size k (seenD (ss.take k)) rfl HMAP.out _ (.string s.data.toList) rfl HKEY.out ?_; intro c hc; rw [HSN.out, HS1.out] at hc; simp only [DataW.lit.injEq, Lit.bool.injEq] at hc; subst hc))
          | (go_at_call 81; ((with_reducible refine (HN.out _).mono ?_); rintro e w2 ⟨rfl, hb2⟩)))
          go_ret
          exact ⟨ret_bool (by simp [hdec]), by (repeat' (first | (with_reducible exact Below.refl _ _) | (with_reducible assumption) | (with_reducible refine Below.new ?_ _) | (with_reducible refine Below.alloc ?_ ?_ _) | (with_reducible refine Below.drew ?_) | (with_reducible refine Below.drewN ?_ _) | (with_reducible refine Below.setCell ?_ ?_ _) | (refine Below.step ?_ (by assumption)) | go_size))⟩
    · obtain rfl : k = M := by omega
      obtain rfl : k = j := by omega
      have hdec : decide (k = k) = true := by simp
      have HMAP := hid hmap
      clear hmap
      go_wp2
      go_ret
      exact ⟨ret_bool (by simp), by (repeat' (first | (with_reducible exact Below.refl _ _) | (with_reducible assumption) | (with_reducible refine Below.new ?_ _) | (with_reducible refine Below.alloc ?_ ?_ _) | (with_reducible refine Below.drew ?_) | (with_reducible refine Below.drewN ?_ _) | (with_reducible refine Below.setCell ?_ ?_ _) | (refine Below.step ?_ (by assumption)) | go_size))⟩
theorem areNames_any (v : Value) (ss : List ByteArray) (w : World) (hv : StrsAt w v ss) (hl : ss.length ≤ 1000000) (hs : ∀ s ∈ ss, s.size ≤ 9223372036854775807) :
    Calls Try.prog 48 #[v] w fun e w' => e = .returned (.bool (namesB ss)) ∧ Below w.heap.size w w' := by
  rcases names_first ss with ⟨h1, h2⟩ | ⟨h1, j, hj, h2, h3⟩
  · have := areNames_to v ss w hv hl hs ss.length (Nat.le_refl _) h2 (fun h => absurd h (Nat.lt_irrefl _))
    rw [h1]
    simpa using this
  · have := areNames_to v ss w hv hl hs j (by omega) h3 (fun _ => h2)
    rw [h1]
    have hd : decide (j = ss.length) = false := by simp; omega
    rw [hd] at this
    exact this
end Go.Proofs.Ytdgeinipdphoeaa
/- Schemas: small functions: 'within', and which values are right, the program's and the reference's. -/
namespace Go.Proofs.Ytdgeinipdphoeaa
set_option linter.unusedVariables false
set_option linter.unusedSimpArgs false
open Go.ChangeShapes Go.WideShapes Go.ChangeAt Go.RowKit

theorem within_any (n a b : Int) (w : World) : Calls Try.prog 47 #[.int .i64 n, .int .i64 a, .int .i64 b] w fun e w' => e = .returned (.bool (decide (a ≤ n ∧ n ≤ b))) ∧ w = w' := by
  by_cases h1 : a ≤ n
  · by_cases h2 : n ≤ b
    · go_enter Try.func47, Try.ntmps47
      go_wp2
      go_ret
      exact ⟨ret_bool (by simp [h1, h2]), rfl⟩
    · go_enter Try.func47, Try.ntmps47
      go_wp2
      go_ret
      exact ⟨ret_bool (by simp [h1, h2]), rfl⟩
  · go_enter Try.func47, Try.ntmps47
    go_wp2
    go_ret
    exact ⟨ret_bool (by simp; intro h; omega), rfl⟩
/-- Is a value right? -/
def valB (s : ByteArray) (nl : Bool) : Bool := decide (s.size ≤ 100) && (!nl || decide (s.size = 0))
theorem refValue_any (s : ByteArray) (hs : s.size ≤ 9223372036854775807) (nl : Bool) (w : World) : Calls Try.prog 54 #[.agg #[.string s, .bool nl]] w fun e w' => e = .returned (.bool (valB s nl)) ∧ Below w.heap.size w w' := by
  have he : s.toList.isEmpty = decide (s.size = 0) := by
    rw [ByteArray.toList_eq]
    cases h : s.data.toList with
    | nil => have : s.size = 0 := by (show s.data.size = 0); rw [← Array.length_toList, h]; rfl
             simp [this]
    | cons a l => have : s.size = l.length + 1 := by (show s.data.size = _); rw [← Array.length_toList, h]; rfl
                  simp [this]
  by_cases h1 : s.size ≤ 100
  · cases nl with
    | false =>
      go_enter Try.func54, Try.ntmps54
      go_wp2
      go_ret
      exact ⟨ret_bool (by simp [valB, h1]), by (repeat' (first | (with_reducible exact Below.refl _ _) | (with_reducible assumption) | (with_reducible refine Below.new ?_ _) | (with_reducible refine Below.alloc ?_ ?_ _) | (with_reducible refine Below.drew ?_) | (with_reducible refine Below.drewN ?_ _) | (with_reducible refine Below.setCell ?_ ?_ _) | (refine Below.step ?_ (by assumption)) | go_size))⟩
    | true =>
      by_cases h2 : s.size = 0
      · have he2 : s.toList.isEmpty = true := by simp [he, h2]
        clear he
        go_enter Try.func54, Try.ntmps54
        go_wp2
        go_ret
        exact ⟨ret_bool (by simp [valB, h2]), by (repeat' (first | (with_reducible exact Below.refl _ _) | (with_reducible assumption) | (with_reducible refine Below.new ?_ _) | (with_reducible refine Below.alloc ?_ ?_ _) | (with_reducible refine Below.drew ?_) | (with_reducible refine Below.drewN ?_ _) | (with_reducible refine Below.setCell ?_ ?_ _) | (refine Below.step ?_ (by assumption)) | go_size))⟩
      · have he2 : s.toList.isEmpty = false := by simp [he, h2]
        clear he
        go_enter Try.func54, Try.ntmps54
        go_wp2
        go_ret
        exact ⟨ret_bool (by simp [valB, h2]), by (repeat' (first | (with_reducible exact Below.refl _ _) | (with_reducible assumption) | (with_reducible refine Below.new ?_ _) | (with_reducible refine Below.alloc ?_ ?_ _) | (with_reducible refine Below.drew ?_) | (with_reducible refine Below.drewN ?_ _) | (with_reducible refine Below.setCell ?_ ?_ _) | (refine Below.step ?_ (by assumption)) | go_size))⟩
  · go_enter Try.func54, Try.ntmps54
    go_wp2
    go_ret
    exact ⟨ret_bool (by simp [valB, h1]), by (repeat' (first | (with_reducible exact Below.refl _ _) | (with_reducible assumption) | (with_reducible refine Below.new ?_ _) | (with_reducible refine Below.alloc ?_ ?_ _) | (with_reducible refine Below.drew ?_) | (with_reducible refine Below.drewN ?_ _) | (with_reducible refine Below.setCell ?_ ?_ _) | (refine Below.step ?_ (by assumption)) | go_size))⟩
theorem isValue_any (s : ByteArray) (hs : s.size ≤ 9223372036854775807) (nl : Bool) (w : World) : Calls Try.prog 52 #[.agg #[.string s, .bool nl]] w fun e w' => e = .returned (.bool (valB s nl)) ∧ Below w.heap.size w w' := by
  have he : s.toList.isEmpty = decide (s.size = 0) := by
    rw [ByteArray.toList_eq]
    cases h : s.data.toList with
    | nil => have : s.size = 0 := by (show s.data.size = 0); rw [← Array.length_toList, h]; rfl
             simp [this]
    | cons a l => have : s.size = l.length + 1 := by (show s.data.size = _); rw [← Array.length_toList, h]; rfl
                  simp [this]
  cases nl with
  | false =>
    by_cases h1 : s.size ≤ 100
    · go_enter Try.func52, Try.ntmps52
      go_wp2
      all_goals (go_ret; exact ⟨ret_bool (by simp [valB, h1]; try omega), by (repeat' (first | (with_reducible exact Below.refl _ _) | (with_reducible assumption) | (with_reducible refine Below.new ?_ _) | (with_reducible refine Below.alloc ?_ ?_ _) | (with_reducible refine Below.drew ?_) | (with_reducible refine Below.drewN ?_ _) | (with_reducible refine Below.setCell ?_ ?_ _) | (refine Below.step ?_ (by assumption)) | go_size))⟩)
    · go_enter Try.func52, Try.ntmps52
      go_wp2
      all_goals (go_ret; exact ⟨ret_bool (by simp [valB, h1]; try omega), by (repeat' (first | (with_reducible exact Below.refl _ _) | (with_reducible assumption) | (with_reducible refine Below.new ?_ _) | (with_reducible refine Below.alloc ?_ ?_ _) | (with_reducible refine Below.drew ?_) | (with_reducible refine Below.drewN ?_ _) | (with_reducible refine Below.setCell ?_ ?_ _) | (refine Below.step ?_ (by assumption)) | go_size))⟩)
  | true =>
    by_cases h2 : s.size = 0
    · have he2 : s.toList.isEmpty = true := by simp [he, h2]
      clear he
      go_enter Try.func52, Try.ntmps52
      go_wp2
      all_goals (go_ret; exact ⟨ret_bool (by simp [valB, h2]), by (repeat' (first | (with_reducible exact Below.refl _ _) | (with_reducible assumption) | (with_reducible refine Below.new ?_ _) | (with_reducible refine Below.alloc ?_ ?_ _) | (with_reducible refine Below.drew ?_) | (with_reducible refine Below.drewN ?_ _) | (with_reducible refine Below.setCell ?_ ?_ _) | (refine Below.step ?_ (by assumption)) | go_size))⟩)
    · have he2 : s.toList.isEmpty = false := by simp [he, h2]
      clear he
      go_enter Try.func52, Try.ntmps52
      go_wp2
      all_goals (go_ret; exact ⟨ret_bool (by simp [valB, h2]), by (repeat' (first | (with_reducible exact Below.refl _ _) | (with_reducible assumption) | (with_reducible refine Below.new ?_ _) | (with_reducible refine Below.alloc ?_ ?_ _) | (with_reducible refine Below.drew ?_) | (with_reducible refine Below.drewN ?_ _) | (with_reducible refine Below.setCell ?_ ?_ _) | (refine Below.step ?_ (by assumption)) | go_size))⟩)
end Go.Proofs.Ytdgeinipdphoeaa
/- Schemas: the library's slices.Grow at a nil slice. -/
namespace Go.Proofs.Ytdgeinipdphoeaa
set_option linter.unusedVariables false
set_option linter.unusedSimpArgs false
set_option maxRecDepth 100000
open Go.ChangeShapes Go.WideShapes Go.ChangeAt Go.RowKit

theorem info_string : (Try.prog.info? 9).map (fun i => (i.zero, i.size, i.bytes)) = some (some (.string { data := #[] }), 1, 16) := by kernel_rfl
theorem grow_zero (w : World) : Calls Try.prog 82 #[.slice none 0 0, .int .i64 0] w fun e w' => e = .returned (.slice none 0 0) ∧ w = w' := by
  go_enter Try.func82, Try.ntmps82
  go_wp2
  go_ret
  exact ⟨rfl, rfl⟩
theorem grow_some (n : Nat) (hn : 0 < n) (hb : n ≤ 1000000) (w : World) : Calls Try.prog 82 #[.slice none 0 0, .int .i64 (n : Int)] w fun e w' => ∃ v, e = .returned v ∧ w'.ownsRow w.heap.size 9 1 v 0 [] ∧ Below w.heap.size w w' := by
  obtain ⟨i0, hi, hiz0, hiz1, hiz2⟩ := info_parts info_string
  have hw : wrap64 ((n : Int) - 0) = (n : Int) := by unfold wrap64; omega
  go_enter Try.func82, Try.ntmps82
  go_wp2_with (at_builtin; go_loud (refine Lib.wpList_append_run _ rfl _ _ _ _ rfl _ _ rfl rfl _ _ (Lib.run_append_nil_zeros _ 22 3 22 9 i0 (.string { data := #[] }) .i64 .i64 Try.underlying22 Try.underlying3 hi hiz0 n hn (by omega) (by omega) (by rw [hiz2]; omega)) ?_))
  go_ret
  have hcap := grownCap_ge w n 0 9
  refine ⟨_, rfl, ⟨rfl, .inr ⟨w.heap.size, grownCap w n 0 9, _, rfl, Nat.le_refl _, (show (w.alloc _).heap[w.heap.size]? = _ from heap_at rfl), Nat.zero_le _, grownCap_le_maxLen w n 0 _ (by unfold maxLen; omega), ?_, by simp⟩⟩, by (repeat' (first | (with_reducible exact Below.refl _ _) | (with_reducible assumption) | (with_reducible refine Below.new ?_ _) | (with_reducible refine Below.alloc ?_ ?_ _) | (with_reducible refine Below.drew ?_) | (with_reducible refine Below.drewN ?_ _) | (with_reducible refine Below.setCell ?_ ?_ _) | (refine Below.step ?_ (by assumption)) | go_size))⟩
  rw [Array.size_append, size_zeroCells, size_zeroCells]
  simp [Value.cells]
  omega
theorem grow_any (n : Nat) (hb : n ≤ 1000000) (w : World) : Calls Try.prog 82 #[.slice none 0 0, .int .i64 (n : Int)] w fun e w' => ∃ v, e = .returned v ∧ w'.ownsRow w.heap.size 9 1 v 0 [] ∧ Below w.heap.size w w' := by
  by_cases h : n = 0
  · subst h
    exact (grow_zero w).mono fun e w' ⟨h1, h2⟩ => ⟨_, h1, World.ownsRow_nil _ _ _ _, h2 ▸ Below.refl _ _⟩
  · exact grow_some n (by omega) hb w
end Go.Proofs.Ytdgeinipdphoeaa
/- Schemas: the library's slices.Concat of two slices of strings. -/
namespace Go.Proofs.Ytdgeinipdphoeaa
set_option linter.unusedVariables false
set_option linter.unusedSimpArgs false
set_option maxRecDepth 100000
open Go.ChangeShapes Go.WideShapes Go.ChangeAt Go.RowKit

set_option maxHeartbeats 2000000 in
theorem concat_ss (a1 a2 : Addr) (c1 c2 : Nat) (s1 s2 : List ByteArray) (b : Nat) (w : World) (h1 : ∀ j u, (strsV s1)[j]? = some u → w.cell? (a1.add j) = some u) (h2 : ∀ j u, (strsV s2)[j]? = some u → w.cell? (a2.add j) = some u)
    (l1 : s1.length ≤ 1000) (l2 : s2.length ≤ 1000) (e1 : w.cell? ⟨b, 0, none⟩ = some (.slice (some a1) s1.length c1)) (e2 : w.cell? ⟨b, 1, none⟩ = some (.slice (some a2) s2.length c2)) :
    Calls Try.prog 49 #[.slice (some ⟨b, 0, none⟩) 2 2] w fun e w' => ∃ v, e = .returned v ∧ w'.ownsRow w.heap.size 9 1 v (s1.length + s2.length) (strsV s1 ++ strsV s2) ∧ Below w.heap.size w w' := by
  obtain ⟨i0, hi, hiz0, hiz1, hiz2⟩ := info_parts info_string
  have HG := hid (fun w => grow_any (s1.length + s2.length) (by omega) w)
  have H1 := hid h1; have H2 := hid h2
  clear h1 h2
  obtain ⟨n1, hn1⟩ : ∃ n1, s1.length = n1 := ⟨_, rfl⟩
  obtain ⟨n2, hn2⟩ : ∃ n2, s2.length = n2 := ⟨_, rfl⟩
  have HN1 := hid hn1; have HN2 := hid hn2
  rw [hn1] at HG l1 e1 ⊢
  rw [hn2] at HG l2 e2 ⊢
  clear hn1 hn2
  obtain ⟨N, hN⟩ : ∃ N, n1 + n2 = N := ⟨_, rfl⟩
  rw [hN] at HG ⊢
  have hsum : ((n1 : Int) + (n2 : Int)) = (N : Int) := by omega
  go_enter Try.func49, Try.ntmps49
  go_wp2
  refine wp_loop_rounds 3 ?_
  rw [rounds_succ]
  go_wp2
  rw [rounds_succ]
  go_wp2
  rw [rounds_succ]
  go_wp2_with (go_at_call 82; go_loud ((with_reducible refine (HG.out _).mono ?_); rintro e w1 ⟨v, rfl, hown, hb1⟩; have d1 := cell_step e1 hb1; have d2 := cell_step e2 hb1; have hz1 := hb1.size))
  refine wp_loop_rounds 3 ?_
  rw [rounds_succ]
  go_wp2_with (at_builtin; go_loud (refine wpList_append_own _ rfl _ _ 22 rfl w.heap.size 9 i0 (.string { data := #[] }) 1 16 Try.underlying22 hi hiz0 hiz1 hiz2 rfl (by decide) _ _ _ rfl hown a1 n1 c1 (strsV s1) rfl (by simp [HN1.out]) (fun j u h => cell_step (H1.out j u h) hb1) (strs_one _) (by unfold maxLen; omega) (by omega) (by omega) ?_); intro v2 w2 hown2 hgr2 hnil2)
  have hB2 : Below w.heap.size w w2 := hb1.grown hgr2 (by omega) (fun r e => (hown.lt r e).1)
  have f2 := cell_step e2 hB2
  have hz2 := hB2.size
  rw [rounds_succ]
  go_wp2_with (at_builtin; go_loud (refine wpList_append_own _ rfl _ _ 22 rfl w.heap.size 9 i0 (.string { data := #[] }) 1 16 Try.underlying22 hi hiz0 hiz1 hiz2 rfl (by decide) _ _ _ rfl hown2 a2 n2 c2 (strsV s2) rfl (by simp [HN2.out]) (fun j u h => cell_step (H2.out j u h) hB2) (strs_one _) (by unfold maxLen; omega) (by omega) (by omega) ?_); intro v3 w3 hown3 hgr3 hnil3)
  have hB3 : Below w.heap.size w w3 := hB2.grown hgr3 (by omega) (fun r e => (hown2.lt r e).1)
  rw [rounds_succ]
  go_wp2
  go_ret
  exact ⟨v3, rfl, by rw [← hN]; simpa using hown3, hB3⟩
set_option maxHeartbeats 2000000 in
theorem concat_ns (a2 : Addr) (c2 : Nat) (s2 : List ByteArray) (b : Nat) (w : World) (h2 : ∀ j u, (strsV s2)[j]? = some u → w.cell? (a2.add j) = some u)
    (l2 : s2.length ≤ 1000) (e1 : w.cell? ⟨b, 0, none⟩ = some (.slice none 0 0)) (e2 : w.cell? ⟨b, 1, none⟩ = some (.slice (some a2) s2.length c2)) :
    Calls Try.prog 49 #[.slice (some ⟨b, 0, none⟩) 2 2] w fun e w' => ∃ v, e = .returned v ∧ w'.ownsRow w.heap.size 9 1 v s2.length (strsV s2) ∧ Below w.heap.size w w' := by
  obtain ⟨i0, hi, hiz0, hiz1, hiz2⟩ := info_parts info_string
  have HG := hid (fun w => grow_any s2.length (by omega) w)
  have H2 := hid h2
  clear h2
  obtain ⟨n2, hn2⟩ : ∃ n2, s2.length = n2 := ⟨_, rfl⟩
  have HN2 := hid hn2
  rw [hn2] at HG l2 e2 ⊢
  clear hn2
  go_enter Try.func49, Try.ntmps49
  go_wp2
  refine wp_loop_rounds 3 ?_
  rw [rounds_succ]
  go_wp2
  rw [rounds_succ]
  go_wp2
  rw [rounds_succ]
  go_wp2_with (go_at_call 82; go_loud ((with_reducible refine (HG.out _).mono ?_); rintro e w1 ⟨v, rfl, hown, hb1⟩; have d1 := cell_step e1 hb1; have d2 := cell_step e2 hb1; have hz1 := hb1.size))
  refine wp_loop_rounds 3 ?_
  rw [rounds_succ]
  go_wp2_with (at_builtin; go_loud (refine wpList_append_own_none rfl _ _ 22 rfl w.heap.size 9 i0 1 Try.underlying22 hi _ _ _ rfl hown rfl ?_))
  have hB2 := hb1
  have hown2 := hown
  have f2 := cell_step e2 hB2
  have hz2 := hB2.size
  rw [rounds_succ]
  go_wp2_with (at_builtin; go_loud (refine wpList_append_own _ rfl _ _ 22 rfl w.heap.size 9 i0 (.string { data := #[] }) 1 16 Try.underlying22 hi hiz0 hiz1 hiz2 rfl (by decide) _ _ _ rfl hown2 a2 n2 c2 (strsV s2) rfl (by simp [HN2.out]) (fun j u h => cell_step (H2.out j u h) hB2) (strs_one _) (by unfold maxLen; omega) (by omega) (by omega) ?_); intro v3 w3 hown3 hgr3 hnil3)
  have hB3 : Below w.heap.size w w3 := hB2.grown hgr3 (by omega) (fun r e => (hown2.lt r e).1)
  rw [rounds_succ]
  go_wp2
  go_ret
  exact ⟨v3, rfl, by simpa using hown3, hB3⟩
set_option maxHeartbeats 2000000 in
theorem concat_sn (a1 : Addr) (c1 : Nat) (s1 : List ByteArray) (b : Nat) (w : World) (h1 : ∀ j u, (strsV s1)[j]? = some u → w.cell? (a1.add j) = some u)
    (l1 : s1.length ≤ 1000) (e1 : w.cell? ⟨b, 0, none⟩ = some (.slice (some a1) s1.length c1)) (e2 : w.cell? ⟨b, 1, none⟩ = some (.slice none 0 0)) :
    Calls Try.prog 49 #[.slice (some ⟨b, 0, none⟩) 2 2] w fun e w' => ∃ v, e = .returned v ∧ w'.ownsRow w.heap.size 9 1 v s1.length (strsV s1) ∧ Below w.heap.size w w' := by
  obtain ⟨i0, hi, hiz0, hiz1, hiz2⟩ := info_parts info_string
  have HG := hid (fun w => grow_any s1.length (by omega) w)
  have H1 := hid h1
  clear h1
  obtain ⟨n1, hn1⟩ : ∃ n1, s1.length = n1 := ⟨_, rfl⟩
  have HN1 := hid hn1
  rw [hn1] at HG l1 e1 ⊢
  clear hn1
  go_enter Try.func49, Try.ntmps49
  go_wp2
  refine wp_loop_rounds 3 ?_
  rw [rounds_succ]
  go_wp2
  rw [rounds_succ]
  go_wp2
  rw [rounds_succ]
  go_wp2_with (go_at_call 82; go_loud ((with_reducible refine (HG.out _).mono ?_); rintro e w1 ⟨v, rfl, hown, hb1⟩; have d1 := cell_step e1 hb1; have d2 := cell_step e2 hb1; have hz1 := hb1.size))
  refine wp_loop_rounds 3 ?_
  rw [rounds_succ]
  go_wp2_with (at_builtin; go_loud (refine wpList_append_own _ rfl _ _ 22 rfl w.heap.size 9 i0 (.string { data := #[] }) 1 16 Try.underlying22 hi hiz0 hiz1 hiz2 rfl (by decide) _ _ _ rfl hown a1 n1 c1 (strsV s1) rfl (by simp [HN1.out]) (fun j u h => cell_step (H1.out j u h) hb1) (strs_one _) (by unfold maxLen; omega) (by omega) (by omega) ?_); intro v2 w2 hown2 hgr2 hnil2)
  have hB2 : Below w.heap.size w w2 := hb1.grown hgr2 (by omega) (fun r e => (hown.lt r e).1)
  have f2 := cell_step e2 hB2
  have hz2 := hB2.size
  rw [rounds_succ]
  go_wp2_with (at_builtin; go_loud (refine wpList_append_own_none rfl _ _ 22 rfl w.heap.size 9 i0 1 Try.underlying22 hi _ _ _ rfl hown2 rfl ?_))
  rw [rounds_succ]
  go_wp2
  go_ret
  exact ⟨v2, rfl, by simpa using hown2, hB2⟩

set_option maxHeartbeats 2000000 in
theorem concat_nn (b : Nat) (w : World) (e1 : w.cell? ⟨b, 0, none⟩ = some (.slice none 0 0)) (e2 : w.cell? ⟨b, 1, none⟩ = some (.slice none 0 0)) :
    Calls Try.prog 49 #[.slice (some ⟨b, 0, none⟩) 2 2] w fun e w' => ∃ v, e = .returned v ∧ w'.ownsRow w.heap.size 9 1 v 0 [] ∧ Below w.heap.size w w' := by
  have HG : Hid (∀ w, Calls Try.prog 82 #[.slice none 0 0, .int .i64 0] w fun e w' => e = .returned (.slice none 0 0) ∧ w = w') := fun w => grow_zero w
  go_enter Try.func49, Try.ntmps49
  go_wp2
  refine wp_loop_rounds 3 ?_
  rw [rounds_succ]
  go_wp2
  rw [rounds_succ]
  go_wp2
  rw [rounds_succ]
  go_wp2_with (go_at_call 82; go_loud ((with_reducible refine (HG.out _).mono ?_); rintro e w1 ⟨rfl, rfl⟩))
  refine wp_loop_rounds 3 ?_
  rw [rounds_succ]
  go_wp2
  rw [rounds_succ]
  go_wp2
  rw [rounds_succ]
  go_wp2
  go_ret
  exact ⟨_, rfl, World.ownsRow_nil _ _ _ _, by (repeat' (first | (with_reducible exact Below.refl _ _) | (with_reducible assumption) | (with_reducible refine Below.new ?_ _) | (with_reducible refine Below.alloc ?_ ?_ _) | (with_reducible refine Below.drew ?_) | (with_reducible refine Below.drewN ?_ _) | (with_reducible refine Below.setCell ?_ ?_ _) | (refine Below.step ?_ (by assumption)) | go_size))⟩

end Go.Proofs.Ytdgeinipdphoeaa
/- Schemas: the program's 'Right'. -/
namespace Go.Proofs.Ytdgeinipdphoeaa
set_option linter.unusedVariables false
set_option linter.unusedSimpArgs false
set_option maxRecDepth 100000
open Go.ChangeShapes Go.WideShapes Go.ChangeAt Go.RowKit

theorem StrsSl.strs {w : World} {v : Value} {ss : List ByteArray} (h : StrsSl w v ss) : StrsAt w v ss := by
  obtain ⟨_, ao, cap, rfl, _, _, _, h⟩ := h
  refine ⟨ao, cap, rfl, fun hl => ?_⟩
  obtain ⟨b, off, rfl, hc⟩ := h (by simpa using hl)
  refine ⟨b, off, rfl, fun j hj => hc j _ ?_⟩
  rw [List.getElem?_map, List.getElem?_eq_getElem hj]; rfl
/-- Is a schema right? -/
def rightS (ds ms : List ByteArray) (g : Int) : Bool := decide (1 ≤ ds.length ∧ ds.length ≤ 6) && (decide (ms.length ≤ 4) && (decide (1 ≤ g ∧ g ≤ 1000000000) && namesB (ds ++ ms)))
/-- Texts that a machine can hold. -/
def Texts (ss : List ByteArray) : Prop := ss.length ≤ 1000 ∧ ∀ s ∈ ss, s.size ≤ 9223372036854775807
theorem Texts.app {a b : List ByteArray} (ha : Texts a) (hb : Texts b) : (∀ s ∈ a ++ b, s.size ≤ 9223372036854775807) ∧ (a ++ b).length ≤ 1000000 := by
  refine ⟨fun s hs => ?_, by have := ha.1; have := hb.1; simp; omega⟩
  rcases List.mem_append.1 hs with h | h
  · exact ha.2 s h
  · exact hb.2 s h

/-- Two lists joined, whichever is nil. -/
theorem concat_any (vd vm : Value) (ds ms : List ByteArray) (b : Nat) (w : World) (hd : StrsSl w vd ds) (hm : StrsSl w vm ms) (l1 : ds.length ≤ 1000) (l2 : ms.length ≤ 1000) (e1 : w.cell? ⟨b, 0, none⟩ = some vd) (e2 : w.cell? ⟨b, 1, none⟩ = some vm) :
    Calls Try.prog 49 #[.slice (some ⟨b, 0, none⟩) 2 2] w fun e w' => ∃ v, e = .returned v ∧ StrsSl w' v (ds ++ ms) ∧ Below w.heap.size w w' := by
  obtain ⟨ad, cd, rfl, _, _, nd⟩ := SlAt.shape hd
  obtain ⟨am, cm, rfl, _, _, nm⟩ := SlAt.shape hm
  cases ad with
  | none =>
    obtain rfl := nd rfl
    have h0 : ds.length = 0 := by have := (SlAt.parts hd).2.1; omega
    obtain rfl := List.length_eq_zero_iff.1 h0
    cases am with
    | none =>
      obtain rfl := nm rfl
      have h0 : ms.length = 0 := by have := (SlAt.parts hm).2.1; omega
      obtain rfl := List.length_eq_zero_iff.1 h0
      exact (concat_nn b w e1 e2).mono fun e w' ⟨v, h1, h2, h3⟩ => ⟨v, h1, StrsSl.own h2, h3⟩
    | some a2 =>
      obtain ⟨b2, o2, s2⟩ := a2
      exact (concat_ns _ cm ms b w (SlAt.src hm) l2 e1 e2).mono fun e w' ⟨v, h1, h2, h3⟩ => ⟨v, h1, StrsSl.own (n := ms.length) (by simpa using h2), h3⟩
  | some a1 =>
    obtain ⟨b1, o1, s1⟩ := a1
    cases am with
    | none =>
      obtain rfl := nm rfl
      have h0 : ms.length = 0 := by have := (SlAt.parts hm).2.1; omega
      obtain rfl := List.length_eq_zero_iff.1 h0
      exact (concat_sn _ cd ds b w (SlAt.src hd) l1 e1 e2).mono fun e w' ⟨v, h1, h2, h3⟩ => ⟨v, h1, StrsSl.own (n := ds.length) (by simpa using h2), h3⟩
    | some a2 =>
      obtain ⟨b2, o2, s2⟩ := a2
      exact (concat_ss _ _ cd cm ds ms b w (SlAt.src hd) (SlAt.src hm) l1 l2 e1 e2).mono fun e w' ⟨v, h1, h2, h3⟩ => ⟨v, h1, StrsSl.own (n := ds.length + ms.length) (by simpa using h2), h3⟩

set_option maxHeartbeats 1000000 in
theorem right_any (vd vm : Value) (ds ms : List ByteArray) (g : Int) (w : World) (hd : StrsSl w vd ds) (hm : StrsSl w vm ms) (td : Texts ds) (tm : Texts ms) :
    Calls Try.prog 21 #[.agg #[vd, vm, .int .i64 g]] w fun e w' => e = .returned (.bool (rightS ds ms g)) ∧ Below w.heap.size w w' := by
  obtain ⟨ta, tl⟩ := td.app tm
  obtain ⟨td, _⟩ := td
  obtain ⟨tm, _⟩ := tm
  have HD := hid hd; have HM := hid hm
  have HA := hid (fun v W (h : StrsSl W v (ds ++ ms)) => areNames_any v (ds ++ ms) W h.strs tl ta)
  obtain ⟨ad, cd, rfl, _, _, _⟩ := SlAt.shape hd
  obtain ⟨am, cm, rfl, _, _, _⟩ := SlAt.shape hm
  have HC := hid (fun b W (h1 : StrsSl W (.slice ad ds.length cd) ds) (h2 : StrsSl W (.slice am ms.length cm) ms) => concat_any _ _ ds ms b W h1 h2 td tm)
  clear hd hm ta tl
  by_cases h1 : 1 ≤ ds.length ∧ ds.length ≤ 6
  · have hw : decide ((1 : Int) ≤ (ds.length : Int) ∧ (ds.length : Int) ≤ 6) = true := by simp; omega
    have HW := hid (fun W => within_any (ds.length : Int) 1 6 W)
    rw [hw] at HW
    clear hw
    by_cases h2 : ms.length ≤ 4
    · by_cases h3 : 1 ≤ g
      · by_cases h4 : g ≤ 1000000000
        · have hr : rightS ds ms g = namesB (ds ++ ms) := by simp [rightS, h1, h2, h3, h4]
          rw [hr]
          clear hr
          generalize namesB (ds ++ ms) = NB at HA ⊢
          generalize ds.length = nd at HC HW HD td ⊢
          generalize ms.length = nm at HC HM tm h2 ⊢
          go_enter Try.func21, Try.ntmps21
          go_wp2_with (first
            | (go_at_call 47; ((with_reducible refine (HW.out _).mono ?_); rintro e w1 ⟨rfl, rfl⟩))
            | (go_at_call 49; go_loud ((with_reducible refine (HC.out _ _ (StrsSl.below HD.out (by (repeat' (first | (with_reducible exact Below.refl _ _) | (with_reducible assumption) | (with_reducible refine Below.new ?_ _) | (with_reducible refine Below.alloc ?_ ?_ _) | (with_reducible refine Below.drew ?_) | (with_reducible refine Below.drewN ?_ _) | (with_reducible refine Below.setCell ?_ ?_ _) | (refine Below.step ?_ (by assumption)) | go_size)))) (StrsSl.below HM.out (by (repeat' (first | (with_reducible exact Below.refl _ _) | (with_reducible assumption) | (with_reducible refine Below.new ?_ _) | (with_reducible refine Below.alloc ?_ ?_ _) | (with_reducible refine Below.drew ?_) | (with_reducible refine Below.drewN ?_ _) | (with_reducible refine Below.setCell ?_ ?_ _) | (refine Below.step ?_ (by assumption)) | go_size)))) (by go_simp) (by go_simp)).mono ?_); rintro e w2 ⟨v, rfl, hv, hb2⟩; have HV := hid hv; clear hv))
            | (go_at_call 48; ((with_reducible refine (HA.out _ _ HV.out).mono ?_); rintro e w3 ⟨rfl, hb3⟩)))
          go_ret
          exact ⟨rfl, by (repeat' (first | (with_reducible exact Below.refl _ _) | (with_reducible assumption) | (with_reducible refine Below.new ?_ _) | (with_reducible refine Below.alloc ?_ ?_ _) | (with_reducible refine Below.drew ?_) | (with_reducible refine Below.drewN ?_ _) | (with_reducible refine Below.setCell ?_ ?_ _) | (refine Below.step ?_ (by assumption)) | go_size))⟩
        · have hr : rightS ds ms g = false := by simp [rightS]; omega
          rw [hr]
          clear hr
          go_enter Try.func21, Try.ntmps21
          go_wp2_with (go_at_call 47; ((with_reducible refine (HW.out _).mono ?_); rintro e w1 ⟨rfl, rfl⟩))
          go_ret
          exact ⟨rfl, by (repeat' (first | (with_reducible exact Below.refl _ _) | (with_reducible assumption) | (with_reducible refine Below.new ?_ _) | (with_reducible refine Below.alloc ?_ ?_ _) | (with_reducible refine Below.drew ?_) | (with_reducible refine Below.drewN ?_ _) | (with_reducible refine Below.setCell ?_ ?_ _) | (refine Below.step ?_ (by assumption)) | go_size))⟩
      · have hr : rightS ds ms g = false := by simp [rightS]; omega
        rw [hr]
        clear hr
        go_enter Try.func21, Try.ntmps21
        go_wp2_with (go_at_call 47; ((with_reducible refine (HW.out _).mono ?_); rintro e w1 ⟨rfl, rfl⟩))
        go_ret
        exact ⟨rfl, by (repeat' (first | (with_reducible exact Below.refl _ _) | (with_reducible assumption) | (with_reducible refine Below.new ?_ _) | (with_reducible refine Below.alloc ?_ ?_ _) | (with_reducible refine Below.drew ?_) | (with_reducible refine Below.drewN ?_ _) | (with_reducible refine Below.setCell ?_ ?_ _) | (refine Below.step ?_ (by assumption)) | go_size))⟩
    · have hr : rightS ds ms g = false := by simp [rightS]; omega
      rw [hr]
      clear hr
      go_enter Try.func21, Try.ntmps21
      go_wp2_with (go_at_call 47; ((with_reducible refine (HW.out _).mono ?_); rintro e w1 ⟨rfl, rfl⟩))
      go_ret
      exact ⟨rfl, by (repeat' (first | (with_reducible exact Below.refl _ _) | (with_reducible assumption) | (with_reducible refine Below.new ?_ _) | (with_reducible refine Below.alloc ?_ ?_ _) | (with_reducible refine Below.drew ?_) | (with_reducible refine Below.drewN ?_ _) | (with_reducible refine Below.setCell ?_ ?_ _) | (refine Below.step ?_ (by assumption)) | go_size))⟩
  · have hr : rightS ds ms g = false := by simp [rightS]; omega
    rw [hr]
    clear hr
    have hw : decide ((1 : Int) ≤ (ds.length : Int) ∧ (ds.length : Int) ≤ 6) = false := by simp; omega
    have HW := hid (fun W => within_any (ds.length : Int) 1 6 W)
    rw [hw] at HW
    clear hw h1
    go_enter Try.func21, Try.ntmps21
    go_wp2_with (go_at_call 47; ((with_reducible refine (HW.out _).mono ?_); rintro e w1 ⟨rfl, rfl⟩))
    go_ret
    exact ⟨rfl, by (repeat' (first | (with_reducible exact Below.refl _ _) | (with_reducible assumption) | (with_reducible refine Below.new ?_ _) | (with_reducible refine Below.alloc ?_ ?_ _) | (with_reducible refine Below.drew ?_) | (with_reducible refine Below.drewN ?_ _) | (with_reducible refine Below.setCell ?_ ?_ _) | (refine Below.step ?_ (by assumption)) | go_size))⟩
end Go.Proofs.Ytdgeinipdphoeaa
/- Schemas: the reference's 'Right'. -/
namespace Go.Proofs.Ytdgeinipdphoeaa
set_option linter.unusedVariables false
set_option linter.unusedSimpArgs false
set_option maxRecDepth 100000
open Go.ChangeShapes Go.WideShapes Go.ChangeAt Go.RowKit

theorem seen_or (l : List ByteArray) (t : ByteArray) : (seenB l t = false ∧ ∀ i (hi : i < l.length), (t.toList == l[i].toList) = false) ∨ (seenB l t = true ∧ ∃ j, ∃ hj : j < l.length, (t.toList == l[j].toList) = true ∧ ∀ i (hi : i < j), (t.toList == (l[i]'(Nat.lt_trans hi hj)).toList) = false) := by
  have H : ∀ n, n ≤ l.length → (∀ i (hi : i < l.length), i < n → (t.toList == l[i].toList) = false) ∨ (∃ j, ∃ hj : j < l.length, (t.toList == l[j].toList) = true ∧ ∀ i (hi : i < j), (t.toList == (l[i]'(Nat.lt_trans hi hj)).toList) = false) := by
    intro n
    induction n with
    | zero => intro _; exact .inl fun i hi h => absurd h (Nat.not_lt_zero i)
    | succ n ih =>
      intro hn
      rcases ih (by omega) with h | h
      · by_cases hg : (t.toList == (l[n]'(by omega)).toList) = true
        · exact .inr ⟨n, by omega, hg, fun i hi => h i (by omega) hi⟩
        · refine .inl fun i hi hin => ?_
          by_cases e : i = n
          · subst e; simpa using hg
          · exact h i hi (by omega)
      · exact .inr h
  rcases H l.length (Nat.le_refl _) with h | h
  · refine .inl ⟨?_, fun i hi => h i hi hi⟩
    unfold seenB
    rw [List.any_eq_false]
    intro x hx
    obtain ⟨i, hi, rfl⟩ := List.getElem_of_mem hx
    have := h i hi hi
    rw [ByteArray.toList_eq, ByteArray.toList_eq] at this
    simpa using fun e => (by rw [e] at this; simp at this)
  · refine .inr ⟨?_, h⟩
    obtain ⟨j, hj, he, _⟩ := h
    unfold seenB
    rw [List.any_eq_true]
    refine ⟨l[j], List.getElem_mem hj, ?_⟩
    rw [ByteArray.toList_eq, ByteArray.toList_eq] at he
    rw [beq_iff_eq] at he ⊢
    exact he.symm

set_option maxHeartbeats 4000000 in
theorem refRight_mid (vd vm : Value) (ds ms : List ByteArray) (g : Int) (w : World) (hd : StrsSl w vd ds) (hm : StrsSl w vm ms) (td : Texts ds) (tm : Texts ms) (h1 : 1 ≤ ds.length) (h2 : ds.length ≤ 6) (h3 : ms.length ≤ 4) (h4 : 1 ≤ g) (h5 : g ≤ 1000000000) :
    Calls Try.prog 22 #[.agg #[vd, vm, .int .i64 g]] w fun e w' => e = .returned (.bool (namesB (ds ++ ms))) ∧ Below w.heap.size w w' := by
  obtain ⟨i0, hi, hiz0, hiz1, hiz2⟩ := info_parts info_string
  obtain ⟨ta, _⟩ := td.app tm
  obtain ⟨J, hJ, hpre, hat, hres⟩ : ∃ J, J ≤ (ds ++ ms).length ∧ (∀ i, i < J → okAt (ds ++ ms) i = true) ∧ (J < (ds ++ ms).length → okAt (ds ++ ms) J = false) ∧ namesB (ds ++ ms) = decide (J = (ds ++ ms).length) := by
    rcases names_first (ds ++ ms) with ⟨e1, e2⟩ | ⟨e1, j, hj, e2, e3⟩
    · exact ⟨_, Nat.le_refl _, e2, fun h => absurd h (Nat.lt_irrefl _), by rw [e1]; simp⟩
    · exact ⟨j, by omega, e3, fun _ => e2, by rw [e1]; exact (decide_eq_false (by omega)).symm⟩
  rw [hres]
  clear hres
  have HTA := hid ta; have HPRE := hid hpre; have HAT := hid hat
  obtain ⟨ss, hss⟩ : ∃ ss, ds ++ ms = ss := ⟨_, rfl⟩
  have HSS := hid hss
  rw [hss] at HPRE HAT HTA hJ ⊢
  obtain ⟨ad, cd, rfl, _, _, _⟩ := SlAt.shape hd
  obtain ⟨am, cm, rfl, _, _, _⟩ := SlAt.shape hm
  have hN : ss.length = ds.length + ms.length := by rw [← hss]; simp
  have HD : Hid (SlAt w (.slice ad ds.length cd) ds.length 1 (strsV ds)) := hid hd
  have HM : Hid (SlAt w (.slice am ms.length cm) ms.length 1 (strsV ms)) := hid hm
  clear hd hm ta hpre hat hss
  have hN10 : ss.length ≤ 10 := by omega
  obtain ⟨N, hNN⟩ : ∃ N, ss.length = N := ⟨_, rfl⟩
  rw [hNN] at HAT hJ hN hN10 ⊢
  have HN := hid hN; have HNN := hid hNN
  clear hN hNN
  generalize ds.length = nd at *
  generalize ms.length = nm at *
  go_enter Try.func22, Try.ntmps22
  go_wp2
  go_region_held3 (fun w' => w'.cell? ⟨w.heap.size, 0, none⟩ = some (.slice ad nd cd) ∧ w'.cell? ⟨w.heap.size, 1, none⟩ = some (.slice am nm cm)) (first | exact ⟨f0, f1⟩ | exact ⟨e0, e1⟩ | go_keep) ((first
    | (refine step_append_sl _ (by rfl) _ _ _ (by rfl) (w.heap.size + 1) 9 i0 (.string { data := #[] }) 1 16 Try.underlying22 hi hiz0 hiz1 hiz2 rfl (by decide) (.slice none 0 0) 0 [] (by rfl) (World.ownsRow_nil _ _ _ _) (.slice ad nd cd) nd (strsV ds) (by rfl) (SlAt.below HD.out (by (repeat' (first | (with_reducible exact Below.refl _ _) | (with_reducible assumption) | (with_reducible refine Below.new ?_ _) | (with_reducible refine Below.alloc ?_ ?_ _) | (with_reducible refine Below.drew ?_) | (with_reducible refine Below.drewN ?_ _) | (with_reducible refine Below.setCell ?_ ?_ _) | (refine Below.step ?_ (by assumption)) | go_size)))) (strs_one _) (by unfold maxLen; omega) (by omega) (by go_size) ?_; intro v1 w1 hown1 hgrow1 hb1; obtain ⟨e0, e1⟩ : w1.cell? ⟨w.heap.size, 0, none⟩ = some (.slice ad nd cd) ∧ w1.cell? ⟨w.heap.size, 1, none⟩ = some (.slice am nm cm) := ⟨own_far (World.ownsRow_nil _ (w.heap.size + 1) 9 1) hgrow1 (by omega) (by go_simp), own_far (World.ownsRow_nil _ (w.heap.size + 1) 9 1) hgrow1 (by omega) (by go_simp)⟩; have hB1 : Below w.heap.size w w1 := own_below (World.ownsRow_nil _ (w.heap.size + 1) 9 1) hgrow1 (by (repeat' (first | (with_reducible exact Below.refl _ _) | (with_reducible assumption) | (with_reducible refine Below.new ?_ _) | (with_reducible refine Below.alloc ?_ ?_ _) | (with_reducible refine Below.drew ?_) | (with_reducible refine Below.drewN ?_ _) | (with_reducible refine Below.setCell ?_ ?_ _) | (refine Below.step ?_ (by assumption)) | go_size))) (by omega))
    | (refine step_append_sl _ (by rfl) _ _ _ (by rfl) (w.heap.size + 1) 9 i0 (.string { data := #[] }) 1 16 Try.underlying22 hi hiz0 hiz1 hiz2 rfl (by decide) v1 (0 + nd) ([] ++ strsV ds) (by rfl) hown1 (.slice am nm cm) nm (strsV ms) (by rfl) (SlAt.below HM.out (by (repeat' (first | (with_reducible exact Below.refl _ _) | (with_reducible assumption) | (with_reducible refine Below.new ?_ _) | (with_reducible refine Below.alloc ?_ ?_ _) | (with_reducible refine Below.drew ?_) | (with_reducible refine Below.drewN ?_ _) | (with_reducible refine Below.setCell ?_ ?_ _) | (refine Below.step ?_ (by assumption)) | go_size)))) (strs_one _) (by unfold maxLen; omega) (by omega) (Nat.succ_le_of_lt (World.block_lt_of_cell? _ _ e0)) ?_; intro v2 w2 hown2 hgrow2 hb2; obtain ⟨f0, f1⟩ : w2.cell? ⟨w.heap.size, 0, none⟩ = some (.slice ad nd cd) ∧ w2.cell? ⟨w.heap.size, 1, none⟩ = some (.slice am nm cm) := ⟨own_far hown1 hgrow2 (by omega) (by go_simp), own_far hown1 hgrow2 (by omega) (by go_simp)⟩; have hB2 : Below w.heap.size w w2 := own_below hown1 hgrow2 (by (repeat' (first | (with_reducible exact Below.refl _ _) | (with_reducible assumption) | (with_reducible refine Below.new ?_ _) | (with_reducible refine Below.alloc ?_ ?_ _) | (with_reducible refine Below.drew ?_) | (with_reducible refine Below.drewN ?_ _) | (with_reducible refine Below.setCell ?_ ?_ _) | (refine Below.step ?_ (by assumption)) | go_size))) (by omega))))
  have hv2 : StrsSl w2 v2 ss := by
    rw [← HSS.out]
    refine StrsSl.own (base := w.heap.size + 1) (e := 9) (n := 0 + nd + nm) ?_
    simpa [strsV] using hown2
  obtain ⟨a2, c2, rfl, hc2, hc3, _⟩ := SlAt.shape hv2
  have HV := hid hv2
  clear hown1 hown2 hgrow1 hgrow2 hb1 hb2 hv2 hB1 e0 e1 f0 f1 HD HM
  rw [HNN.out] at hc2 ⊢
  go_wp2
  go_loopw [4] (fun i wr => ∃ k : Nat, k ≤ J ∧ i = .int .i64 k ∧ Below w2.heap.size w2 wr) (fun i _ => N - (intOf i).toNat)
  case atStart => exact ⟨0, Nat.zero_le _, rfl, Below.refl _ _⟩
  case round =>
    obtain ⟨k, hk, rfl, hbel⟩ := hrel
    by_cases hkN : k < N
    · have hlen : k < ss.length := by rw [HNN.out]; exact hkN
      obtain ⟨b, off, rfl, hcell⟩ := (SlAt.parts HV.out).2.2.2.2 (by simp; omega)
      have HC := hid (fun i (hi : i < ss.length) => hcell i (.string ss[i]) (by rw [List.getElem?_map, List.getElem?_eq_getElem hi]; rfl))
      clear hcell
      have hok : okAt ss k = (!seenB (ss.take k) ss[k] && nameB ss[k]) := by unfold okAt strAt; rw [List.getElem?_eq_getElem hlen]; rfl
      have hsz := HTA.out ss[k] (List.getElem_mem hlen)
      have ck := HC.out k hlen
      obtain ⟨s, hs⟩ : ∃ s, ss[k] = s := ⟨_, rfl⟩
      have HN2 := hid (fun W => refIsName_any ss[k] W hsz)
      rw [hs] at hok hsz ck HN2
      have HCK := hid ck; have HOK := hid hok; have HBEL := hid hbel
      clear ck hok hs hbel
      obtain ⟨W0, hW0⟩ : ∃ W0, wr = W0 := ⟨_, rfl⟩
      rw [hW0] at HBEL ⊢
      clear hW0
      rcases seen_or (ss.take k) s with ⟨hsb, hno⟩ | ⟨hsb, j, hj, hyes, hno⟩
      · have HNO := hid (fun i (hi : i < k) => (show (s.toList == (ss[i]'(Nat.lt_trans hi hlen)).toList) = false from by have := hno i (by simp; omega); simpa using this))
        clear hno
        have HSB := hid hsb
        clear hsb
        go_wp2
        go_loopw [5] (fun i wr => ∃ m : Nat, m ≤ k ∧ i = .int .i64 m ∧ Below w2.heap.size w2 wr) (fun i _ => k - (intOf i).toNat)
        case atStart => exact ⟨0, Nat.zero_le _, rfl, HBEL.out⟩
        case round =>
          obtain ⟨m, hm, rfl, hbel⟩ := hrel
          have c1 := cell_step HCK.out hbel
          have HB := hid hbel
          by_cases hmk : m < k
          · have c2 := cell_step (HC.out m (Nat.lt_trans hmk hlen)) hbel
            have heq := HNO.out m hmk
            obtain ⟨t, ht⟩ : ∃ t, ss[m]'(Nat.lt_trans hmk hlen) = t := ⟨_, rfl⟩
            rw [ht] at c2 heq
            clear ht hbel
            have g1 : (0 : Int) ≤ (m : Int) := Int.natCast_nonneg _
            have g2 : (m : Int) < (N : Int) := by omega
            have g3 : (0 : Int) ≤ (k : Int) := Int.natCast_nonneg _
            have g4 : (k : Int) < (N : Int) := by omega
            go_wp2
            go_quiet (fail)
            go_wp2
            go_roundw
            case rel => exact ⟨m + 1, hmk, by go_num, by have := HB.out; (repeat' (first | (with_reducible exact Below.refl _ _) | (with_reducible assumption) | (with_reducible refine Below.new ?_ _) | (with_reducible refine Below.alloc ?_ ?_ _) | (with_reducible refine Below.drew ?_) | (with_reducible refine Below.drewN ?_ _) | (with_reducible refine Below.setCell ?_ ?_ _) | (refine Below.step ?_ (by assumption)) | go_size))⟩
            case measure => simp [intOf]; omega
          · obtain rfl : m = k := by omega
            by_cases hkJ : m < J
            · have hnm : nameB s = true := by
                have h1 := HPRE.out m hkJ
                rw [HOK.out, HSB.out] at h1
                simpa using h1
              rw [hnm] at HN2
              clear hbel hnm
              go_wp2_with (go_at_call 50; ((with_reducible refine (HN2.out _).mono ?_); rintro e w4 ⟨rfl, hb4⟩))
              go_roundw
              case rel => exact ⟨m + 1, hkJ, by go_num, by have := HB.out; (repeat' (first | (with_reducible exact Below.refl _ _) | (with_reducible assumption) | (with_reducible refine Below.new ?_ _) | (with_reducible refine Below.alloc ?_ ?_ _) | (with_reducible refine Below.drew ?_) | (with_reducible refine Below.drewN ?_ _) | (with_reducible refine Below.setCell ?_ ?_ _) | (refine Below.step ?_ (by assumption)) | go_size))⟩
              case measure => simp [intOf]; omega
            · obtain rfl : m = J := by omega
              have hnm : nameB s = false := by
                have h1 := HAT.out hkN
                rw [HOK.out, HSB.out] at h1
                simpa using h1
              rw [hnm] at HN2
              clear hbel hnm
              have HD : Hid (decide (m = N) = false) := by unfold Hid; simp; omega
              go_wp2_with (go_at_call 50; ((with_reducible refine (HN2.out _).mono ?_); rintro e w4 ⟨rfl, hb4⟩))
              go_ret
              have := HB.out
              exact ⟨ret_bool (by rw [HD.out]), hB2.trans (Below.mono (B := w2.heap.size) (by (repeat' (first | (with_reducible exact Below.refl _ _) | (with_reducible assumption) | (with_reducible refine Below.new ?_ _) | (with_reducible refine Below.alloc ?_ ?_ _) | (with_reducible refine Below.drew ?_) | (with_reducible refine Below.drewN ?_ _) | (with_reducible refine Below.setCell ?_ ?_ _) | (refine Below.step ?_ (by assumption)) | go_size))) hB2.size)⟩
      · have hJk : k = J := by
          by_cases h : k < J
          · have h1 := HPRE.out k h
            rw [HOK.out, hsb] at h1
            simp at h1
          · omega
        have hjk : j < k := by simp at hj; omega
        have HNO := hid (fun i (hi : i < j) => (show (s.toList == (ss[i]'(Nat.lt_trans (Nat.lt_trans hi hjk) hlen)).toList) = false from by have := hno i hi; simpa using this))
        have hyes2 : (s.toList == (ss[j]'(Nat.lt_trans hjk hlen)).toList) = true := by simpa using hyes
        clear hno hsb hyes
        have HY := hid hyes2
        have HD : Hid (decide (J = N) = false) := by unfold Hid; simp; omega
        clear hyes2 hJk
        go_wp2
        go_loopw [5] (fun i wr => ∃ m : Nat, m ≤ j ∧ i = .int .i64 m ∧ Below w2.heap.size w2 wr) (fun i _ => k - (intOf i).toNat)
        case atStart => exact ⟨0, Nat.zero_le _, rfl, HBEL.out⟩
        case round =>
          obtain ⟨m, hm, rfl, hbel⟩ := hrel
          have c1 := cell_step HCK.out hbel
          have HB := hid hbel
          have c2 := cell_step (HC.out m (by omega)) hbel
          have g1 : (0 : Int) ≤ (m : Int) := Int.natCast_nonneg _
          have g2 : (m : Int) < (N : Int) := by omega
          have g3 : (0 : Int) ≤ (k : Int) := Int.natCast_nonneg _
          have g4 : (k : Int) < (N : Int) := by omega
          have g5 : m < k := by omega
          by_cases hmk : m < j
          · have heq := HNO.out m hmk
            obtain ⟨t, ht⟩ : ∃ t, ss[m]'(by omega) = t := ⟨_, rfl⟩
            rw [ht] at c2 heq
            clear ht hbel
            go_wp2
            go_quiet (fail)
            go_wp2
            go_roundw
            case rel => exact ⟨m + 1, hmk, by go_num, by have := HB.out; (repeat' (first | (with_reducible exact Below.refl _ _) | (with_reducible assumption) | (with_reducible refine Below.new ?_ _) | (with_reducible refine Below.alloc ?_ ?_ _) | (with_reducible refine Below.drew ?_) | (with_reducible refine Below.drewN ?_ _) | (with_reducible refine Below.setCell ?_ ?_ _) | (refine Below.step ?_ (by assumption)) | go_size))⟩
            case measure => simp [intOf]; omega
          · obtain rfl : m = j := by omega
            have heq := HY.out
            obtain ⟨t, ht⟩ : ∃ t, ss[m]'(by omega) = t := ⟨_, rfl⟩
            rw [ht] at c2 heq
            clear ht hbel
            go_wp2
            go_quiet (fail)
            go_wp2
            go_ret
            have := HB.out
            exact ⟨ret_bool (by rw [HD.out]), hB2.trans (Below.mono (B := w2.heap.size) (by (repeat' (first | (with_reducible exact Below.refl _ _) | (with_reducible assumption) | (with_reducible refine Below.new ?_ _) | (with_reducible refine Below.alloc ?_ ?_ _) | (with_reducible refine Below.drew ?_) | (with_reducible refine Below.drewN ?_ _) | (with_reducible refine Below.setCell ?_ ?_ _) | (refine Below.step ?_ (by assumption)) | go_size))) hB2.size)⟩
    · obtain rfl : k = N := by omega
      obtain rfl : k = J := by omega
      go_wp2
      go_ret
      exact ⟨ret_bool (by simp), hB2.trans (hbel.mono hB2.size)⟩

set_option maxHeartbeats 1000000 in
theorem refRight_any (vd vm : Value) (ds ms : List ByteArray) (g : Int) (w : World) (hd : StrsSl w vd ds) (hm : StrsSl w vm ms) (td : Texts ds) (tm : Texts ms) :
    Calls Try.prog 22 #[.agg #[vd, vm, .int .i64 g]] w fun e w' => e = .returned (.bool (rightS ds ms g)) ∧ Below w.heap.size w w' := by
  by_cases h1 : 1 ≤ ds.length ∧ ds.length ≤ 6 ∧ ms.length ≤ 4 ∧ 1 ≤ g ∧ g ≤ 1000000000
  · obtain ⟨h1, h2, h3, h4, h5⟩ := h1
    have hr : rightS ds ms g = namesB (ds ++ ms) := by simp [rightS, h1, h2, h3, h4, h5]
    rw [hr]
    exact refRight_mid vd vm ds ms g w hd hm td tm h1 h2 h3 h4 h5
  · have hr : rightS ds ms g = false := by simp [rightS]; omega
    rw [hr]
    have hcase : ds.length < 1 ∨ (1 ≤ ds.length ∧ 6 < ds.length) ∨ ((1 ≤ ds.length ∧ ds.length ≤ 6) ∧ 4 < ms.length) ∨ ((1 ≤ ds.length ∧ ds.length ≤ 6) ∧ ms.length ≤ 4 ∧ g < 1) ∨ ((1 ≤ ds.length ∧ ds.length ≤ 6) ∧ ms.length ≤ 4 ∧ 1 ≤ g ∧ 1000000000 < g) := by omega
    obtain ⟨td, _⟩ := td
    obtain ⟨tm, _⟩ := tm
    obtain ⟨ad, cd, rfl, _, _, _⟩ := SlAt.shape hd
    obtain ⟨am, cm, rfl, _, _, _⟩ := SlAt.shape hm
    clear hd hm hr h1
    generalize ds.length = nd at *
    generalize ms.length = nm at *
    rcases hcase with h | ⟨h1, h⟩ | ⟨⟨h1, h2⟩, h⟩ | ⟨⟨h1, h2⟩, h3, h⟩ | ⟨⟨h1, h2⟩, h3, h4, h⟩
    all_goals
      go_enter Try.func22, Try.ntmps22
      go_wp2
      go_ret
      exact ⟨rfl, by (repeat' (first | (with_reducible exact Below.refl _ _) | (with_reducible assumption) | (with_reducible refine Below.new ?_ _) | (with_reducible refine Below.alloc ?_ ?_ _) | (with_reducible refine Below.drew ?_) | (with_reducible refine Below.drewN ?_ _) | (with_reducible refine Below.setCell ?_ ?_ _) | (refine Below.step ?_ (by assumption)) | go_size))⟩
end Go.Proofs.Ytdgeinipdphoeaa
