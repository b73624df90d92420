/- Schemas: which texts are names, by the program and by the reference. -/
import Derived.Test.YtdgeinipdphoeaaBase
import Derived.Lib.OthersKept
import Derived.Laws.RangeAny
namespace Go.Proofs.Ytdgeinipdphoeaa
set_option linter.unusedVariables false
set_option linter.unusedSimpArgs false
open Go.ChangeShapes Go.WideShapes Go.ChangeAt Go.RowKit

/-- May a byte stand at a name's place i? -/
def goodC (i : Nat) (c : UInt8) : Bool := decide (97 ≤ c.toNat ∧ c.toNat ≤ 122) || (decide (i ≠ 0) && (decide (c.toNat = 95) || decide (48 ≤ c.toNat ∧ c.toNat ≤ 57)))
/-- Is a text a name? -/
def nameB (s : ByteArray) : Bool := decide (0 < s.size ∧ s.size ≤ 20) && (List.range s.size).all fun i => goodC i (s.data.toList[i]?.getD 0)
theorem byte_at (s : ByteArray) (i : Nat) (h : i < s.size) : s.data.toList[i]?.getD 0 = s[i] := by
  have : i < s.data.toList.length := by simpa using h
  rw [List.getElem?_eq_getElem this]
  rfl
theorem name_good {s : ByteArray} (h : ∀ i (hi : i < s.size), goodC i s[i] = true) : nameB s = decide (0 < s.size ∧ s.size ≤ 20) := by
  unfold nameB
  have : ((List.range s.size).all fun i => goodC i (s.data.toList[i]?.getD 0)) = true := by
    rw [List.all_eq_true]
    intro i hi
    have hi := List.mem_range.1 hi
    rw [byte_at s i hi]
    exact h i hi
  rw [this, Bool.and_true]
theorem name_bad {s : ByteArray} {j : Nat} (hj : j < s.size) (h : goodC j s[j] = false) : nameB s = false := by
  unfold nameB
  have : ((List.range s.size).all fun i => goodC i (s.data.toList[i]?.getD 0)) = false := by
    rw [List.all_eq_false]
    refine ⟨j, List.mem_range.2 hj, ?_⟩
    rw [byte_at s j hj, h]
    simp
  rw [this, Bool.and_false]
theorem good_or (s : ByteArray) : (∀ i (hi : i < s.size), goodC i s[i] = true) ∨ ∃ j, ∃ hj : j < s.size, goodC j s[j] = false ∧ ∀ i (hi : i < j), goodC i (s[i]'(Nat.lt_trans hi hj)) = true := by
  have H : ∀ n, n ≤ s.size → (∀ i (hi : i < s.size), i < n → goodC i s[i] = true) ∨ ∃ j, ∃ hj : j < s.size, goodC j s[j] = false ∧ ∀ i (hi : i < j), goodC i (s[i]'(Nat.lt_trans hi hj)) = true := by
    intro n
    induction n with
    | zero => intro _; exact .inl fun i hi h => absurd h (Nat.not_lt_zero i)
    | succ n ih =>
      intro hn
      rcases ih (by omega) with h | h
      · by_cases hg : goodC n (s[n]'(by omega)) = true
        · refine .inl fun i hi hin => ?_
          by_cases e : i = n
          · subst e; exact hg
          · exact h i hi (by omega)
        · exact .inr ⟨n, by omega, by simpa using hg, fun i hi => h i (by omega) hi⟩
      · exact .inr h
  rcases H s.size (Nat.le_refl _) with h | h
  · exact .inl fun i hi => h i hi hi
  · exact .inr h
theorem goodC_iff {i : Nat} {c : UInt8} : goodC i c = true ↔ (97 ≤ c.toNat ∧ c.toNat ≤ 122) ∨ (i ≠ 0 ∧ (c.toNat = 95 ∨ (48 ≤ c.toNat ∧ c.toNat ≤ 57))) := by
  unfold goodC
  simp only [Bool.or_eq_true, Bool.and_eq_true, decide_eq_true_eq]

/-- The next rune. -/
theorem rune_at (w : World) (k : Nat) (s : ByteArray) (pos : Nat) (hk : w.heap[k]? = some (.stringIter s pos)) (h : pos < s.size) :
    ∃ r v : Nat, (∀ ty, (Instr.next (.pointer (some ⟨k, 0, none⟩)) true ty).run Try.prog w = .ok (.tuple #[.bool true, .int .i64 pos, .int .i32 (r : Int)]) (w.iterAt k s (pos + v))) ∧ 1 ≤ v ∧
      (((s[pos]'h).toNat < 128 ∧ r = (s[pos]'h).toNat ∧ v = 1) ∨ (128 ≤ (s[pos]'h).toNat ∧ 128 ≤ r)) ∧ r ≤ 2147483647 := by
  refine ⟨(Utf8.decode s pos).1, (Utf8.decode s pos).2, fun ty => Lib.run_next_any_at w k s pos ty hk h, ?_, ?_, decode_le s pos⟩
  · by_cases ha : (s[pos]'h).toNat < 128
    · rw [decode_ascii s pos h ha]; exact Nat.le_refl _
    · exact (decode_high s pos h (by omega)).2
  · by_cases ha : (s[pos]'h).toNat < 128
    · rw [decode_ascii s pos h ha]; exact .inl ⟨ha, rfl, rfl⟩
    · exact .inr ⟨by omega, (decode_high s pos h (by omega)).1⟩

set_option maxRecDepth 100000 in
set_option maxHeartbeats 1000000 in
theorem isName_none (s : ByteArray) (w : World) (h0 : s.size = 0) : Calls Try.prog 81 #[.string s] w fun e w' => e = .returned (.bool false) ∧ Below w.heap.size w w' := by
  obtain rfl : s = { data := #[] } := by
    cases s with
    | mk d =>
      have : d.size = 0 := h0
      rw [Array.size_eq_zero_iff.1 this]
  clear h0
  have hnx := fun ty => run_next_end (P := Try.prog) w { data := #[] } 0 ty (by decide)
  go_enter Try.func81, Try.ntmps81
  go_wp2
  refine wp_scope_straight ?_
  go_wp2
  refine wp_label ?_
  go_wp2
  refine wp_loop_rounds 1 ?_
  rw [rounds_succ]
  go_wp2
  (try rw [Exit.noGoto_ret])
  go_ret
  exact ⟨rfl, (Below.refl _ _).alloc (Nat.le_refl _) _⟩

set_option maxRecDepth 100000 in
set_option maxHeartbeats 1000000 in
theorem isName_some (s : ByteArray) (w : World) (h0 : 0 < s.size) (hs : s.size ≤ 9223372036854775807) (b0 : Bool) (hb0 : decide (s.size ≤ 20) = b0) (j : Nat) (hj : j ≤ s.size) (h : ∀ i (hi : i < j), goodC i (s[i]'(by omega)) = true)
    (hbad : ∀ hj : j < s.size, goodC j s[j] = false) :
    Calls Try.prog 81 #[.string s] w fun e w' => e = .returned (.bool (b0 && decide (j = s.size))) ∧ Below w.heap.size w w' := by
  have hne : s.toList.isEmpty = false := by
    rw [ByteArray.toList_eq]
    have : 0 < s.data.toList.length := by simpa using h0
    cases hd : s.data.toList with
    | nil => rw [hd] at this; simp at this
    | cons a l => rfl
  have hb1 : decide ((s.size : Int) ≤ 20) = b0 := by rw [← hb0]; simp; omega
  clear hb0
  go_enter Try.func81, Try.ntmps81
  go_wp2
  refine wp_scope_straight ?_
  go_wp2
  refine wp_label ?_
  go_wp2
  go_loopw [3] (fun b wr => ∃ pos : Nat, pos ≤ j ∧ b = .bool b0 ∧ wr.heap[w.heap.size]? = some (.stringIter s pos) ∧ Below w.heap.size w wr) (fun _ wr => s.size - wr.iterPos w.heap.size)
  case atStart => exact ⟨0, Nat.zero_le _, rfl, World.iter_heap w s 0, (Below.refl _ _).alloc (Nat.le_refl _) _⟩
  case round =>
    obtain ⟨pos, hp, rfl, hit, hB⟩ := hrel
    have hsz : w.heap.size < wr.heap.size := (Array.getElem?_eq_some_iff.1 hit).1
    by_cases hpj : pos < j
    · have hg := goodC_iff.1 (h pos hpj)
      obtain ⟨r, v, hnx, hv, hr, hr2⟩ := rune_at wr w.heap.size s pos hit (by omega)
      obtain ⟨c, hc⟩ : ∃ c, (s[pos]'(by omega)).toNat = c := ⟨_, rfl⟩
      rw [hc] at hg hr
      obtain ⟨rfl, rfl⟩ : r = c ∧ v = 1 := by omega
      have hit2 := Lib.iterAt_heap wr w.heap.size s pos (pos + 1) hit
      have hB2 := Lib.below_iterAt hB (k := w.heap.size) (Nat.le_refl _) s (pos + 1)
      have hm : s.size - (wr.iterAt w.heap.size s (pos + 1)).iterPos w.heap.size < s.size - wr.iterPos w.heap.size := by
        simp only [World.iterPos, hit2, hit]; omega
      have HI := hid hit2; have HB2 := hid hB2; have HM := hid hm
      clear h hbad hne hb1 hit2 hB2 hm hv hr hc hB hit
      rcases hg with ⟨g1, g2⟩ | ⟨g0, g1 | ⟨g1, g2⟩⟩
      · go_wp2
        go_roundw
        case rel => exact ⟨pos + 1, hpj, rfl, HI.out, HB2.out⟩
        case measure => exact HM.out
      · subst g1
        have hp0 : ((pos : Int) == 0) = false := by simp; omega
        go_wp2
        go_roundw
        case rel => exact ⟨pos + 1, hpj, rfl, HI.out, HB2.out⟩
        case measure => exact HM.out
      · have hn : ((r : Int) != 95) = true := by simp; omega
        have hp0 : ((pos : Int) == 0) = false := by simp; omega
        go_wp2
        go_roundw
        case rel => exact ⟨pos + 1, hpj, rfl, HI.out, HB2.out⟩
        case measure => exact HM.out
    · obtain rfl : pos = j := by omega
      by_cases hps : pos < s.size
      · have hg := hbad hps
        obtain ⟨r, v, hnx, hv, hr, hr2⟩ := rune_at wr w.heap.size s pos hit hps
        obtain ⟨c, hc⟩ : ∃ c, (s[pos]'hps).toNat = c := ⟨_, rfl⟩
        have hg2 : ¬ ((97 ≤ c ∧ c ≤ 122) ∨ (pos ≠ 0 ∧ (c = 95 ∨ (48 ≤ c ∧ c ≤ 57)))) := fun hh => by
          rw [← hc] at hh
          rw [goodC_iff.2 hh] at hg
          cases hg
        rw [hc] at hr
        have hB2 := Lib.below_iterAt hB (k := w.heap.size) (Nat.le_refl _) s (pos + v)
        have HB2 := hid hB2
        have HD : Hid (decide (pos = s.size) = false) := by unfold Hid; simp; omega
        have hcase : ((r < 97 ∨ 122 < r) ∧ pos = 0) ∨ ((r < 97 ∨ 122 < r) ∧ 0 < pos ∧ r ≠ 95 ∧ (r < 48 ∨ 57 < r)) := by omega
        clear h hbad hne hb1 hB2 hv hr hc hB hit hg2 hg
        rcases hcase with ⟨g1, g0⟩ | ⟨g1, g2, g3, g4⟩
        · have hp0 : ((pos : Int) == 0) = true := by simp; omega
          clear g0
          rcases g1 with g1 | g1
          · go_wp2
            all_goals ((try rw [Exit.noGoto_ret]); go_ret; exact ⟨ret_bool (by rw [HD.out, Bool.and_false]), HB2.out⟩)
          · have hd : decide ((r : Int) ≤ 122) = false := by rw [decide_eq_false_iff_not]; omega
            go_wp2
            all_goals ((try rw [Exit.noGoto_ret]); go_ret; exact ⟨ret_bool (by rw [HD.out, Bool.and_false]), HB2.out⟩)
        · have hp0 : ((pos : Int) == 0) = false := by simp; omega
          have hn : ((r : Int) != 95) = true := by simp; omega
          clear g3 g2
          have hcase : r < 48 ∨ (57 < r ∧ r < 97) ∨ 122 < r := by omega
          clear g1 g4
          rcases hcase with g1 | ⟨g1, g2⟩ | g1
          · go_wp2
            all_goals ((try rw [Exit.noGoto_ret]); go_ret; exact ⟨ret_bool (by rw [HD.out, Bool.and_false]), HB2.out⟩)
          · have hd2 : decide ((57 : Int) < r) = true := by rw [decide_eq_true_eq]; omega
            go_wp2
            all_goals ((try rw [Exit.noGoto_ret]); go_ret; exact ⟨ret_bool (by rw [HD.out, Bool.and_false]), HB2.out⟩)
          · have hd : decide ((r : Int) ≤ 122) = false := by rw [decide_eq_false_iff_not]; omega
            have hd2 : decide ((57 : Int) < r) = true := by rw [decide_eq_true_eq]; omega
            go_wp2
            all_goals ((try rw [Exit.noGoto_ret]); go_ret; exact ⟨ret_bool (by rw [HD.out, Bool.and_false]), HB2.out⟩)
      · have hnx : ∀ ty, (Instr.next (.pointer (some ⟨w.heap.size, 0, none⟩)) true ty).run Try.prog wr = _ := fun ty => Lib.run_next_end_at wr w.heap.size s pos ty hit hps
        have HB2 := hid hB
        have HD : Hid (decide (pos = s.size) = true) := by unfold Hid; simp; omega
        clear h hbad hne hb1 hB hit
        go_wp2
        (try rw [Exit.noGoto_ret])
        go_ret
        exact ⟨ret_bool (by rw [HD.out, Bool.and_true]), HB2.out⟩

theorem isName_any (s : ByteArray) (w : World) (hs : s.size ≤ 9223372036854775807) : Calls Try.prog 81 #[.string s] w fun e w' => e = .returned (.bool (nameB s)) ∧ Below w.heap.size w w' := by
  by_cases h0 : s.size = 0
  · refine (isName_none s w h0).mono fun e w' ⟨he, hw⟩ => ⟨he.trans (ret_bool ?_), hw⟩
    unfold nameB; simp [h0]
  · rcases good_or s with h | ⟨j, hj, h1, h2⟩
    · refine (isName_some s w (by omega) hs _ rfl s.size (Nat.le_refl _) (fun i hi => h i hi) (fun hh => absurd hh (Nat.lt_irrefl _))).mono fun e w' ⟨he, hw⟩ => ⟨he.trans (ret_bool ?_), hw⟩
      rw [name_good h]
      have : 0 < s.size := by omega
      simp [this]
    · refine (isName_some s w (by omega) hs _ rfl j (by omega) h2 (fun _ => h1)).mono fun e w' ⟨he, hw⟩ => ⟨he.trans (ret_bool ?_), hw⟩
      rw [name_bad hj h1]
      have : ¬ j = s.size := by omega
      simp [this]

set_option maxRecDepth 100000 in
set_option maxHeartbeats 1000000 in
theorem refIsName_out (s : ByteArray) (w : World) (hs : s.size ≤ 9223372036854775807) (h : s.size = 0 ∨ 20 < s.size) : Calls Try.prog 50 #[.string s] w fun e w' => e = .returned (.bool false) ∧ Below w.heap.size w w' := by
  rcases h with h | h
  all_goals
    go_enter Try.func50, Try.ntmps50
    go_wp2
    go_ret
    exact ⟨rfl, by (repeat' (first | (with_reducible exact Below.refl _ _) | (with_reducible assumption) | (with_reducible refine Below.new ?_ _) | (with_reducible refine Below.alloc ?_ ?_ _) | (with_reducible refine Below.drew ?_) | (with_reducible refine Below.setCell ?_ ?_ _) | (refine Below.step ?_ (by assumption)) | go_size))⟩
set_option maxRecDepth 100000 in
set_option maxHeartbeats 1000000 in
theorem refIsName_head (s : ByteArray) (w : World) (h0 : 0 < s.size) (h1 : s.size ≤ 20) (h : (s[0]'h0).toNat < 97 ∨ 122 < (s[0]'h0).toNat) : Calls Try.prog 50 #[.string s] w fun e w' => e = .returned (.bool false) ∧ Below w.heap.size w w' := by
  have hc2 := (s[0]'h0).toNat_lt
  rcases h with h | h
  all_goals
    go_enter Try.func50, Try.ntmps50
    go_wp2
    all_goals (go_ret; exact ⟨rfl, by (repeat' (first | (with_reducible exact Below.refl _ _) | (with_reducible assumption) | (with_reducible refine Below.new ?_ _) | (with_reducible refine Below.alloc ?_ ?_ _) | (with_reducible refine Below.drew ?_) | (with_reducible refine Below.setCell ?_ ?_ _) | (refine Below.step ?_ (by assumption)) | go_size))⟩)
set_option maxRecDepth 100000 in
set_option maxHeartbeats 1000000 in
theorem refIsName_some (s : ByteArray) (w : World) (h0 : 0 < s.size) (h1 : s.size ≤ 20) (h2 : 97 ≤ (s[0]'h0).toNat ∧ (s[0]'h0).toNat ≤ 122) (j : Nat) (hj : j ≤ s.size) (h : ∀ i (hi : i < j), goodC i (s[i]'(by omega)) = true)
    (hbad : ∀ hj : j < s.size, goodC j s[j] = false) :
    Calls Try.prog 50 #[.string s] w fun e w' => e = .returned (.bool (decide (j = s.size))) ∧ Below w.heap.size w w' := by
  have hj0 : 0 < j := by
    rcases Nat.eq_zero_or_pos j with e | e
    · subst e
      have := hbad h0
      rw [goodC_iff.2 (.inl h2)] at this
      cases this
    · exact e
  obtain ⟨c0, hc0⟩ : ∃ c0, (s[0]'h0).toNat = c0 := ⟨_, rfl⟩
  rw [hc0] at h2
  go_enter Try.func50, Try.ntmps50
  go_wp2
  clear hc0
  go_loop [3] (fun i => ∃ k : Nat, k ≤ j ∧ i = .int .i64 k) (fun i => s.size - (intOf i).toNat)
  case atStart => exact ⟨0, Nat.zero_le _, rfl⟩
  case round =>
    obtain ⟨k, hk, rfl⟩ := hrel
    by_cases hkj : k < j
    · have hg := goodC_iff.1 (h k hkj)
      have hc2 := (s[k]'(by omega)).toNat_lt
      obtain ⟨c, hc⟩ : ∃ c, (s[k]'(by omega)).toNat = c := ⟨_, rfl⟩
      rw [hc] at hg hc2
      have hks : k < s.size := by omega
      clear h hbad
      rcases hg with ⟨g1, g2⟩ | ⟨g0, g1 | ⟨g1, g2⟩⟩
      · go_wp2
        go_round
        case rel => exact ⟨k + 1, hkj, by go_num⟩
        case measure => simp [intOf]; omega
      · subst g1
        go_wp2
        go_round
        case rel => exact ⟨k + 1, hkj, by go_num⟩
        case measure => simp [intOf]; omega
      · go_wp2
        go_round
        case rel => exact ⟨k + 1, hkj, by go_num⟩
        case measure => simp [intOf]; omega
    · obtain rfl : k = j := by omega
      by_cases hps : k < s.size
      · have hg := hbad hps
        have hc2 := (s[k]'hps).toNat_lt
        obtain ⟨c, hc⟩ : ∃ c, (s[k]'hps).toNat = c := ⟨_, rfl⟩
        have hg2 : ¬ ((97 ≤ c ∧ c ≤ 122) ∨ (k ≠ 0 ∧ (c = 95 ∨ (48 ≤ c ∧ c ≤ 57)))) := fun hh => by
          rw [← hc] at hh
          rw [goodC_iff.2 hh] at hg
          cases hg
        rw [hc] at hc2
        have HD : Hid (decide (k = s.size) = false) := by unfold Hid; simp; omega
        have hcase : c < 48 ∨ (57 < c ∧ c < 95) ∨ c = 96 ∨ 122 < c := by omega
        clear h hbad hg2 hg
        rcases hcase with g1 | ⟨g1, g2⟩ | g1 | g1
        · have hn : ((c : Int) == 95) = false := by simp; omega
          go_wp2
          all_goals (go_ret; exact ⟨ret_bool (by rw [HD.out]), by (repeat' (first | (with_reducible exact Below.refl _ _) | (with_reducible assumption) | (with_reducible refine Below.new ?_ _) | (with_reducible refine Below.alloc ?_ ?_ _) | (with_reducible refine Below.drew ?_) | (with_reducible refine Below.setCell ?_ ?_ _) | (refine Below.step ?_ (by assumption)) | go_size))⟩)
        · have hn : ((c : Int) == 95) = false := by simp; omega
          have hn2 : decide ((c : Int) ≤ 57) = false := by rw [decide_eq_false_iff_not]; omega
          go_wp2
          all_goals (go_ret; exact ⟨ret_bool (by rw [HD.out]), by (repeat' (first | (with_reducible exact Below.refl _ _) | (with_reducible assumption) | (with_reducible refine Below.new ?_ _) | (with_reducible refine Below.alloc ?_ ?_ _) | (with_reducible refine Below.drew ?_) | (with_reducible refine Below.setCell ?_ ?_ _) | (refine Below.step ?_ (by assumption)) | go_size))⟩)
        · subst g1
          go_wp2
          all_goals (go_ret; exact ⟨ret_bool (by rw [HD.out]), by (repeat' (first | (with_reducible exact Below.refl _ _) | (with_reducible assumption) | (with_reducible refine Below.new ?_ _) | (with_reducible refine Below.alloc ?_ ?_ _) | (with_reducible refine Below.drew ?_) | (with_reducible refine Below.setCell ?_ ?_ _) | (refine Below.step ?_ (by assumption)) | go_size))⟩)
        · have hn : ((c : Int) == 95) = false := by simp; omega
          have hn2 : decide ((c : Int) ≤ 57) = false := by rw [decide_eq_false_iff_not]; omega
          have hn3 : decide ((c : Int) ≤ 122) = false := by rw [decide_eq_false_iff_not]; omega
          go_wp2
          all_goals (go_ret; exact ⟨ret_bool (by rw [HD.out]), by (repeat' (first | (with_reducible exact Below.refl _ _) | (with_reducible assumption) | (with_reducible refine Below.new ?_ _) | (with_reducible refine Below.alloc ?_ ?_ _) | (with_reducible refine Below.drew ?_) | (with_reducible refine Below.setCell ?_ ?_ _) | (refine Below.step ?_ (by assumption)) | go_size))⟩)
      · have HD : Hid (decide (k = s.size) = true) := by unfold Hid; simp; omega
        clear h hbad
        go_wp2
        go_ret
        exact ⟨ret_bool (by rw [HD.out]), by (repeat' (first | (with_reducible exact Below.refl _ _) | (with_reducible assumption) | (with_reducible refine Below.new ?_ _) | (with_reducible refine Below.alloc ?_ ?_ _) | (with_reducible refine Below.drew ?_) | (with_reducible refine Below.setCell ?_ ?_ _) | (refine Below.step ?_ (by assumption)) | go_size))⟩
theorem refIsName_any (s : ByteArray) (w : World) (hs : s.size ≤ 9223372036854775807) : Calls Try.prog 50 #[.string s] w fun e w' => e = .returned (.bool (nameB s)) ∧ Below w.heap.size w w' := by
  by_cases h0 : s.size = 0 ∨ 20 < s.size
  · refine (refIsName_out s w hs h0).mono fun e w' ⟨he, hw⟩ => ⟨he.trans (ret_bool ?_), hw⟩
    unfold nameB
    rw [show decide (0 < s.size ∧ s.size ≤ 20) = false by rw [decide_eq_false_iff_not]; omega]
    rfl
  · have hp : 0 < s.size := by omega
    have hl : s.size ≤ 20 := by omega
    by_cases h2 : 97 ≤ (s[0]'hp).toNat ∧ (s[0]'hp).toNat ≤ 122
    · rcases good_or s with h | ⟨j, hj, h3, h4⟩
      · refine (refIsName_some s w hp hl h2 s.size (Nat.le_refl _) (fun i hi => h i hi) (fun hh => absurd hh (Nat.lt_irrefl _))).mono fun e w' ⟨he, hw⟩ => ⟨he.trans (ret_bool ?_), hw⟩
        rw [name_good h]
        simp [hp, hl]
      · refine (refIsName_some s w hp hl h2 j (by omega) h4 (fun _ => h3)).mono fun e w' ⟨he, hw⟩ => ⟨he.trans (ret_bool ?_), hw⟩
        rw [name_bad hj h3]
        have : ¬ j = s.size := by omega
        simp [this]
    · refine (refIsName_head s w hp hl (by omega)).mono fun e w' ⟨he, hw⟩ => ⟨he.trans (ret_bool ?_), hw⟩
      have : goodC 0 (s[0]'hp) = false := by
        rw [Bool.eq_false_iff]
        intro h
        rcases goodC_iff.1 h with h | ⟨h, _⟩
        · exact h2 h
        · exact h rfl
      rw [name_bad hp this]
end Go.Proofs.Ytdgeinipdphoeaa
