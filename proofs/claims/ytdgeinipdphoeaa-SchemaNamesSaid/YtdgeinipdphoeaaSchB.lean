/- Schemas: the program's 'areNames'. -/
import Derived.Test.YtdgeinipdphoeaaSchA
import Derived.Test.YtdgeinipdphoeaaMapB
import Derived.Maps.Views
import Derived.StringKeys
namespace Go.Proofs.Ytdgeinipdphoeaa
set_option linter.unusedVariables false
set_option linter.unusedSimpArgs false
open Go.ChangeShapes Go.WideShapes Go.ChangeAt Go.RowKit
open Go.Maps (Keyed)

/-- A slice value of strings in memory. -/
def StrsAt (w : World) (v : Value) (ss : List ByteArray) : Prop :=
  ∃ ao cap, v = .slice ao ss.length cap ∧ (0 < ss.length → ∃ b off, ao = some ⟨b, off, none⟩ ∧ ∀ j, j < ss.length → w.cell? ⟨b, off + j, none⟩ = some (.string (ss[j]?.getD { data := #[] })))
abbrev strAt (ss : List ByteArray) (j : Nat) : ByteArray := ss[j]?.getD { data := #[] }
/-- The names so far. -/
def seenD (l : List ByteArray) : DataW Unit := l.foldl (fun D s => D.put (.string s.data.toList) (.lit (.bool true))) (.map [])
theorem seenD_snoc (l : List ByteArray) (s : ByteArray) : seenD (l ++ [s]) = (seenD l).put (.string s.data.toList) (.lit (.bool true)) := by simp [seenD]
theorem fold_isMap : ∀ (l : List ByteArray) (D : DataW Unit), Maps.IsMap D → Maps.IsMap (l.foldl (fun D s => D.put (.string s.data.toList) (.lit (.bool true))) D)
  | [], _, h => h
  | s :: l, D, h => fold_isMap l _ (h.put _ _)
theorem seenD_at (t : ByteArray) : ∀ (l : List ByteArray) (D : DataW Unit) (c : Bool), Maps.IsMap D → D.atKey (.string t.data.toList) (.lit (.bool false)) = .lit (.bool c) →
    (l.foldl (fun D s => D.put (.string s.data.toList) (.lit (.bool true))) D).atKey (.string t.data.toList) (.lit (.bool false)) = .lit (.bool (c || l.any fun s => s.data.toList == t.data.toList))
  | [], D, c, h, e => by simpa using e
  | s :: l, D, c, h, e => by
    rw [List.foldl_cons, List.any_cons]
    by_cases hs : s.data.toList = t.data.toList
    · rw [seenD_at t l _ true (h.put _ _) (by rw [hs]; exact Maps.atKey_put_same h (by trivial) _ _)]
      simp [hs]
    · rw [seenD_at t l _ c (h.put _ _) (by rw [Maps.atKey_put_other (fun e => hs (by simpa using e.symm))]; exact e)]
      have : (s.data.toList == t.data.toList) = false := by simpa using hs
      simp [this]
def seenB (l : List ByteArray) (t : ByteArray) : Bool := l.any fun s => s.data.toList == t.data.toList
theorem seen_is (l : List ByteArray) (t : ByteArray) : (seenD l).atKey (.string t.data.toList) (.lit (.bool false)) = .lit (.bool (seenB l t)) := by
  have := seenD_at t l (.map []) false Maps.isMap_empty rfl
  rw [Bool.false_or] at this
  exact this
/-- Is the j-th one right: a name, that has not been? -/
def okAt (ss : List ByteArray) (j : Nat) : Bool := !seenB (ss.take j) (strAt ss j) && nameB (strAt ss j)
def namesB (ss : List ByteArray) : Bool := (List.range ss.length).all (okAt ss)
theorem names_first (ss : List ByteArray) : (namesB ss = true ∧ ∀ i, i < ss.length → okAt ss i = true) ∨ (namesB ss = false ∧ ∃ j, j < ss.length ∧ okAt ss j = false ∧ ∀ i, i < j → okAt ss i = true) := by
  cases h : namesB ss with
  | true =>
    refine .inl ⟨rfl, fun i hi => ?_⟩
    unfold namesB at h
    rw [List.all_eq_true] at h
    exact h i (List.mem_range.2 hi)
  | false =>
    refine .inr ⟨rfl, ?_⟩
    have hx : ∃ j, j < ss.length ∧ okAt ss j = false := by
      unfold namesB at h
      rw [List.all_eq_false] at h
      obtain ⟨j, hj, hn⟩ := h
      exact ⟨j, List.mem_range.1 hj, by simpa using hn⟩
    obtain ⟨j, hj, hn⟩ := hx
    induction j using Nat.strongRecOn with
    | _ j ih =>
      by_cases hlow : ∃ i, i < j ∧ okAt ss i = false
      · obtain ⟨i, hi, hni⟩ := hlow
        exact ih i hi (by omega) hni
      · exact ⟨j, hj, hn, fun i hi => by
          cases ho : okAt ss i with
          | true => rfl
          | false => exact absurd ⟨i, hi, ho⟩ hlow⟩

theorem zeroB (w : World) : (zeroValue 4).run Try.prog w = .ok (.bool false) w := by kernel_rfl

set_option maxHeartbeats 1000000 in
/-- The walk up to the j-th one, which is the end, or the first wrong one. -/
theorem areNames_to (v : Value) (ss : List ByteArray) (w : World) (hv : StrsAt w v ss) (hl : ss.length ≤ 1000000) (hs : ∀ s ∈ ss, s.size ≤ 9223372036854775807) (j : Nat) (hj : j ≤ ss.length) (hpre : ∀ i, i < j → okAt ss i = true) (hat : j < ss.length → okAt ss j = false) :
    Calls Try.prog 48 #[v] w fun e w' => e = .returned (.bool (decide (j = ss.length))) ∧ Below w.heap.size w w' := by
  obtain ⟨ao, cap, rfl, hA⟩ := hv
  have HA := hid hA; have HPRE := hid hpre; have HAT := hid hat
  have HZ := hid (fun k (hk : k < ss.length) => hs (strAt ss k) (by unfold strAt; rw [List.getElem?_eq_getElem hk]; exact List.getElem_mem _))
  have HTK := hid (fun k (hk : k < ss.length) => (show ss.take (k + 1) = ss.take k ++ [strAt ss k] by rw [List.take_succ_eq_append_getElem hk]; unfold strAt; rw [List.getElem?_eq_getElem hk]; rfl))
  obtain ⟨M, hM⟩ : ∃ M, ss.length = M := ⟨_, rfl⟩
  have HM := hid hM
  rw [hM] at hl hj HA HAT HZ HTK ⊢
  clear hA hpre hat hs hM
  go_enter Try.func48, Try.ntmps48
  have hmake : ∀ X, (Instr.makeMap 114 none).run Try.prog X = .ok (.map (some X.heap.size)) (X.alloc (.map #[] 0)) := fun X => by first | exact run_makeMap X _ _ _ Try.underlying114 | exact run_makeMap _ _ | rfl
  go_wp2
  go_loopw [9] (fun i wr => ∃ k : Nat, k ≤ j ∧ i = .int .i64 k ∧ wr.ownsMap Try.prog 9 (plainElem (H := Unit) Try.prog 4) w.heap.size k (seenD (ss.take k)) ∧ Below w.heap.size w wr) (fun i _ => M - (intOf i).toNat)
  case atStart => exact ⟨0, Nat.zero_le _, rfl, World.ownsMap_made w _ _ _, by (repeat' (first | (with_reducible exact Below.refl _ _) | (with_reducible assumption) | (with_reducible refine Below.new ?_ _) | (with_reducible refine Below.alloc ?_ ?_ _) | (with_reducible refine Below.drew ?_) | (with_reducible refine Below.setCell ?_ ?_ _) | (refine Below.step ?_ (by assumption)) | go_size))⟩
  case round =>
    obtain ⟨k, hk, rfl, hmap, hbel⟩ := hrel
    have hz := hbel.size
    by_cases hkM : k < M
    · obtain ⟨b, o, rfl, hc⟩ := HA.out (by omega)
      have e0 := cell_step (hc k hkM) hbel
      have hsz := HZ.out k hkM
      have htk := HTK.out k hkM
      obtain ⟨s, hse⟩ : ∃ s, strAt ss k = s := ⟨_, rfl⟩
      have hse' : ss[k]?.getD { data := #[] } = s := hse
      rw [hse] at hsz htk
      rw [hse'] at e0
      have hkey : keyOf Try.prog 9 (.string s) = some (.string s.data.toList) := WideMaps.keyOf_string_mk Try.underlying9 (by unfold maxLen; omega)
      have hsn := seen_is (ss.take k) s
      have hokk : okAt ss k = (!seenB (ss.take k) s && nameB s) := by unfold okAt; rw [hse]
      have hml := hmap.lt
      have HTK1 := hid htk; have HSN := hid hsn; have HOK := hid hokk; have HKEY := hid hkey; have HMAP := hid hmap
      have HN := hid (fun W => isName_any s W hsz)
      clear hc hse hse' htk hsn hokk hkey
      by_cases hkj : k < j
      · have h1 := HPRE.out k hkj
        rw [HOK.out] at h1
        simp only [Bool.and_eq_true, Bool.not_eq_true'] at h1
        obtain ⟨hs1, hn1⟩ := h1
        rw [hn1] at HN
        have HS1 := hid hs1
        clear hs1 hn1
        go_wp2_with (first
          | (at_lookup; go_loud (refine wpList_lookup_own_bool _ rfl _ _ 114 rfl 9 4 (Maps.string_keyed Try.underlying9) Try.underlying114 Try.underlying4 (zeroB _) w.heap.size k (seenD (ss.take k)) rfl HMAP.out _ (.string s.data.toList) rfl HKEY.out ?_; intro c hc; rw [HSN.out, HS1.out] at hc; simp only [DataW.lit.injEq, Lit.bool.injEq] at hc; subst hc))
          | (go_at_call 81; ((with_reducible refine (HN.out _).mono ?_); rintro e w2 ⟨rfl, hb2⟩; have hmap2 := hid (HMAP.out.kept (row := none) ⟨hb2.os, hb2.tape, hb2.output, hb2.size, fun i hi _ => hb2.block i hi⟩ (by simp)); have hz2 := hb2.size))
          | (at_mapUpdate; go_loud (refine wpList_mapUpdate_own _ rfl _ _ _ 114 rfl 9 4 (Maps.string_keyed Try.underlying9) Try.underlying114 _ w.heap.size k (seenD (ss.take k)) rfl hmap2.out (by unfold maxLen; omega) _ _ (.string s.data.toList) rfl rfl HKEY.out (.lit (.bool true)) [] (plainElem_bool Try.underlying4 true) ?_); intro w3 hown3 hg3))
        go_roundw
        case rel => exact ⟨k + 1, by omega, by go_num, by rw [HTK1.out, seenD_snoc]; exact hown3, (hbel.step hb2).grown hg3 (by omega) (fun r e => by cases e; exact Nat.le_refl _)⟩
        case measure => simp [intOf]; omega
      · obtain rfl : k = j := by omega
        have h1 := HAT.out hkM
        rw [HOK.out] at h1
        have hdec : decide (k = M) = false := by simp; omega
        cases hsb : seenB (ss.take k) s with
        | true =>
          have HS1 := hid hsb
          clear hsb h1
          go_wp2_with (first
          | (at_lookup; go_loud (refine wpList_lookup_own_bool _ rfl _ _ 114 rfl 9 4 (Maps.string_keyed Try.underlying9) Try.underlying114 Try.underlying4 (zeroB _) w.heap.size k (seenD (ss.take k)) rfl HMAP.out _ (.string s.data.toList) rfl HKEY.out ?_; intro c hc; rw [HSN.out, HS1.out] at hc; simp only [DataW.lit.injEq, Lit.bool.injEq] at hc; subst hc))
          | (go_at_call 81; ((with_reducible refine (HN.out _).mono ?_); rintro e w2 ⟨rfl, hb2⟩)))
          go_ret
          exact ⟨ret_bool (by simp [hdec]), by (repeat' (first | (with_reducible exact Below.refl _ _) | (with_reducible assumption) | (with_reducible refine Below.new ?_ _) | (with_reducible refine Below.alloc ?_ ?_ _) | (with_reducible refine Below.drew ?_) | (with_reducible refine Below.setCell ?_ ?_ _) | (refine Below.step ?_ (by assumption)) | go_size))⟩
        | false =>
          have hn1 : nameB s = false := by rw [hsb] at h1; simpa using h1
          rw [hn1] at HN
          have HS1 := hid hsb
          clear hsb h1 hn1
          go_wp2_with (first
          | (at_lookup; go_loud (refine wpList_lookup_own_bool _ rfl _ _ 114 rfl 9 4 (Maps.string_keyed Try.underlying9) Try.underlying114 Try.underlying4 (zeroB _) w.heap.size k (seenD (ss.take k)) rfl HMAP.out _ (.string s.data.toList) rfl HKEY.out ?_; intro c hc; rw [HSN.out, HS1.out] at hc; simp only [DataW.lit.injEq, Lit.bool.injEq] at hc; subst hc))
          | (go_at_call 81; ((with_reducible refine (HN.out _).mono ?_); rintro e w2 ⟨rfl, hb2⟩)))
          go_ret
          exact ⟨ret_bool (by simp [hdec]), by (repeat' (first | (with_reducible exact Below.refl _ _) | (with_reducible assumption) | (with_reducible refine Below.new ?_ _) | (with_reducible refine Below.alloc ?_ ?_ _) | (with_reducible refine Below.drew ?_) | (with_reducible refine Below.setCell ?_ ?_ _) | (refine Below.step ?_ (by assumption)) | go_size))⟩
    · obtain rfl : k = M := by omega
      obtain rfl : k = j := by omega
      have hdec : decide (k = k) = true := by simp
      have HMAP := hid hmap
      clear hmap
      go_wp2
      go_ret
      exact ⟨ret_bool (by simp), by (repeat' (first | (with_reducible exact Below.refl _ _) | (with_reducible assumption) | (with_reducible refine Below.new ?_ _) | (with_reducible refine Below.alloc ?_ ?_ _) | (with_reducible refine Below.drew ?_) | (with_reducible refine Below.setCell ?_ ?_ _) | (refine Below.step ?_ (by assumption)) | go_size))⟩
theorem areNames_any (v : Value) (ss : List ByteArray) (w : World) (hv : StrsAt w v ss) (hl : ss.length ≤ 1000000) (hs : ∀ s ∈ ss, s.size ≤ 9223372036854775807) :
    Calls Try.prog 48 #[v] w fun e w' => e = .returned (.bool (namesB ss)) ∧ Below w.heap.size w w' := by
  rcases names_first ss with ⟨h1, h2⟩ | ⟨h1, j, hj, h2, h3⟩
  · have := areNames_to v ss w hv hl hs ss.length (Nat.le_refl _) h2 (fun h => absurd h (Nat.lt_irrefl _))
    rw [h1]
    simpa using this
  · have := areNames_to v ss w hv hl hs j (by omega) h3 (fun _ => h2)
    rw [h1]
    have hd : decide (j = ss.length) = false := by simp; omega
    rw [hd] at this
    exact this
end Go.Proofs.Ytdgeinipdphoeaa
