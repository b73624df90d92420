/- Texts joined: SchB, SchC, SchD, OpenA, Same, OpenB, Mem, SchE, SchF. -/
import Derived.Test.YtdgeinipdphoeaaDoorHc
import Derived.Maps.Views
import Derived.StringKeys
import Derived.Lib.AppendZeros
import Derived.Test.YtdgeinipdphoeaaDoorHa
import Derived.SizedLaws
import Derived.Lib.SmallJoins
import Derived.ChangeMaps5
import Derived.Deep.QuietTactic
import Derived.BigQuiet
import Derived.ChangeSlices
import Derived.Laws.AppendOwnNone
/- Schemas: the program's 'areNames'. -/
namespace Go.Proofs.YtdgeinipdphoeaaDoor
set_option linter.unusedVariables false
set_option linter.unusedSimpArgs false
open Go.ChangeShapes Go.WideShapes Go.ChangeAt Go.RowKit
open Go.Maps (Keyed)

/-- A slice value of strings in memory. -/
def StrsAt (w : World) (v : Value) (ss : List ByteArray) : Prop :=
  ∃ ao cap, v = .slice ao ss.length cap ∧ (0 < ss.length → ∃ b off, ao = some ⟨b, off, none⟩ ∧ ∀ j, j < ss.length → w.cell? ⟨b, off + j, none⟩ = some (.string (ss[j]?.getD { data := #[] })))
abbrev strAt (ss : List ByteArray) (j : Nat) : ByteArray := ss[j]?.getD { data := #[] }
/-- The names so far. -/
def seenD (l : List ByteArray) : DataW Unit := l.foldl (fun D s => D.put (.string s.data.toList) (.lit (.bool true))) (.map [])
theorem seenD_snoc (l : List ByteArray) (s : ByteArray) : seenD (l ++ [s]) = (seenD l).put (.string s.data.toList) (.lit (.bool true)) := by simp [seenD]
theorem fold_isMap : ∀ (l : List ByteArray) (D : DataW Unit), Maps.IsMap D → Maps.IsMap (l.foldl (fun D s => D.put (.string s.data.toList) (.lit (.bool true))) D)
  | [], _, h => h
  | s :: l, D, h => fold_isMap l _ (h.put _ _)
theorem seenD_at (t : ByteArray) : ∀ (l : List ByteArray) (D : DataW Unit) (c : Bool), Maps.IsMap D → D.atKey (.string t.data.toList) (.lit (.bool false)) = .lit (.bool c) →
    (l.foldl (fun D s => D.put (.string s.data.toList) (.lit (.bool true))) D).atKey (.string t.data.toList) (.lit (.bool false)) = .lit (.bool (c || l.any fun s => s.data.toList == t.data.toList))
  | [], D, c, h, e => by simpa using e
  | s :: l, D, c, h, e => by
    rw [List.foldl_cons, List.any_cons]
    by_cases hs : s.data.toList = t.data.toList
    · rw [seenD_at t l _ true (h.put _ _) (by rw [hs]; exact Maps.atKey_put_same h (by trivial) _ _)]
      simp [hs]
    · rw [seenD_at t l _ c (h.put _ _) (by rw [Maps.atKey_put_other (fun e => hs (by simpa using e.symm))]; exact e)]
      have : (s.data.toList == t.data.toList) = false := by simpa using hs
      simp [this]
def seenB (l : List ByteArray) (t : ByteArray) : Bool := l.any fun s => s.data.toList == t.data.toList
theorem seen_is (l : List ByteArray) (t : ByteArray) : (seenD l).atKey (.string t.data.toList) (.lit (.bool false)) = .lit (.bool (seenB l t)) := by
  have := seenD_at t l (.map []) false Maps.isMap_empty rfl
  rw [Bool.false_or] at this
  exact this
/-- Is the j-th one right: a name, that has not been? -/
def okAt (ss : List ByteArray) (j : Nat) : Bool := !seenB (ss.take j) (strAt ss j) && nameB (strAt ss j)
def namesB (ss : List ByteArray) : Bool := (List.range ss.length).all (okAt ss)
theorem names_first (ss : List ByteArray) : (namesB ss = true ∧ ∀ i, i < ss.length → okAt ss i = true) ∨ (namesB ss = false ∧ ∃ j, j < ss.length ∧ okAt ss j = false ∧ ∀ i, i < j → okAt ss i = true) := by
  cases h : namesB ss with
  | true =>
    refine .inl ⟨rfl, fun i hi => ?_⟩
    unfold namesB at h
    rw [List.all_eq_true] at h
    exact h i (List.mem_range.2 hi)
  | false =>
    refine .inr ⟨rfl, ?_⟩
    have hx : ∃ j, j < ss.length ∧ okAt ss j = false := by
      unfold namesB at h
      rw [List.all_eq_false] at h
      obtain ⟨j, hj, hn⟩ := h
      exact ⟨j, List.mem_range.1 hj, by simpa using hn⟩
    obtain ⟨j, hj, hn⟩ := hx
    induction j using Nat.strongRecOn with
    | _ j ih =>
      by_cases hlow : ∃ i, i < j ∧ okAt ss i = false
      · obtain ⟨i, hi, hni⟩ := hlow
        exact ih i hi (by omega) hni
      · exact ⟨j, hj, hn, fun i hi => by
          cases ho : okAt ss i with
          | true => rfl
          | false => exact absurd ⟨i, hi, ho⟩ hlow⟩

theorem zeroB (w : World) : (zeroValue 4).run Tryd.prog w = .ok (.bool false) w := by kernel_rfl

set_option maxHeartbeats 1000000 in
/-- The walk up to the j-th one, which is the end, or the first wrong one. -/
theorem areNames_to (v : Value) (ss : List ByteArray) (w : World) (hv : StrsAt w v ss) (hl : ss.length ≤ 1000000) (hs : ∀ s ∈ ss, s.size ≤ 9223372036854775807) (j : Nat) (hj : j ≤ ss.length) (hpre : ∀ i, i < j → okAt ss i = true) (hat : j < ss.length → okAt ss j = false) :
    Calls Tryd.prog 34 #[v] w fun e w' => e = .returned (.bool (decide (j = ss.length))) ∧ Below w.heap.size w w' := by
  obtain ⟨ao, cap, rfl, hA⟩ := hv
  have HA := hid hA; have HPRE := hid hpre; have HAT := hid hat
  have HZ := hid (fun k (hk : k < ss.length) => hs (strAt ss k) (by unfold strAt; rw [List.getElem?_eq_getElem hk]; exact List.getElem_mem _))
  have HTK := hid (fun k (hk : k < ss.length) => (show ss.take (k + 1) = ss.take k ++ [strAt ss k] by rw [List.take_succ_eq_append_getElem hk]; unfold strAt; rw [List.getElem?_eq_getElem hk]; rfl))
  obtain ⟨M, hM⟩ : ∃ M, ss.length = M := ⟨_, rfl⟩
  have HM := hid hM
  rw [hM] at hl hj HA HAT HZ HTK ⊢
  clear hA hpre hat hs hM
  go_enter Tryd.func34, Tryd.ntmps34
  have hmake : ∀ X, (Instr.makeMap 88 none).run Tryd.prog X = .ok (.map (some X.heap.size)) (X.alloc (.map #[] 0)) := fun X => by first | exact run_makeMap X _ _ _ Tryd.underlying88 | exact run_makeMap _ _ | rfl
  go_wp2
  go_loopw [9] (fun i wr => ∃ k : Nat, k ≤ j ∧ i = .int .i64 k ∧ wr.ownsMap Tryd.prog 9 (plainElem (H := Unit) Tryd.prog 4) w.heap.size k (seenD (ss.take k)) ∧ Below w.heap.size w wr) (fun i _ => M - (intOf i).toNat)
  case atStart => exact ⟨0, Nat.zero_le _, rfl, World.ownsMap_made w _ _ _, by (repeat' (first | (with_reducible exact Below.refl _ _) | (with_reducible assumption) | (with_reducible refine Below.new ?_ _) | (with_reducible refine Below.alloc ?_ ?_ _) | (with_reducible refine Below.drew ?_) | (with_reducible refine Below.drewN ?_ _) | (with_reducible refine Below.setCell ?_ ?_ _) | (refine Below.step ?_ (by assumption)) | go_size))⟩
  case round =>
    obtain ⟨k, hk, rfl, hmap, hbel⟩ := hrel
    have hz := hbel.size
    by_cases hkM : k < M
    · obtain ⟨b, o, rfl, hc⟩ := HA.out (by omega)
      have e0 := cell_step (hc k hkM) hbel
      have hsz := HZ.out k hkM
      have htk := HTK.out k hkM
      obtain ⟨s, hse⟩ : ∃ s, strAt ss k = s := ⟨_, rfl⟩
      have hse' : ss[k]?.getD { data := #[] } = s := hse
      rw [hse] at hsz htk
      rw [hse'] at e0
      have hkey : keyOf Tryd.prog 9 (.string s) = some (.string s.data.toList) := WideMaps.keyOf_string_mk Tryd.underlying9 (by unfold maxLen; omega)
      have hsn := seen_is (ss.take k) s
      have hokk : okAt ss k = (!seenB (ss.take k) s && nameB s) := by unfold okAt; rw [hse]
      have hml := hmap.lt
      have HTK1 := hid htk; have HSN := hid hsn; have HOK := hid hokk; have HKEY := hid hkey; have HMAP := hid hmap
      have HN := hid (fun W => isName_any s W hsz)
      clear hc hse hse' htk hsn hokk hkey
      by_cases hkj : k < j
      · have h1 := HPRE.out k hkj
        rw [HOK.out] at h1
        simp only [Bool.and_eq_true, Bool.not_eq_true'] at h1
        obtain ⟨hs1, hn1⟩ := h1
        rw [hn1] at HN
        have HS1 := hid hs1
        clear hs1 hn1
        go_wp2_with (first
          | (at_lookup; go_loud (refine wpList_lookup_own_bool _ rfl _ _ 88 rfl 9 4 (Maps.string_keyed Tryd.underlying9) Tryd.underlying88 Tryd.underlying4 (zeroB _) w.heap.size k (seenD (ss.take k)) rfl HMAP.out _ (.string s.data.toList) rfl HKEY.out ?_; intro c hc; rw [HSN.out, HS1.out] at hc; simp only [DataW.lit.injEq, Lit.bool.injEq] at hc; subst hc))
          | (go_at_call 45; ((with_reducible refine (HN.out _).mono ?_); rintro e w2 ⟨rfl, hb2⟩; have hmap2 := hid (HMAP.out.kept (row := none) ⟨hb2.os, hb2.tape, hb2.output, hb2.size, fun i hi _ => hb2.block i hi⟩ (by simp)); have hz2 := hb2.size))
          | (at_mapUpdate; go_loud (refine wpList_mapUpdate_own _ rfl _ _ _ 88 rfl 9 4 (Maps.string_keyed Tryd.underlying9) Tryd.underlying88 _ w.heap.size k (seenD (ss.take k)) rfl hmap2.out (by unfold maxLen; omega) _ _ (.string s.data.toList) rfl rfl HKEY.out (.lit (.bool true)) [] (plainElem_bool Tryd.underlying4 true) ?_); intro w3 hown3 hg3))
        go_roundw
        case rel => exact ⟨k + 1, by omega, by go_num, by rw [HTK1.out, seenD_snoc]; exact hown3, (hbel.step hb2).grown hg3 (by omega) (fun r e => by cases e; exact Nat.le_refl _)⟩
        case measure => simp [intOf]; omega
      · obtain rfl : k = j := by omega
        have h1 := HAT.out hkM
        rw [HOK.out] at h1
        have hdec : decide (k = M) = false := by simp; omega
        cases hsb : seenB (ss.take k) s with
        | true =>
          have HS1 := hid hsb
          clear hsb h1
          go_wp2_with (first
          | (at_lookup; go_loud (refine wpList_lookup_own_bool _ rfl _ _ 88 rfl 9 4 (Maps.string_keyed Tryd.underlying9) Tryd.underlying88 Tryd.underlying4 (zeroB _) w.heap.size k (seenD (ss.take k)) rfl HMAP.out _ (.string s.data.toList) rfl HKEY.out ?_; intro c hc; rw [HSN.out, HS1.out] at hc; simp only [DataW.lit.injEq, Lit.bool.injEq] at hc; subst hc))
          | (go_at_call 45; ((with_reducible refine (HN.out _).mono ?_); rintro e w2 ⟨rfl, hb2⟩)))
          go_ret
          exact ⟨ret_bool (by simp [hdec]), by (repeat' (first | (with_reducible exact Below.refl _ _) | (with_reducible assumption) | (with_reducible refine Below.new ?_ _) | (with_reducible refine Below.alloc ?_ ?_ _) | (with_reducible refine Below.drew ?_) | (with_reducible refine Below.drewN ?_ _) | (with_reducible refine Below.setCell ?_ ?_ _) | (refine Below.step ?_ (by assumption)) | go_size))⟩
        | false =>
          have hn1 : nameB s = false := by rw [hsb] at h1; simpa using h1
          rw [hn1] at HN
          have HS1 := hid hsb
          clear hsb h1 hn1
          go_wp2_with (first
          | (at_lookup; go_loud (refine wpList_lookup_own_bool _ rfl _ _ 88 rfl 9 4 (Maps.string_keyed Tryd.underlying9) Tryd.underlying88 Tryd.underlying4 (zeroB _) w.heap.size k (seenD (ss.take k)) rfl HMAP.out _ (.string s.data.toList) rfl HKEY.out ?_; intro c hc; rw [HSN.out, HS1.out] at hc; simp only [DataW.lit.injEq, Lit.bool.injEq] at hc; subst hc))
          | (go_at_call 45; ((with_reducible refine (HN.out _).mono ?_); rintro e w2 ⟨rfl, hb2⟩)))
          go_ret
          exact ⟨ret_bool (by simp [hdec]), by (repeat' (first | (with_reducible exact Below.refl _ _) | (with_reducible assumption) | (with_reducible refine Below.new ?_ _) | (with_reducible refine Below.alloc ?_ ?_ _) | (with_reducible refine Below.drew ?_) | (with_reducible refine Below.drewN ?_ _) | (with_reducible refine Below.setCell ?_ ?_ _) | (refine Below.step ?_ (by assumption)) | go_size))⟩
    · obtain rfl : k = M := by omega
      obtain rfl : k = j := by omega
      have hdec : decide (k = k) = true := by simp
      have HMAP := hid hmap
      clear hmap
      go_wp2
      go_ret
      exact ⟨ret_bool (by simp), by (repeat' (first | (with_reducible exact Below.refl _ _) | (with_reducible assumption) | (with_reducible refine Below.new ?_ _) | (with_reducible refine Below.alloc ?_ ?_ _) | (with_reducible refine Below.drew ?_) | (with_reducible refine Below.drewN ?_ _) | (with_reducible refine Below.setCell ?_ ?_ _) | (refine Below.step ?_ (by assumption)) | go_size))⟩
theorem areNames_any (v : Value) (ss : List ByteArray) (w : World) (hv : StrsAt w v ss) (hl : ss.length ≤ 1000000) (hs : ∀ s ∈ ss, s.size ≤ 9223372036854775807) :
    Calls Tryd.prog 34 #[v] w fun e w' => e = .returned (.bool (namesB ss)) ∧ Below w.heap.size w w' := by
  rcases names_first ss with ⟨h1, h2⟩ | ⟨h1, j, hj, h2, h3⟩
  · have := areNames_to v ss w hv hl hs ss.length (Nat.le_refl _) h2 (fun h => absurd h (Nat.lt_irrefl _))
    rw [h1]
    simpa using this
  · have := areNames_to v ss w hv hl hs j (by omega) h3 (fun _ => h2)
    rw [h1]
    have hd : decide (j = ss.length) = false := by simp; omega
    rw [hd] at this
    exact this
end Go.Proofs.YtdgeinipdphoeaaDoor
/- Schemas: small functions: 'within', and which values are right, the program's and the reference's. -/
namespace Go.Proofs.YtdgeinipdphoeaaDoor
set_option linter.unusedVariables false
set_option linter.unusedSimpArgs false
open Go.ChangeShapes Go.WideShapes Go.ChangeAt Go.RowKit

theorem within_any (n a b : Int) (w : World) : Calls Tryd.prog 33 #[.int .i64 n, .int .i64 a, .int .i64 b] w fun e w' => e = .returned (.bool (decide (a ≤ n ∧ n ≤ b))) ∧ w = w' := by
  by_cases h1 : a ≤ n
  · by_cases h2 : n ≤ b
    · go_enter Tryd.func33, Tryd.ntmps33
      go_wp2
      go_ret
      exact ⟨ret_bool (by simp [h1, h2]), rfl⟩
    · go_enter Tryd.func33, Tryd.ntmps33
      go_wp2
      go_ret
      exact ⟨ret_bool (by simp [h1, h2]), rfl⟩
  · go_enter Tryd.func33, Tryd.ntmps33
    go_wp2
    go_ret
    exact ⟨ret_bool (by simp; intro h; omega), rfl⟩
/-- Is a value right? -/
def isValB (s : ByteArray) (nl : Bool) : Bool := decide (s.size ≤ 100) && (!nl || decide (s.size = 0))
theorem refValue_any (s : ByteArray) (hs : s.size ≤ 9223372036854775807) (nl : Bool) (w : World) : Calls Tryd.prog 39 #[.agg #[.string s, .bool nl]] w fun e w' => e = .returned (.bool (isValB s nl)) ∧ Below w.heap.size w w' := by
  have he : s.toList.isEmpty = decide (s.size = 0) := by
    rw [ByteArray.toList_eq]
    cases h : s.data.toList with
    | nil => have : s.size = 0 := by (show s.data.size = 0); rw [← Array.length_toList, h]; rfl
             simp [this]
    | cons a l => have : s.size = l.length + 1 := by (show s.data.size = _); rw [← Array.length_toList, h]; rfl
                  simp [this]
  by_cases h1 : s.size ≤ 100
  · cases nl with
    | false =>
      go_enter Tryd.func39, Tryd.ntmps39
      go_wp2
      go_ret
      exact ⟨ret_bool (by simp [isValB, h1]), by (repeat' (first | (with_reducible exact Below.refl _ _) | (with_reducible assumption) | (with_reducible refine Below.new ?_ _) | (with_reducible refine Below.alloc ?_ ?_ _) | (with_reducible refine Below.drew ?_) | (with_reducible refine Below.drewN ?_ _) | (with_reducible refine Below.setCell ?_ ?_ _) | (refine Below.step ?_ (by assumption)) | go_size))⟩
    | true =>
      by_cases h2 : s.size = 0
      · have he2 : s.toList.isEmpty = true := by simp [he, h2]
        clear he
        go_enter Tryd.func39, Tryd.ntmps39
        go_wp2
        go_ret
        exact ⟨ret_bool (by simp [isValB, h2]), by (repeat' (first | (with_reducible exact Below.refl _ _) | (with_reducible assumption) | (with_reducible refine Below.new ?_ _) | (with_reducible refine Below.alloc ?_ ?_ _) | (with_reducible refine Below.drew ?_) | (with_reducible refine Below.drewN ?_ _) | (with_reducible refine Below.setCell ?_ ?_ _) | (refine Below.step ?_ (by assumption)) | go_size))⟩
      · have he2 : s.toList.isEmpty = false := by simp [he, h2]
        clear he
        go_enter Tryd.func39, Tryd.ntmps39
        go_wp2
        go_ret
        exact ⟨ret_bool (by simp [isValB, h2]), by (repeat' (first | (with_reducible exact Below.refl _ _) | (with_reducible assumption) | (with_reducible refine Below.new ?_ _) | (with_reducible refine Below.alloc ?_ ?_ _) | (with_reducible refine Below.drew ?_) | (with_reducible refine Below.drewN ?_ _) | (with_reducible refine Below.setCell ?_ ?_ _) | (refine Below.step ?_ (by assumption)) | go_size))⟩
  · go_enter Tryd.func39, Tryd.ntmps39
    go_wp2
    go_ret
    exact ⟨ret_bool (by simp [isValB, h1]), by (repeat' (first | (with_reducible exact Below.refl _ _) | (with_reducible assumption) | (with_reducible refine Below.new ?_ _) | (with_reducible refine Below.alloc ?_ ?_ _) | (with_reducible refine Below.drew ?_) | (with_reducible refine Below.drewN ?_ _) | (with_reducible refine Below.setCell ?_ ?_ _) | (refine Below.step ?_ (by assumption)) | go_size))⟩
theorem isValue_any (s : ByteArray) (hs : s.size ≤ 9223372036854775807) (nl : Bool) (w : World) : Calls Tryd.prog 31 #[.agg #[.string s, .bool nl]] w fun e w' => e = .returned (.bool (isValB s nl)) ∧ Below w.heap.size w w' := by
  have he : s.toList.isEmpty = decide (s.size = 0) := by
    rw [ByteArray.toList_eq]
    cases h : s.data.toList with
    | nil => have : s.size = 0 := by (show s.data.size = 0); rw [← Array.length_toList, h]; rfl
             simp [this]
    | cons a l => have : s.size = l.length + 1 := by (show s.data.size = _); rw [← Array.length_toList, h]; rfl
                  simp [this]
  cases nl with
  | false =>
    by_cases h1 : s.size ≤ 100
    · go_enter Tryd.func31, Tryd.ntmps31
      go_wp2
      all_goals (go_ret; exact ⟨ret_bool (by simp [isValB, h1]; try omega), by (repeat' (first | (with_reducible exact Below.refl _ _) | (with_reducible assumption) | (with_reducible refine Below.new ?_ _) | (with_reducible refine Below.alloc ?_ ?_ _) | (with_reducible refine Below.drew ?_) | (with_reducible refine Below.drewN ?_ _) | (with_reducible refine Below.setCell ?_ ?_ _) | (refine Below.step ?_ (by assumption)) | go_size))⟩)
    · go_enter Tryd.func31, Tryd.ntmps31
      go_wp2
      all_goals (go_ret; exact ⟨ret_bool (by simp [isValB, h1]; try omega), by (repeat' (first | (with_reducible exact Below.refl _ _) | (with_reducible assumption) | (with_reducible refine Below.new ?_ _) | (with_reducible refine Below.alloc ?_ ?_ _) | (with_reducible refine Below.drew ?_) | (with_reducible refine Below.drewN ?_ _) | (with_reducible refine Below.setCell ?_ ?_ _) | (refine Below.step ?_ (by assumption)) | go_size))⟩)
  | true =>
    by_cases h2 : s.size = 0
    · have he2 : s.toList.isEmpty = true := by simp [he, h2]
      clear he
      go_enter Tryd.func31, Tryd.ntmps31
      go_wp2
      all_goals (go_ret; exact ⟨ret_bool (by simp [isValB, h2]), by (repeat' (first | (with_reducible exact Below.refl _ _) | (with_reducible assumption) | (with_reducible refine Below.new ?_ _) | (with_reducible refine Below.alloc ?_ ?_ _) | (with_reducible refine Below.drew ?_) | (with_reducible refine Below.drewN ?_ _) | (with_reducible refine Below.setCell ?_ ?_ _) | (refine Below.step ?_ (by assumption)) | go_size))⟩)
    · have he2 : s.toList.isEmpty = false := by simp [he, h2]
      clear he
      go_enter Tryd.func31, Tryd.ntmps31
      go_wp2
      all_goals (go_ret; exact ⟨ret_bool (by simp [isValB, h2]), by (repeat' (first | (with_reducible exact Below.refl _ _) | (with_reducible assumption) | (with_reducible refine Below.new ?_ _) | (with_reducible refine Below.alloc ?_ ?_ _) | (with_reducible refine Below.drew ?_) | (with_reducible refine Below.drewN ?_ _) | (with_reducible refine Below.setCell ?_ ?_ _) | (refine Below.step ?_ (by assumption)) | go_size))⟩)
end Go.Proofs.YtdgeinipdphoeaaDoor
/- Schemas: the library's slices.Grow at a nil slice. -/
namespace Go.Proofs.YtdgeinipdphoeaaDoor
set_option linter.unusedVariables false
set_option linter.unusedSimpArgs false
set_option maxRecDepth 100000
open Go.ChangeShapes Go.WideShapes Go.ChangeAt Go.RowKit

theorem info_string : (Tryd.prog.info? 9).map (fun i => (i.zero, i.size, i.bytes)) = some (some (.string { data := #[] }), 1, 16) := by kernel_rfl
theorem grow_zero (w : World) : Calls Tryd.prog 46 #[.slice none 0 0, .int .i64 0] w fun e w' => e = .returned (.slice none 0 0) ∧ w = w' := by
  go_enter Tryd.func46, Tryd.ntmps46
  go_wp2
  go_ret
  exact ⟨rfl, rfl⟩
theorem grow_some (n : Nat) (hn : 0 < n) (hb : n ≤ 1000000) (w : World) : Calls Tryd.prog 46 #[.slice none 0 0, .int .i64 (n : Int)] w fun e w' => ∃ v, e = .returned v ∧ w'.ownsRow w.heap.size 9 1 v 0 [] ∧ Below w.heap.size w w' := by
  obtain ⟨i0, hi, hiz0, hiz1, hiz2⟩ := info_parts info_string
  have hw : wrap64 ((n : Int) - 0) = (n : Int) := by unfold wrap64; omega
  go_enter Tryd.func46, Tryd.ntmps46
  go_wp2_with (at_builtin; go_loud (refine Lib.wpList_append_run _ rfl _ _ _ _ rfl _ _ rfl rfl _ _ (Lib.run_append_nil_zeros _ 22 3 22 9 i0 (.string { data := #[] }) .i64 .i64 Tryd.underlying22 Tryd.underlying3 hi hiz0 n hn (by omega) (by omega) (by rw [hiz2]; omega)) ?_))
  go_ret
  have hcap := grownCap_ge w n 0 9
  refine ⟨_, rfl, ⟨rfl, .inr ⟨w.heap.size, grownCap w n 0 9, _, rfl, Nat.le_refl _, (show (w.alloc _).heap[w.heap.size]? = _ from heap_at rfl), Nat.zero_le _, grownCap_le_maxLen w n 0 _ (by unfold maxLen; omega), ?_, by simp⟩⟩, by (repeat' (first | (with_reducible exact Below.refl _ _) | (with_reducible assumption) | (with_reducible refine Below.new ?_ _) | (with_reducible refine Below.alloc ?_ ?_ _) | (with_reducible refine Below.drew ?_) | (with_reducible refine Below.drewN ?_ _) | (with_reducible refine Below.setCell ?_ ?_ _) | (refine Below.step ?_ (by assumption)) | go_size))⟩
  rw [Array.size_append, size_zeroCells, size_zeroCells]
  simp [Value.cells]
  omega
theorem grow_any (n : Nat) (hb : n ≤ 1000000) (w : World) : Calls Tryd.prog 46 #[.slice none 0 0, .int .i64 (n : Int)] w fun e w' => ∃ v, e = .returned v ∧ w'.ownsRow w.heap.size 9 1 v 0 [] ∧ Below w.heap.size w w' := by
  by_cases h : n = 0
  · subst h
    exact (grow_zero w).mono fun e w' ⟨h1, h2⟩ => ⟨_, h1, World.ownsRow_nil _ _ _ _, h2 ▸ Below.refl _ _⟩
  · exact grow_some n (by omega) hb w
end Go.Proofs.YtdgeinipdphoeaaDoor
/- How arguments of the kinds that the statements of grain take are opened. -/
namespace Go.Proofs.YtdgeinipdphoeaaDoor
set_option linter.unusedVariables false
set_option linter.unusedSimpArgs false
set_option maxRecDepth 100000
open Go.ChangeShapes Go.WideShapes Go.ChangeAt Go.RowKit Go.Joins

abbrev I64 (n : Int) : Prop := -9223372036854775808 ≤ n ∧ n ≤ 9223372036854775807
abbrev U64 (n : Int) : Prop := 0 ≤ n ∧ n ≤ 18446744073709551615

theorem i64_of_wf {n : Int} (h : (Lit.int .i64 n).wf = true) : I64 n := by
  simp [Lit.wf, IntKind.min, IntKind.max, IntKind.signed, IntKind.bits] at h
  exact ⟨by omega, by omega⟩
theorem u64_of_wf {n : Int} (h : (Lit.int .u64 n).wf = true) : U64 n := by
  simp [Lit.wf, IntKind.min, IntKind.max, IntKind.signed, IntKind.bits] at h
  exact ⟨by omega, by omega⟩

section
variable {H : Type} {enc : TypeId × Value → H} {W : World} {base : Nat}
theorem open_i64 {t : TypeId} (ht : Tryd.prog.underlying t = some (.int .i64)) {v : Value} {d : DataW H} {p : List MemPlace} (hv : Value.okWide Tryd.prog W .any base t v) (h : DataW.Trod enc Tryd.prog W 0 (fun _ => true) true t v d p) :
    ∃ n, v = .int .i64 n ∧ I64 n := by
  obtain ⟨n, rfl, _, _, w⟩ := open_int ht hv h
  exact ⟨n, rfl, i64_of_wf w⟩
theorem open_u64 {t : TypeId} (ht : Tryd.prog.underlying t = some (.int .u64)) {v : Value} {d : DataW H} {p : List MemPlace} (hv : Value.okWide Tryd.prog W .any base t v) (h : DataW.Trod enc Tryd.prog W 0 (fun _ => true) true t v d p) :
    ∃ n, v = .int .u64 n ∧ U64 n := by
  obtain ⟨n, rfl, _, _, w⟩ := open_int ht hv h
  exact ⟨n, rfl, u64_of_wf w⟩
theorem open_str {t : TypeId} (ht : Tryd.prog.underlying t = some .string) {v : Value} {d : DataW H} {p : List MemPlace} (hv : Value.okWide Tryd.prog W .any base t v) (h : DataW.Trod enc Tryd.prog W 0 (fun _ => true) true t v d p) :
    ∃ s : ByteArray, v = .string s ∧ s.size ≤ 9223372036854775807 := by
  obtain ⟨s, rfl, _, _, hs⟩ := Go.ChangeMaps.open_string ht hv h
  exact ⟨s, rfl, by unfold maxLen at hs; omega⟩
end
end Go.Proofs.YtdgeinipdphoeaaDoor
/- Slices of numbers that lie in memory, read as lists; the reference's 'Same'. -/
namespace Go.Proofs.YtdgeinipdphoeaaDoor
set_option linter.unusedVariables false
set_option linter.unusedSimpArgs false
open Go.ChangeShapes Go.WideShapes Go.ChangeAt Go.RowKit

/-- The slice value v holds the numbers xs in the world w. -/
def IntsAt (w : World) (v : Value) (xs : List Int) : Prop :=
  ∃ ao cap, v = .slice ao xs.length cap ∧ (0 < xs.length → ∃ b off, ao = some ⟨b, off, none⟩ ∧ ∀ j, j < xs.length → w.cell? ⟨b, off + j, none⟩ = some (.int .i64 (xs[j]?.getD 0)))

theorem IntsAt.below {w w' : World} {v : Value} {xs : List Int} (h : IntsAt w v xs) (hb : Below w.heap.size w w') : IntsAt w' v xs := by
  obtain ⟨ao, cap, rfl, h⟩ := h
  refine ⟨ao, cap, rfl, fun hl => ?_⟩
  obtain ⟨b, off, rfl, hc⟩ := h hl
  exact ⟨b, off, rfl, fun j hj => (hb.cell (p := ⟨b, off + j, none⟩) (World.block_lt_of_cell? _ _ (hc j hj))).trans (hc j hj)⟩

theorem IntsAt.nil {w : World} (ao : Option Addr) (cap : Nat) : IntsAt w (.slice ao 0 cap) [] := ⟨ao, cap, rfl, fun h => by simp at h⟩

theorem IntsAt.own {w : World} {base : Nat} {e : TypeId} {v : Value} {xs : List Int} (h : w.ownsRow base e 1 v xs.length (xs.map (Value.int .i64))) : IntsAt w v xs := by
  rcases h.2 with ⟨rfl, h0⟩ | ⟨g, cap, cur, rfl, _⟩
  · obtain rfl : xs = [] := List.length_eq_zero_iff.1 h0
    exact IntsAt.nil _ _
  · refine ⟨_, cap, rfl, fun hl => ⟨g, 0, rfl, fun j hj => ?_⟩⟩
    have := h.cellAt j (by omega)
    rw [show (0 : Nat) + j = j from by omega, this]
    simp [hj]

/-- A literal slice of numbers. -/
theorem IntsAt.lit (w : World) (xs : List Int) (T : TypeId) (cap : Nat) : IntsAt (w.alloc (.cells (xs.map (Value.int .i64)).toArray T)) (.slice (some ⟨w.heap.size, 0, none⟩) xs.length cap) xs :=
  ⟨_, cap, rfl, fun _ => ⟨_, 0, rfl, fun j hj => by rw [World.cell?_alloc_at _ _ _ _ rfl]; simp [hj]⟩⟩

theorem take_ne_of {xs ys : List Int} (hlen : xs.length = ys.length) (k : Nat) (hk : k < xs.length) (h : ¬ xs[k]?.getD 0 = ys[k]?.getD 0) : ¬ xs = ys := fun e => h (by rw [e])
theorem take_succ_eq {xs ys : List Int} (hlen : xs.length = ys.length) (k : Nat) (hk : k < xs.length) (ht : xs.take k = ys.take k) (h : xs[k]?.getD 0 = ys[k]?.getD 0) : xs.take (k + 1) = ys.take (k + 1) := by
  have hk2 : k < ys.length := by omega
  rw [List.take_succ_eq_append_getElem hk, List.take_succ_eq_append_getElem hk2, ht]
  simp [hk, hk2] at h
  rw [h]

set_option maxHeartbeats 1000000 in
theorem same_any (va vb : Value) (xs ys : List Int) (w : World) (ha : IntsAt w va xs) (hb : IntsAt w vb ys) (hx : xs.length ≤ 1000000000) (hy : ys.length ≤ 1000000000) :
    Calls Tryd.prog 29 #[va, vb] w fun e w' => e = .returned (.bool (decide (xs = ys))) ∧ Below w.heap.size w w' := by
  obtain ⟨ao, cap, rfl, hA⟩ := ha
  obtain ⟨bo, cap', rfl, hB⟩ := hb
  by_cases hlen : xs.length = ys.length
  · have hl' := hid hlen
    rw [← hlen] at hB hy ⊢
    clear hlen
    by_cases h0 : 0 < xs.length
    · obtain ⟨a, oa, rfl, hca⟩ := hA h0
      obtain ⟨b, ob, rfl, hcb⟩ := hB h0
      clear hA hB
      have HA := hid hca; have HB := hid hcb; clear hca hcb
      go_enter Tryd.func29, Tryd.ntmps29
      go_wp2
      go_loopw [5] (fun i wr => ∃ k : Nat, k ≤ xs.length ∧ i = .int .i64 k ∧ xs.take k = ys.take k ∧ Below w.heap.size w wr) (fun i _ => xs.length - (intOf i).toNat)
      case atStart => exact ⟨0, Nat.zero_le _, rfl, rfl, Below.refl _ _⟩
      case round =>
        obtain ⟨k, hk, rfl, htake, hbel⟩ := hrel
        have HT := hid htake; clear htake
        by_cases hlt : k < xs.length
        · have e1 := HA.out k hlt
          have e2 := HB.out k hlt
          have d1 := (hbel.cell (p := ⟨a, oa + k, none⟩) (World.block_lt_of_cell? _ _ e1)).trans e1
          have d2 := (hbel.cell (p := ⟨b, ob + k, none⟩) (World.block_lt_of_cell? _ _ e2)).trans e2
          clear e1 e2
          have hk1 : xs[k]?.getD 0 = xs[k] := by simp [hlt]
          by_cases hxy : xs[k]?.getD 0 = ys[k]?.getD 0
          · have HS := hid (take_succ_eq hl'.out k hlt HT.out hxy)
            rw [← hxy] at d2
            clear hxy
            go_wp2
            go_quiet (fail)
            go_wp2
            go_roundw
            case rel => exact ⟨k + 1, hlt, by go_num, HS.out, hbel.drewN _⟩
            case measure => simp [intOf]; omega
          · have HS := hid (take_ne_of hl'.out k hlt hxy)
            have hne : (xs[k] == ys[k]?.getD 0) = false := by rw [← hk1]; simpa using hxy
            have hne2 : (xs[k] != ys[k]?.getD 0) = true := by rw [← hk1]; simpa using hxy
            clear hxy
            go_wp2
            go_quiet (fail)
            go_wp2
            go_ret
            exact ⟨ret_bool (by simp [HS.out]), hbel.drewN _⟩
        · obtain rfl : k = xs.length := by omega
          go_wp2
          go_ret
          refine ⟨ret_bool ?_, hbel⟩
          have h1 := HT.out
          rw [List.take_length, hl'.out, List.take_length] at h1
          simp [h1]
    · have h1 : xs = [] := List.length_eq_zero_iff.1 (by omega)
      have h2 : ys = [] := List.length_eq_zero_iff.1 (by have := hl'.out; omega)
      subst h1; subst h2
      clear hA hB hx hy h0
      go_enter Tryd.func29, Tryd.ntmps29
      go_wp2
      refine wp_loop_rounds 1 ?_
      rw [rounds_succ]
      go_wp2
      go_ret
      exact ⟨rfl, Below.refl _ _⟩
  · have hne : ¬ xs = ys := fun h => hlen (by rw [h])
    have hlen' : ((xs.length : Int) != (ys.length : Int)) = true := by simpa using (fun h => hlen (by exact_mod_cast h))
    have hlen'' : ((xs.length : Int) == (ys.length : Int)) = false := by simpa using (fun h => hlen (by exact_mod_cast h))
    have HN := hid hne; clear hne hA hB
    go_enter Tryd.func29, Tryd.ntmps29
    go_wp2
    go_ret
    exact ⟨ret_bool (by simp [HN.out]), Below.refl _ _⟩
end Go.Proofs.YtdgeinipdphoeaaDoor
/- How an argument that is a slice of numbers is opened. -/
namespace Go.Proofs.YtdgeinipdphoeaaDoor
set_option linter.unusedVariables false
set_option linter.unusedSimpArgs false
set_option maxRecDepth 100000
open Go.ChangeShapes Go.WideShapes Go.ChangeAt Go.RowKit Go.Joins

theorem spot_none {w : World} {a : Addr} {v : Value} (h : w.cell? a = some v) : a.spot = none := by
  unfold World.cell? at h
  split at h
  · cases hs : a.spot with
    | none => rfl
    | some s => rw [hs] at h; simp at h
  · cases h
theorem addr_at {w : World} {b o : Nat} {s : Option Nat} {n : Nat} {f : Nat → Value} (h : ∀ j, j < n → w.cell? ((⟨b, o, s⟩ : Addr).add j) = some (f j)) (h0 : 0 < n) :
    s = none ∧ ∀ j, j < n → w.cell? ⟨b, o + j, none⟩ = some (f j) := by
  have e0 := h 0 h0
  have hs : s = none := by
    have := spot_none e0
    simpa [Addr.add] using this
  subst hs
  refine ⟨rfl, fun j hj => ?_⟩
  have e := h j hj
  by_cases hq : j = 0
  · subst hq; simpa [Addr.add] using e
  · simpa [Addr.add, hq] using e

/-- A row of numbers lies at an address. -/
def RowAt (w : World) (ao : Option Addr) (xs : List Int) : Prop :=
  0 < xs.length → ∃ b off, ao = some ⟨b, off, none⟩ ∧ ∀ j, j < xs.length → w.cell? ⟨b, off + j, none⟩ = some (.int .i64 (xs[j]?.getD 0))
theorem RowAt.ints {w : World} {ao : Option Addr} {xs : List Int} (h : RowAt w ao xs) (cap : Nat) : IntsAt w (.slice ao xs.length cap) xs := ⟨ao, cap, rfl, h⟩
theorem RowAt.take {w : World} {ao : Option Addr} {xs : List Int} (h : RowAt w ao xs) (k : Nat) : RowAt w ao (xs.take k) := fun h0 => by
  obtain ⟨b, o, rfl, hc⟩ := h (by simp at h0; omega)
  refine ⟨b, o, rfl, fun j hj => ?_⟩
  simp at hj
  rw [hc j (by omega), List.getElem?_take_of_lt (by omega)]
theorem RowAt.below {w w' : World} {ao : Option Addr} {xs : List Int} (h : RowAt w ao xs) (hb : Below w.heap.size w w') : RowAt w' ao xs := fun h0 => by
  obtain ⟨b, o, rfl, hc⟩ := h h0
  exact ⟨b, o, rfl, fun j hj => (hb.cell (p := ⟨b, o + j, none⟩) (World.block_lt_of_cell? _ _ (hc j hj))).trans (hc j hj)⟩

section
variable {H : Type} {enc : TypeId × Value → H} {W : World} {base : Nat}
theorem open_ints64 {t : TypeId} (ht : Tryd.prog.underlying t = some (.slice 2)) {v : Value} {d : DataW H} {p : List MemPlace} (hv : Value.okWide Tryd.prog W .any base t v) (h : DataW.Trod enc Tryd.prog W 0 (fun _ => true) true t v d p) :
    ∃ (ao : Option Addr) (cap : Nat) (xs : List Int), v = .slice ao xs.length cap ∧ RowAt W ao xs ∧ xs.length ≤ cap ∧ cap ≤ maxLen ∧ (ao = none → cap = 0) ∧ (∀ k, k < xs.length → I64 (xs[k]?.getD 0)) := by
  obtain ⟨a0, len, cap, rfl⟩ := okWide_slice ht hv
  obtain ⟨fuel, hf⟩ := h
  rcases open_ints ht Tryd.underlying2 (by kernel_rfl) hf with ⟨hcs, hx⟩ | ⟨a, len', cap', zs, hcs, _, hl, hm, hz, hx, hcell, hwz⟩
  · simp [Value.cells] at hcs
    obtain ⟨rfl, rfl, rfl⟩ := hcs
    simp only [Prod.mk.injEq] at hx
    exact ⟨none, 0, [], rfl, fun h => by simp at h, by simp, by simp, fun _ => rfl, by simp⟩
  · simp [Value.cells] at hcs
    obtain ⟨rfl, rfl, rfl⟩ := hcs
    simp only [Prod.mk.injEq] at hx
    simp only [if_true] at hz
    have hlen : (zs.take len).length = len := by simp; omega
    have hget : ∀ j, j < len → (zs.take len)[j]?.getD 0 = zs.getD j 0 := fun j hj => by simp [List.getElem?_take, hj]
    refine ⟨some a, cap, zs.take len, by rw [hlen], fun h0 => ?_, by omega, by omega, fun h => (by cases h), fun k hk => ?_⟩
    · obtain ⟨b, o, s⟩ := a
      rw [hlen] at h0 ⊢
      obtain ⟨rfl, hc⟩ := addr_at (n := len) (f := fun j => Value.int .i64 (zs.getD j 0)) (fun j hj => hcell j (by omega)) h0
      exact ⟨b, o, rfl, fun j hj => by rw [hc j hj, hget j hj]⟩
    · rw [hlen] at hk
      rw [hget k hk]
      refine i64_of_wf (hwz _ ?_)
      rw [List.getD_eq_getElem?_getD, List.getElem?_eq_getElem (by omega)]
      simp
end
end Go.Proofs.YtdgeinipdphoeaaDoor
/- Slices that lie in memory, read as lists, whatever their elements' cells. -/
namespace Go.Proofs.YtdgeinipdphoeaaDoor
set_option linter.unusedVariables false
set_option linter.unusedSimpArgs false
open Go.ChangeShapes Go.WideShapes Go.ChangeAt Go.RowKit

/-- n elements of some cells each: the slice value v, whose cells are cs. -/
def SlAt (w : World) (v : Value) (n size : Nat) (cs : List Value) : Prop :=
  cs.length = n * size ∧ ∃ ao cap, v = .slice ao n cap ∧ n ≤ cap ∧ cap ≤ maxLen ∧ (ao = none → cap = 0) ∧
    (0 < cs.length → ∃ b off, ao = some ⟨b, off, none⟩ ∧ ∀ j u, cs[j]? = some u → w.cell? ⟨b, off + j, none⟩ = some u)
theorem SlAt.below {w w' : World} {v : Value} {n size : Nat} {cs : List Value} (h : SlAt w v n size cs) (hb : Below w.heap.size w w') : SlAt w' v n size cs := by
  obtain ⟨h0, ao, cap, rfl, h1, h2, h3, h⟩ := h
  refine ⟨h0, ao, cap, rfl, h1, h2, h3, fun hl => ?_⟩
  obtain ⟨b, off, rfl, hc⟩ := h hl
  exact ⟨b, off, rfl, fun j u hj => (hb.cell (p := ⟨b, off + j, none⟩) (World.block_lt_of_cell? _ _ (hc j u hj))).trans (hc j u hj)⟩
theorem SlAt.len {w : World} {v : Value} {n size : Nat} {cs : List Value} (h : SlAt w v n size cs) : cs.length = n * size := h.1
theorem SlAt.nil (w : World) (size : Nat) : SlAt w (.slice none 0 0) 0 size [] := ⟨by simp, none, 0, rfl, Nat.le_refl _, by simp, fun _ => rfl, fun h => by simp at h⟩
theorem SlAt.own {w : World} {base : Nat} {e : TypeId} {size : Nat} {v : Value} {n : Nat} {xs : List Value} (h : w.ownsRow base e size v n xs) : SlAt w v n size xs := by
  refine ⟨h.1, ?_⟩
  have hk := h
  rcases h.2 with ⟨rfl, h0⟩ | ⟨g, cap, cur, rfl, _, _, h3, h4, _, _⟩
  · subst h0
    exact ⟨none, 0, rfl, Nat.le_refl _, by simp, fun _ => rfl, fun hl => absurd h.1 (by simp; intro e; rw [e] at hl; simp at hl)⟩
  · refine ⟨_, cap, rfl, h3, h4, (fun h => (by cases h)), fun hl => ⟨g, 0, rfl, fun j u hj => ?_⟩⟩
    have hjl : j < xs.length := (List.getElem?_eq_some_iff.1 hj).1
    rw [show 0 + j = j from Nat.zero_add j, hk.cellAt j (by rw [← h.1]; exact hjl), hj]
/-- The first k elements. -/
theorem SlAt.take {w : World} {ao : Option Addr} {n cap size : Nat} {cs : List Value} (h : SlAt w (.slice ao n cap) n size cs) {k : Nat} (hk : k ≤ n) : SlAt w (.slice ao k cap) k size (cs.take (k * size)) := by
  obtain ⟨h0, ao', cap', e, h1, h2, h3, h⟩ := h
  simp only [Value.slice.injEq, true_and] at e
  obtain ⟨rfl, rfl⟩ := e
  have hle : k * size ≤ n * size := Nat.mul_le_mul_right size hk
  refine ⟨by simp; omega, ao, cap, rfl, by omega, h2, h3, fun hl => ?_⟩
  obtain ⟨b, off, rfl, hc⟩ := h (by simp at hl; omega)
  refine ⟨b, off, rfl, fun j u hj => hc j u ?_⟩
  have hjl : j < k * size := by have := (List.getElem?_eq_some_iff.1 hj).1; simp at this; omega
  rw [List.getElem?_take_of_lt hjl] at hj
  exact hj
theorem SlAt.parts {w : World} {ao : Option Addr} {n m cap size : Nat} {cs : List Value} (h : SlAt w (.slice ao m cap) n size cs) : m = n ∧ n ≤ cap ∧ cap ≤ maxLen ∧ (ao = none → cap = 0) ∧
    (0 < cs.length → ∃ b off, ao = some ⟨b, off, none⟩ ∧ ∀ j u, cs[j]? = some u → w.cell? ⟨b, off + j, none⟩ = some u) := by
  obtain ⟨h0, ao', cap', e, h1, h2, h3, h⟩ := h
  simp only [Value.slice.injEq] at e
  obtain ⟨rfl, rfl, rfl⟩ := e
  exact ⟨rfl, h1, h2, h3, h⟩
/-- In the form that an append asks of its source. -/
theorem SlAt.src {w : World} {b off n cap size : Nat} {s : Option Nat} {cs : List Value} (h : SlAt w (.slice (some ⟨b, off, s⟩) n cap) n size cs) : ∀ j u, cs[j]? = some u → w.cell? ((⟨b, off, s⟩ : Addr).add j) = some u := by
  intro j u hj
  obtain ⟨_, _, _, _, h⟩ := h.parts
  have hjl := (List.getElem?_eq_some_iff.1 hj).1
  obtain ⟨b', o', e, hc⟩ := h (by omega)
  simp only [Option.some.injEq, Addr.mk.injEq] at e
  obtain ⟨rfl, rfl, rfl⟩ := e
  have : (⟨b, off, none⟩ : Addr).add j = ⟨b, off + j, none⟩ := by unfold Addr.add; split <;> simp_all
  rw [this]
  exact hc j u hj
theorem SlAt.shape {w : World} {v : Value} {n size : Nat} {cs : List Value} (h : SlAt w v n size cs) : ∃ ao cap, v = .slice ao n cap ∧ n ≤ cap ∧ cap ≤ maxLen ∧ (ao = none → cap = 0) := by
  obtain ⟨_, ao, cap, e, h1, h2, h3, _⟩ := h
  exact ⟨ao, cap, e, h1, h2, h3⟩

theorem flat_len {α β : Type} (k : Nat) (f : α → List β) (hf : ∀ x, (f x).length = k) : ∀ l : List α, (l.flatMap f).length = l.length * k
  | [] => by simp
  | x :: l => by rw [List.flatMap_cons, List.length_append, hf, flat_len k f hf l, List.length_cons, Nat.succ_mul]; omega
theorem flat_at {α β : Type} (k : Nat) (f : α → List β) (hf : ∀ x, (f x).length = k) : ∀ (l : List α) (i r : Nat) (hr : r < k) (hi : i < l.length), (l.flatMap f)[i * k + r]? = (f l[i])[r]?
  | [], i, r, hr, hi => absurd hi (Nat.not_lt_zero i)
  | x :: l, 0, r, hr, hi => by
    rw [List.flatMap_cons, Nat.zero_mul, Nat.zero_add, List.getElem?_append_left (by rw [hf]; exact hr)]; rfl
  | x :: l, i + 1, r, hr, hi => by
    rw [List.flatMap_cons, List.getElem?_append_right (by rw [hf, Nat.succ_mul]; omega), hf, show (i + 1) * k + r - k = i * k + r by rw [Nat.succ_mul]; omega, flat_at k f hf l i r hr (by simpa using hi)]
    rfl
theorem flat_take {α β : Type} (k : Nat) (f : α → List β) (hf : ∀ x, (f x).length = k) : ∀ (l : List α) (m : Nat), (l.flatMap f).take (m * k) = (l.take m).flatMap f
  | [], m => by simp
  | x :: l, 0 => by simp
  | x :: l, m + 1 => by
    rw [List.flatMap_cons, List.take_succ_cons, List.flatMap_cons, List.take_append, hf, show (m + 1) * k - k = m * k by rw [Nat.succ_mul]; omega, flat_take k f hf l m, List.take_of_length_le (by rw [hf, Nat.succ_mul]; omega)]

/-- Texts. -/
abbrev strsV (ss : List ByteArray) : List Value := ss.map Value.string
def StrsSl (w : World) (v : Value) (ss : List ByteArray) : Prop := SlAt w v ss.length 1 (strsV ss)
theorem StrsSl.below {w w' : World} {v : Value} {ss : List ByteArray} (h : StrsSl w v ss) (hb : Below w.heap.size w w') : StrsSl w' v ss := SlAt.below h hb
theorem strs_one (l : List ByteArray) : ∀ u ∈ strsV l, u.oneCell' = true := by
  intro u hu
  obtain ⟨x, _, rfl⟩ := List.mem_map.1 hu
  rfl
theorem StrsSl.own {w : World} {base : Nat} {e : TypeId} {v : Value} {n : Nat} {ss : List ByteArray} (h : w.ownsRow base e 1 v n (strsV ss)) : StrsSl w v ss := by
  have := h.1
  simp at this
  subst this
  exact SlAt.own h
/-- Numbers. -/
def IntsSl (w : World) (v : Value) (xs : List Int) : Prop := SlAt w v xs.length 1 (xs.map (Value.int .i64))
theorem IntsSl.below {w w' : World} {v : Value} {xs : List Int} (h : IntsSl w v xs) (hb : Below w.heap.size w w') : IntsSl w' v xs := SlAt.below h hb
theorem IntsSl.own {w : World} {base : Nat} {e : TypeId} {v : Value} {n : Nat} {xs : List Int} (h : w.ownsRow base e 1 v n (xs.map (Value.int .i64))) : IntsSl w v xs := by
  have := h.1
  simp at this
  subst this
  exact SlAt.own h
theorem IntsSl.ints {w : World} {v : Value} {xs : List Int} (h : IntsSl w v xs) : IntsAt w v xs := by
  obtain ⟨_, ao, cap, rfl, _, _, _, h⟩ := h
  refine ⟨ao, cap, rfl, fun hl => ?_⟩
  obtain ⟨b, off, rfl, hc⟩ := h (by simpa using hl)
  refine ⟨b, off, rfl, fun j hj => hc j _ ?_⟩
  rw [List.getElem?_map, List.getElem?_eq_getElem hj]; rfl
/-- Values. -/
structure ValD where
  s : ByteArray
  nl : Bool
instance : DecidableEq ValD := fun a b => decidable_of_iff (a.s = b.s ∧ a.nl = b.nl) (by cases a; cases b; simp)
def ValD.cells (v : ValD) : List Value := [.string v.s, .bool v.nl]
theorem ValD.cells_len (v : ValD) : v.cells.length = 2 := rfl
def ValsSl (w : World) (v : Value) (l : List ValD) : Prop := SlAt w v l.length 2 (l.flatMap ValD.cells)
theorem ValsSl.below {w w' : World} {v : Value} {l : List ValD} (h : ValsSl w v l) (hb : Below w.heap.size w w') : ValsSl w' v l := SlAt.below h hb
theorem vals_one (l : List ValD) : ∀ u ∈ l.flatMap ValD.cells, u.oneCell' = true := by
  intro u hu
  obtain ⟨x, _, hx⟩ := List.mem_flatMap.1 hu
  simp [ValD.cells] at hx
  rcases hx with rfl | rfl <;> rfl
theorem ValsSl.own {w : World} {base : Nat} {e : TypeId} {v : Value} {n : Nat} {l : List ValD} (h : w.ownsRow base e 2 v n (l.flatMap ValD.cells)) : ValsSl w v l := by
  have := h.1
  rw [flat_len 2 _ ValD.cells_len] at this
  obtain rfl : l.length = n := by omega
  exact SlAt.own h
theorem vals_at {l : List ValD} {i : Nat} (hi : i < l.length) : (l.flatMap ValD.cells)[i * 2]? = some (.string l[i].s) ∧ (l.flatMap ValD.cells)[i * 2 + 1]? = some (.bool l[i].nl) :=
  ⟨(flat_at 2 _ ValD.cells_len l i 0 (by decide) hi).trans rfl, (flat_at 2 _ ValD.cells_len l i 1 (by decide) hi).trans rfl⟩
theorem ValsSl.parts {w : World} {v : Value} {l : List ValD} (h : ValsSl w v l) : ∃ ao cap, v = .slice ao l.length cap ∧ l.length ≤ cap ∧ cap ≤ maxLen ∧ (ao = none → cap = 0) ∧
    (0 < l.length → ∃ b off, ao = some ⟨b, off, none⟩ ∧ ∀ i (hi : i < l.length), w.cell? ⟨b, off + i * 2, none⟩ = some (.string l[i].s) ∧ w.cell? ⟨b, off + i * 2 + 1, none⟩ = some (.bool l[i].nl)) := by
  obtain ⟨h0, ao, cap, rfl, h1, h2, h3, h⟩ := h
  refine ⟨ao, cap, rfl, h1, h2, h3, fun hl => ?_⟩
  obtain ⟨b, off, rfl, hc⟩ := h (by rw [h0]; omega)
  exact ⟨b, off, rfl, fun i hi => ⟨hc _ _ (vals_at hi).1, hc _ _ (vals_at hi).2⟩⟩
end Go.Proofs.YtdgeinipdphoeaaDoor
/- Schemas: the library's slices.Concat of two slices of strings. -/
namespace Go.Proofs.YtdgeinipdphoeaaDoor
set_option linter.unusedVariables false
set_option linter.unusedSimpArgs false
set_option maxRecDepth 100000
open Go.ChangeShapes Go.WideShapes Go.ChangeAt Go.RowKit

set_option maxHeartbeats 2000000 in
theorem concat_ss (a1 a2 : Addr) (c1 c2 : Nat) (s1 s2 : List ByteArray) (b : Nat) (w : World) (h1 : ∀ j u, (strsV s1)[j]? = some u → w.cell? (a1.add j) = some u) (h2 : ∀ j u, (strsV s2)[j]? = some u → w.cell? (a2.add j) = some u)
    (l1 : s1.length ≤ 1000) (l2 : s2.length ≤ 1000) (e1 : w.cell? ⟨b, 0, none⟩ = some (.slice (some a1) s1.length c1)) (e2 : w.cell? ⟨b, 1, none⟩ = some (.slice (some a2) s2.length c2)) :
    Calls Tryd.prog 35 #[.slice (some ⟨b, 0, none⟩) 2 2] w fun e w' => ∃ v, e = .returned v ∧ w'.ownsRow w.heap.size 9 1 v (s1.length + s2.length) (strsV s1 ++ strsV s2) ∧ Below w.heap.size w w' := by
  obtain ⟨i0, hi, hiz0, hiz1, hiz2⟩ := info_parts info_string
  have HG := hid (fun w => grow_any (s1.length + s2.length) (by omega) w)
  have H1 := hid h1; have H2 := hid h2
  clear h1 h2
  obtain ⟨n1, hn1⟩ : ∃ n1, s1.length = n1 := ⟨_, rfl⟩
  obtain ⟨n2, hn2⟩ : ∃ n2, s2.length = n2 := ⟨_, rfl⟩
  have HN1 := hid hn1; have HN2 := hid hn2
  rw [hn1] at HG l1 e1 ⊢
  rw [hn2] at HG l2 e2 ⊢
  clear hn1 hn2
  obtain ⟨N, hN⟩ : ∃ N, n1 + n2 = N := ⟨_, rfl⟩
  rw [hN] at HG ⊢
  have hsum : ((n1 : Int) + (n2 : Int)) = (N : Int) := by omega
  go_enter Tryd.func35, Tryd.ntmps35
  go_wp2
  refine wp_loop_rounds 3 ?_
  rw [rounds_succ]
  go_wp2
  rw [rounds_succ]
  go_wp2
  rw [rounds_succ]
  go_wp2_with (go_at_call 46; go_loud ((with_reducible refine (HG.out _).mono ?_); rintro e w1 ⟨v, rfl, hown, hb1⟩; have d1 := cell_step e1 hb1; have d2 := cell_step e2 hb1; have hz1 := hb1.size))
  refine wp_loop_rounds 3 ?_
  rw [rounds_succ]
  go_wp2_with (at_builtin; go_loud (refine wpList_append_own _ rfl _ _ 22 rfl w.heap.size 9 i0 (.string { data := #[] }) 1 16 Tryd.underlying22 hi hiz0 hiz1 hiz2 rfl (by decide) _ _ _ rfl hown a1 n1 c1 (strsV s1) rfl (by simp [HN1.out]) (fun j u h => cell_step (H1.out j u h) hb1) (strs_one _) (by unfold maxLen; omega) (by omega) (by omega) ?_); intro v2 w2 hown2 hgr2 hnil2)
  have hB2 : Below w.heap.size w w2 := hb1.grown hgr2 (by omega) (fun r e => (hown.lt r e).1)
  have f2 := cell_step e2 hB2
  have hz2 := hB2.size
  rw [rounds_succ]
  go_wp2_with (at_builtin; go_loud (refine wpList_append_own _ rfl _ _ 22 rfl w.heap.size 9 i0 (.string { data := #[] }) 1 16 Tryd.underlying22 hi hiz0 hiz1 hiz2 rfl (by decide) _ _ _ rfl hown2 a2 n2 c2 (strsV s2) rfl (by simp [HN2.out]) (fun j u h => cell_step (H2.out j u h) hB2) (strs_one _) (by unfold maxLen; omega) (by omega) (by omega) ?_); intro v3 w3 hown3 hgr3 hnil3)
  have hB3 : Below w.heap.size w w3 := hB2.grown hgr3 (by omega) (fun r e => (hown2.lt r e).1)
  rw [rounds_succ]
  go_wp2
  go_ret
  exact ⟨v3, rfl, by rw [← hN]; simpa using hown3, hB3⟩
set_option maxHeartbeats 2000000 in
theorem concat_ns (a2 : Addr) (c2 : Nat) (s2 : List ByteArray) (b : Nat) (w : World) (h2 : ∀ j u, (strsV s2)[j]? = some u → w.cell? (a2.add j) = some u)
    (l2 : s2.length ≤ 1000) (e1 : w.cell? ⟨b, 0, none⟩ = some (.slice none 0 0)) (e2 : w.cell? ⟨b, 1, none⟩ = some (.slice (some a2) s2.length c2)) :
    Calls Tryd.prog 35 #[.slice (some ⟨b, 0, none⟩) 2 2] w fun e w' => ∃ v, e = .returned v ∧ w'.ownsRow w.heap.size 9 1 v s2.length (strsV s2) ∧ Below w.heap.size w w' := by
  obtain ⟨i0, hi, hiz0, hiz1, hiz2⟩ := info_parts info_string
  have HG := hid (fun w => grow_any s2.length (by omega) w)
  have H2 := hid h2
  clear h2
  obtain ⟨n2, hn2⟩ : ∃ n2, s2.length = n2 := ⟨_, rfl⟩
  have HN2 := hid hn2
  rw [hn2] at HG l2 e2 ⊢
  clear hn2
  go_enter Tryd.func35, Tryd.ntmps35
  go_wp2
  refine wp_loop_rounds 3 ?_
  rw [rounds_succ]
  go_wp2
  rw [rounds_succ]
  go_wp2
  rw [rounds_succ]
  go_wp2_with (go_at_call 46; go_loud ((with_reducible refine (HG.out _).mono ?_); rintro e w1 ⟨v, rfl, hown, hb1⟩; have d1 := cell_step e1 hb1; have d2 := cell_step e2 hb1; have hz1 := hb1.size))
  refine wp_loop_rounds 3 ?_
  rw [rounds_succ]
  go_wp2_with (at_builtin; go_loud (refine wpList_append_own_none rfl _ _ 22 rfl w.heap.size 9 i0 1 Tryd.underlying22 hi _ _ _ rfl hown rfl ?_))
  have hB2 := hb1
  have hown2 := hown
  have f2 := cell_step e2 hB2
  have hz2 := hB2.size
  rw [rounds_succ]
  go_wp2_with (at_builtin; go_loud (refine wpList_append_own _ rfl _ _ 22 rfl w.heap.size 9 i0 (.string { data := #[] }) 1 16 Tryd.underlying22 hi hiz0 hiz1 hiz2 rfl (by decide) _ _ _ rfl hown2 a2 n2 c2 (strsV s2) rfl (by simp [HN2.out]) (fun j u h => cell_step (H2.out j u h) hB2) (strs_one _) (by unfold maxLen; omega) (by omega) (by omega) ?_); intro v3 w3 hown3 hgr3 hnil3)
  have hB3 : Below w.heap.size w w3 := hB2.grown hgr3 (by omega) (fun r e => (hown2.lt r e).1)
  rw [rounds_succ]
  go_wp2
  go_ret
  exact ⟨v3, rfl, by simpa using hown3, hB3⟩
set_option maxHeartbeats 2000000 in
theorem concat_sn (a1 : Addr) (c1 : Nat) (s1 : List ByteArray) (b : Nat) (w : World) (h1 : ∀ j u, (strsV s1)[j]? = some u → w.cell? (a1.add j) = some u)
    (l1 : s1.length ≤ 1000) (e1 : w.cell? ⟨b, 0, none⟩ = some (.slice (some a1) s1.length c1)) (e2 : w.cell? ⟨b, 1, none⟩ = some (.slice none 0 0)) :
    Calls Tryd.prog 35 #[.slice (some ⟨b, 0, none⟩) 2 2] w fun e w' => ∃ v, e = .returned v ∧ w'.ownsRow w.heap.size 9 1 v s1.length (strsV s1) ∧ Below w.heap.size w w' := by
  obtain ⟨i0, hi, hiz0, hiz1, hiz2⟩ := info_parts info_string
  have HG := hid (fun w => grow_any s1.length (by omega) w)
  have H1 := hid h1
  clear h1
  obtain ⟨n1, hn1⟩ : ∃ n1, s1.length = n1 := ⟨_, rfl⟩
  have HN1 := hid hn1
  rw [hn1] at HG l1 e1 ⊢
  clear hn1
  go_enter Tryd.func35, Tryd.ntmps35
  go_wp2
  refine wp_loop_rounds 3 ?_
  rw [rounds_succ]
  go_wp2
  rw [rounds_succ]
  go_wp2
  rw [rounds_succ]
  go_wp2_with (go_at_call 46; go_loud ((with_reducible refine (HG.out _).mono ?_); rintro e w1 ⟨v, rfl, hown, hb1⟩; have d1 := cell_step e1 hb1; have d2 := cell_step e2 hb1; have hz1 := hb1.size))
  refine wp_loop_rounds 3 ?_
  rw [rounds_succ]
  go_wp2_with (at_builtin; go_loud (refine wpList_append_own _ rfl _ _ 22 rfl w.heap.size 9 i0 (.string { data := #[] }) 1 16 Tryd.underlying22 hi hiz0 hiz1 hiz2 rfl (by decide) _ _ _ rfl hown a1 n1 c1 (strsV s1) rfl (by simp [HN1.out]) (fun j u h => cell_step (H1.out j u h) hb1) (strs_one _) (by unfold maxLen; omega) (by omega) (by omega) ?_); intro v2 w2 hown2 hgr2 hnil2)
  have hB2 : Below w.heap.size w w2 := hb1.grown hgr2 (by omega) (fun r e => (hown.lt r e).1)
  have f2 := cell_step e2 hB2
  have hz2 := hB2.size
  rw [rounds_succ]
  go_wp2_with (at_builtin; go_loud (refine wpList_append_own_none rfl _ _ 22 rfl w.heap.size 9 i0 1 Tryd.underlying22 hi _ _ _ rfl hown2 rfl ?_))
  rw [rounds_succ]
  go_wp2
  go_ret
  exact ⟨v2, rfl, by simpa using hown2, hB2⟩

set_option maxHeartbeats 2000000 in
theorem concat_nn (b : Nat) (w : World) (e1 : w.cell? ⟨b, 0, none⟩ = some (.slice none 0 0)) (e2 : w.cell? ⟨b, 1, none⟩ = some (.slice none 0 0)) :
    Calls Tryd.prog 35 #[.slice (some ⟨b, 0, none⟩) 2 2] w fun e w' => ∃ v, e = .returned v ∧ w'.ownsRow w.heap.size 9 1 v 0 [] ∧ Below w.heap.size w w' := by
  have HG : Hid (∀ w, Calls Tryd.prog 46 #[.slice none 0 0, .int .i64 0] w fun e w' => e = .returned (.slice none 0 0) ∧ w = w') := fun w => grow_zero w
  go_enter Tryd.func35, Tryd.ntmps35
  go_wp2
  refine wp_loop_rounds 3 ?_
  rw [rounds_succ]
  go_wp2
  rw [rounds_succ]
  go_wp2
  rw [rounds_succ]
  go_wp2_with (go_at_call 46; go_loud ((with_reducible refine (HG.out _).mono ?_); rintro e w1 ⟨rfl, rfl⟩))
  refine wp_loop_rounds 3 ?_
  rw [rounds_succ]
  go_wp2
  rw [rounds_succ]
  go_wp2
  rw [rounds_succ]
  go_wp2
  go_ret
  exact ⟨_, rfl, World.ownsRow_nil _ _ _ _, by (repeat' (first | (with_reducible exact Below.refl _ _) | (with_reducible assumption) | (with_reducible refine Below.new ?_ _) | (with_reducible refine Below.alloc ?_ ?_ _) | (with_reducible refine Below.drew ?_) | (with_reducible refine Below.drewN ?_ _) | (with_reducible refine Below.setCell ?_ ?_ _) | (refine Below.step ?_ (by assumption)) | go_size))⟩

end Go.Proofs.YtdgeinipdphoeaaDoor
/- Schemas: the program's 'Right'. -/
namespace Go.Proofs.YtdgeinipdphoeaaDoor
set_option linter.unusedVariables false
set_option linter.unusedSimpArgs false
set_option maxRecDepth 100000
open Go.ChangeShapes Go.WideShapes Go.ChangeAt Go.RowKit

theorem StrsSl.strs {w : World} {v : Value} {ss : List ByteArray} (h : StrsSl w v ss) : StrsAt w v ss := by
  obtain ⟨_, ao, cap, rfl, _, _, _, h⟩ := h
  refine ⟨ao, cap, rfl, fun hl => ?_⟩
  obtain ⟨b, off, rfl, hc⟩ := h (by simpa using hl)
  refine ⟨b, off, rfl, fun j hj => hc j _ ?_⟩
  rw [List.getElem?_map, List.getElem?_eq_getElem hj]; rfl
/-- Is a schema right? -/
def rightS (ds ms : List ByteArray) (g : Int) : Bool := decide (1 ≤ ds.length ∧ ds.length ≤ 6) && (decide (ms.length ≤ 4) && (decide (1 ≤ g ∧ g ≤ 1000000000) && namesB (ds ++ ms)))
/-- Texts that a machine can hold. -/
def Texts (ss : List ByteArray) : Prop := ss.length ≤ 1000 ∧ ∀ s ∈ ss, s.size ≤ 9223372036854775807
theorem Texts.app {a b : List ByteArray} (ha : Texts a) (hb : Texts b) : (∀ s ∈ a ++ b, s.size ≤ 9223372036854775807) ∧ (a ++ b).length ≤ 1000000 := by
  refine ⟨fun s hs => ?_, by have := ha.1; have := hb.1; simp; omega⟩
  rcases List.mem_append.1 hs with h | h
  · exact ha.2 s h
  · exact hb.2 s h

/-- Two lists joined, whichever is nil. -/
theorem concat_any (vd vm : Value) (ds ms : List ByteArray) (b : Nat) (w : World) (hd : StrsSl w vd ds) (hm : StrsSl w vm ms) (l1 : ds.length ≤ 1000) (l2 : ms.length ≤ 1000) (e1 : w.cell? ⟨b, 0, none⟩ = some vd) (e2 : w.cell? ⟨b, 1, none⟩ = some vm) :
    Calls Tryd.prog 35 #[.slice (some ⟨b, 0, none⟩) 2 2] w fun e w' => ∃ v, e = .returned v ∧ StrsSl w' v (ds ++ ms) ∧ Below w.heap.size w w' := by
  obtain ⟨ad, cd, rfl, _, _, nd⟩ := SlAt.shape hd
  obtain ⟨am, cm, rfl, _, _, nm⟩ := SlAt.shape hm
  cases ad with
  | none =>
    obtain rfl := nd rfl
    have h0 : ds.length = 0 := by have := (SlAt.parts hd).2.1; omega
    obtain rfl := List.length_eq_zero_iff.1 h0
    cases am with
    | none =>
      obtain rfl := nm rfl
      have h0 : ms.length = 0 := by have := (SlAt.parts hm).2.1; omega
      obtain rfl := List.length_eq_zero_iff.1 h0
      exact (concat_nn b w e1 e2).mono fun e w' ⟨v, h1, h2, h3⟩ => ⟨v, h1, StrsSl.own h2, h3⟩
    | some a2 =>
      obtain ⟨b2, o2, s2⟩ := a2
      exact (concat_ns _ cm ms b w (SlAt.src hm) l2 e1 e2).mono fun e w' ⟨v, h1, h2, h3⟩ => ⟨v, h1, StrsSl.own (n := ms.length) (by simpa using h2), h3⟩
  | some a1 =>
    obtain ⟨b1, o1, s1⟩ := a1
    cases am with
    | none =>
      obtain rfl := nm rfl
      have h0 : ms.length = 0 := by have := (SlAt.parts hm).2.1; omega
      obtain rfl := List.length_eq_zero_iff.1 h0
      exact (concat_sn _ cd ds b w (SlAt.src hd) l1 e1 e2).mono fun e w' ⟨v, h1, h2, h3⟩ => ⟨v, h1, StrsSl.own (n := ds.length) (by simpa using h2), h3⟩
    | some a2 =>
      obtain ⟨b2, o2, s2⟩ := a2
      exact (concat_ss _ _ cd cm ds ms b w (SlAt.src hd) (SlAt.src hm) l1 l2 e1 e2).mono fun e w' ⟨v, h1, h2, h3⟩ => ⟨v, h1, StrsSl.own (n := ds.length + ms.length) (by simpa using h2), h3⟩

set_option maxHeartbeats 1000000 in
theorem right_any (vd vm : Value) (ds ms : List ByteArray) (g : Int) (w : World) (hd : StrsSl w vd ds) (hm : StrsSl w vm ms) (td : Texts ds) (tm : Texts ms) :
    Calls Tryd.prog 14 #[.agg #[vd, vm, .int .i64 g]] w fun e w' => e = .returned (.bool (rightS ds ms g)) ∧ Below w.heap.size w w' := by
  obtain ⟨ta, tl⟩ := td.app tm
  obtain ⟨td, _⟩ := td
  obtain ⟨tm, _⟩ := tm
  have HD := hid hd; have HM := hid hm
  have HA := hid (fun v W (h : StrsSl W v (ds ++ ms)) => areNames_any v (ds ++ ms) W h.strs tl ta)
  obtain ⟨ad, cd, rfl, _, _, _⟩ := SlAt.shape hd
  obtain ⟨am, cm, rfl, _, _, _⟩ := SlAt.shape hm
  have HC := hid (fun b W (h1 : StrsSl W (.slice ad ds.length cd) ds) (h2 : StrsSl W (.slice am ms.length cm) ms) => concat_any _ _ ds ms b W h1 h2 td tm)
  clear hd hm ta tl
  by_cases h1 : 1 ≤ ds.length ∧ ds.length ≤ 6
  · have hw : decide ((1 : Int) ≤ (ds.length : Int) ∧ (ds.length : Int) ≤ 6) = true := by simp; omega
    have HW := hid (fun W => within_any (ds.length : Int) 1 6 W)
    rw [hw] at HW
    clear hw
    by_cases h2 : ms.length ≤ 4
    · by_cases h3 : 1 ≤ g
      · by_cases h4 : g ≤ 1000000000
        · have hr : rightS ds ms g = namesB (ds ++ ms) := by simp [rightS, h1, h2, h3, h4]
          rw [hr]
          clear hr
          generalize namesB (ds ++ ms) = NB at HA ⊢
          generalize ds.length = nd at HC HW HD td ⊢
          generalize ms.length = nm at HC HM tm h2 ⊢
          go_enter Tryd.func14, Tryd.ntmps14
          go_wp2_with (first
            | (go_at_call 33; ((with_reducible refine (HW.out _).mono ?_); rintro e w1 ⟨rfl, rfl⟩))
            | (go_at_call 35; go_loud ((with_reducible refine (HC.out _ _ (StrsSl.below HD.out (by (repeat' (first | (with_reducible exact Below.refl _ _) | (with_reducible assumption) | (with_reducible refine Below.new ?_ _) | (with_reducible refine Below.alloc ?_ ?_ _) | (with_reducible refine Below.drew ?_) | (with_reducible refine Below.drewN ?_ _) | (with_reducible refine Below.setCell ?_ ?_ _) | (refine Below.step ?_ (by assumption)) | go_size)))) (StrsSl.below HM.out (by (repeat' (first | (with_reducible exact Below.refl _ _) | (with_reducible assumption) | (with_reducible refine Below.new ?_ _) | (with_reducible refine Below.alloc ?_ ?_ _) | (with_reducible refine Below.drew ?_) | (with_reducible refine Below.drewN ?_ _) | (with_reducible refine Below.setCell ?_ ?_ _) | (refine Below.step ?_ (by assumption)) | go_size)))) (by go_simp) (by go_simp)).mono ?_); rintro e w2 ⟨v, rfl, hv, hb2⟩; have HV := hid hv; clear hv))
            | (go_at_call 34; ((with_reducible refine (HA.out _ _ HV.out).mono ?_); rintro e w3 ⟨rfl, hb3⟩)))
          go_ret
          exact ⟨rfl, by (repeat' (first | (with_reducible exact Below.refl _ _) | (with_reducible assumption) | (with_reducible refine Below.new ?_ _) | (with_reducible refine Below.alloc ?_ ?_ _) | (with_reducible refine Below.drew ?_) | (with_reducible refine Below.drewN ?_ _) | (with_reducible refine Below.setCell ?_ ?_ _) | (refine Below.step ?_ (by assumption)) | go_size))⟩
        · have hr : rightS ds ms g = false := by simp [rightS]; omega
          rw [hr]
          clear hr
          go_enter Tryd.func14, Tryd.ntmps14
          go_wp2_with (go_at_call 33; ((with_reducible refine (HW.out _).mono ?_); rintro e w1 ⟨rfl, rfl⟩))
          go_ret
          exact ⟨rfl, by (repeat' (first | (with_reducible exact Below.refl _ _) | (with_reducible assumption) | (with_reducible refine Below.new ?_ _) | (with_reducible refine Below.alloc ?_ ?_ _) | (with_reducible refine Below.drew ?_) | (with_reducible refine Below.drewN ?_ _) | (with_reducible refine Below.setCell ?_ ?_ _) | (refine Below.step ?_ (by assumption)) | go_size))⟩
      · have hr : rightS ds ms g = false := by simp [rightS]; omega
        rw [hr]
        clear hr
        go_enter Tryd.func14, Tryd.ntmps14
        go_wp2_with (go_at_call 33; ((with_reducible refine (HW.out _).mono ?_); rintro e w1 ⟨rfl, rfl⟩))
        go_ret
        exact ⟨rfl, by (repeat' (first | (with_reducible exact Below.refl _ _) | (with_reducible assumption) | (with_reducible refine Below.new ?_ _) | (with_reducible refine Below.alloc ?_ ?_ _) | (with_reducible refine Below.drew ?_) | (with_reducible refine Below.drewN ?_ _) | (with_reducible refine Below.setCell ?_ ?_ _) | (refine Below.step ?_ (by assumption)) | go_size))⟩
    · have hr : rightS ds ms g = false := by simp [rightS]; omega
      rw [hr]
      clear hr
      go_enter Tryd.func14, Tryd.ntmps14
      go_wp2_with (go_at_call 33; ((with_reducible refine (HW.out _).mono ?_); rintro e w1 ⟨rfl, rfl⟩))
      go_ret
      exact ⟨rfl, by (repeat' (first | (with_reducible exact Below.refl _ _) | (with_reducible assumption) | (with_reducible refine Below.new ?_ _) | (with_reducible refine Below.alloc ?_ ?_ _) | (with_reducible refine Below.drew ?_) | (with_reducible refine Below.drewN ?_ _) | (with_reducible refine Below.setCell ?_ ?_ _) | (refine Below.step ?_ (by assumption)) | go_size))⟩
  · have hr : rightS ds ms g = false := by simp [rightS]; omega
    rw [hr]
    clear hr
    have hw : decide ((1 : Int) ≤ (ds.length : Int) ∧ (ds.length : Int) ≤ 6) = false := by simp; omega
    have HW := hid (fun W => within_any (ds.length : Int) 1 6 W)
    rw [hw] at HW
    clear hw h1
    go_enter Tryd.func14, Tryd.ntmps14
    go_wp2_with (go_at_call 33; ((with_reducible refine (HW.out _).mono ?_); rintro e w1 ⟨rfl, rfl⟩))
    go_ret
    exact ⟨rfl, by (repeat' (first | (with_reducible exact Below.refl _ _) | (with_reducible assumption) | (with_reducible refine Below.new ?_ _) | (with_reducible refine Below.alloc ?_ ?_ _) | (with_reducible refine Below.drew ?_) | (with_reducible refine Below.drewN ?_ _) | (with_reducible refine Below.setCell ?_ ?_ _) | (refine Below.step ?_ (by assumption)) | go_size))⟩
end Go.Proofs.YtdgeinipdphoeaaDoor
