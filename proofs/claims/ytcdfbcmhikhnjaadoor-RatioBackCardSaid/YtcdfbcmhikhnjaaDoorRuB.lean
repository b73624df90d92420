/- Ratio: the program's reader: 'take', 'number'. -/
import Derived.Test.YtcdfbcmhikhnjaaDoorRuA
namespace Go.Proofs.YtcdfbcmhikhnjaaDoor
set_option linter.unusedVariables false
set_option linter.unusedSimpArgs false
set_option maxRecDepth 100000
open Go.ChangeShapes Go.WideShapes Go.ChangeAt Go.RowKit Go.Fl Go.Shelf
attribute [local go_sem] Oper.semAt_some

/-- A reader, with what is left of its text. -/
def RdAt (b : Nat) (l : List UInt8) (w : World) : Prop := w.heap[b]? = some (.cells #[strL l] 75 (0, 0))
abbrev hdB (c : UInt8) (l : List UInt8) : Bool := Lib.hasPrefix l [c]
abbrev tlB (c : UInt8) (l : List UInt8) : List UInt8 := Lib.trimPrefix l [c]
theorem take_any (b : Nat) (l : List UInt8) (c : UInt8) (w : World) (h : RdAt b l w) :
    Calls Tryd.prog 51 #[.pointer (some ⟨b, 0, none⟩), .string { data := #[c] }] w fun e w' => e = .returned (.bool (hdB c l)) ∧ w' = w.setCell ⟨b, 0, none⟩ (strL (tlB c l)) := by
  have hc := cell_of_one h
  have hf := free_of_one h
  have CP := hid (fun W => Tryd.strings_CutPrefix { data := l.toArray } { data := #[c] } W)
  obtain ⟨s, hs⟩ : ∃ s : ByteArray, ({ data := l.toArray } : ByteArray) = s := ⟨_, rfl⟩
  obtain ⟨t, ht⟩ : ∃ t : ByteArray, ({ data := (tlB c l).toArray } : ByteArray) = t := ⟨_, rfl⟩
  replace CP : Hid (∀ W, Calls Tryd.prog 75 #[.string s, .string { data := #[c] }] W fun e w' => e = .returned (.tuple #[.string t, .bool (hdB c l)]) ∧ w' = W) := by rw [← hs, ← ht]; exact CP
  replace hc : w.cell? ⟨b, 0, none⟩ = some (.string s) := by rw [← hs]; exact hc
  have hst : strL (tlB c l) = .string t := by rw [← ht]
  rw [hst]
  clear hs ht hst
  generalize hdB c l = d at *
  clear h
  go_enter Tryd.func51, Tryd.ntmps51
  go_wp2_with (go_at_call 75; go_loud ((with_reducible refine (CP.out _).mono ?_); rintro e w1 ⟨rfl, rfl⟩))
  go_ret
  exact ⟨rfl, rfl⟩
theorem decV_from : ∀ (ds : List UInt8) (a : Nat), (∀ c ∈ ds, isDig c = true) → ds.foldl (fun a c => 10 * a + (c.toNat - 48)) a < (a + 1) * 10 ^ ds.length
  | [], a, _ => by simp
  | c :: ds, a, h => by
    have h2 := h c (by simp)
    unfold isDig at h2
    simp at h2
    have h1 := decV_from ds (10 * a + (c.toNat - 48)) (fun c hc => h c (by simp [hc]))
    rw [List.foldl_cons, List.length_cons, Nat.pow_succ]
    have h3 : (10 * a + (c.toNat - 48) + 1) * 10 ^ ds.length ≤ (10 * (a + 1)) * 10 ^ ds.length := Nat.mul_le_mul_right _ (by omega)
    have h4 : (10 * (a + 1)) * 10 ^ ds.length = (a + 1) * (10 ^ ds.length * 10) := by rw [Nat.mul_comm 10, Nat.mul_assoc, Nat.mul_comm 10]
    omega
theorem decV_bound {ds : List UInt8} (h : ∀ c ∈ ds, isDig c = true) : decV ds < 10 ^ ds.length := by
  have := decV_from ds 0 h
  unfold decV
  omega
theorem digL_all (l : List UInt8) : ∀ c ∈ digL l, isDig c = true := fun c hc => by
  unfold digL at hc
  exact (List.all_eq_true.1 List.all_takeWhile) c hc
theorem decV_take {ds : List UInt8} {k : Nat} (h : k < ds.length) : decV (ds.take (k + 1)) = 10 * decV (ds.take k) + ((ds[k]).toNat - 48) := by
  rw [List.take_succ_eq_append_getElem h, decV_snoc]
theorem digL_get {l : List UInt8} {k : Nat} (h : k < (digL l).length) : (digL l)[k] = l[k]?.getD 0 := by
  have hp : digL l <+: l := List.takeWhile_prefix _
  have := List.IsPrefix.getElem hp h
  rw [this, List.getElem?_eq_getElem (Nat.lt_of_lt_of_le h (digL_le l))]
  rfl
/-- What the loop over digits has at its k-th round. -/
def numJ (ds : List UInt8) (w : World) (k : Nat) (X : World) : Prop :=
  X.heap[w.heap.size]? = some (.cells #[.int .i64 (decV (ds.take k) : Nat)] 3 (0, 0)) ∧ X.heap[w.heap.size + 1]? = some (.cells #[.int .i64 (k : Int)] 3 (0, 0)) ∧ Below w.heap.size w X
/-- The digits that 'number' takes. -/
abbrev numL (l : List UInt8) : List UInt8 := digL (l.take 18)
theorem extract_take (l : List UInt8) (n : Nat) : ({ data := l.toArray } : ByteArray).extract 0 n = { data := (l.take n).toArray } := by
  apply ByteArray.ext
  simp [ByteArray.extract, ByteArray.copySlice]
theorem extract_drop (l : List UInt8) (n : Nat) : ({ data := l.toArray } : ByteArray).extract n l.length = { data := (l.drop n).toArray } := by
  apply ByteArray.ext
  simp [ByteArray.extract, ByteArray.copySlice]
  rw [List.take_of_length_le (by simp)]
theorem protN_set {n₀ lo hi B : Nat} {X Y : World} (h : ProtN n₀ lo hi B X Y) {p : Addr} (h1 : n₀ ≤ p.block) (h2 : p.block < lo ∨ hi ≤ p.block) (h3 : p.block < B) (u : Value) : ProtN n₀ lo hi B X (Y.setCell p u) :=
  h.trans ⟨by simp [World.setCell], fun k hk => Below.heap_setCell Y p u k (by omega), fun k a c => Below.heap_setCell Y p u k (by omega), fun k a c => Below.heap_setCell Y p u k (by omega)⟩
set_option maxHeartbeats 4000000 in
theorem number_any (b : Nat) (l : List UInt8) (hl : l.length ≤ 100) (w : World) (h : RdAt b l w) :
    Calls Tryd.prog 52 #[.pointer (some ⟨b, 0, none⟩)] w fun e w' => e = .returned (.tuple #[.int .i64 (decV (numL l) : Nat), .bool (decide (0 < (numL l).length))]) ∧ RdAt b (l.drop (numL l).length) w' ∧ w.grownBy w' (some b) := by
  have hbw : b < w.heap.size := (Array.getElem?_eq_some_iff.1 h).1
  obtain ⟨D, hD⟩ : ∃ D, numL l = D := ⟨_, rfl⟩
  have HG : Hid (∀ k (h : k < D.length), D[k] = (l.take 18)[k]?.getD 0) := by subst hD; exact fun k h => digL_get h
  have HAll : Hid (∀ c ∈ D, isDig c = true) := by subst hD; exact digL_all _
  have hDl : D.length ≤ 18 := by subst hD; have h1 : (numL l).length ≤ (l.take 18).length := digL_le _; rw [List.length_take] at h1; omega
  have hDl2 : D.length ≤ l.length := by subst hD; have h1 : (numL l).length ≤ (l.take 18).length := digL_le _; rw [List.length_take] at h1; omega
  obtain ⟨N, hN⟩ : ∃ N, D.length = N := ⟨_, rfl⟩
  rw [hN] at hDl hDl2
  rw [hD, hN]
  obtain ⟨s, hs⟩ : ∃ s : ByteArray, ({ data := l.toArray } : ByteArray) = s := ⟨_, rfl⟩
  obtain ⟨t, ht⟩ : ∃ t : ByteArray, ({ data := (l.take 18).toArray } : ByteArray) = t := ⟨_, rfl⟩
  have hss : s.size = l.length := by rw [← hs]; rfl
  have hh : w.heap[b]? = some (.cells #[.string s] 75 (0, 0)) := by rw [← hs]; exact h
  have i3 : s.extract 0 (min (s.size : Int) 18).toNat = t := by
    rw [← ht, ← hs, extract_take, show (min ((({ data := l.toArray } : ByteArray)).size : Int) 18).toNat = min l.length 18 by show (min (l.length : Int) 18).toNat = _; omega]
    congr 2
    rw [List.take_eq_take_iff]
    omega
  have i1 : (0 : Int) ≤ min (s.size : Int) 18 := by omega
  have i2 : min (s.size : Int) 18 ≤ (s.size : Int) := by omega
  have im := ite_min
  rw [hss] at i1 i2 i3
  have HR := hid h
  clear h
  refine calls_marks Tryd.func52 rfl ?_
  simp only [Tryd.ntmps52, List.size_toArray, List.length_cons, List.length_nil, Nat.reduceAdd, Nat.reduceSub, Array.replicate_succ, Array.replicate_zero, List.push_toArray, List.append_toArray, List.nil_append, List.cons_append]
  go_wp2_with fail
  obtain ⟨W2, hW2⟩ : ∃ V, (w.alloc (.cells #[.int .i64 0] 3)).alloc (.cells #[.int .i64 0] 3) = V := ⟨_, rfl⟩
  have hB2 : Below w.heap.size w W2 := by rw [← hW2]; (repeat' (first | (with_reducible exact Below.refl _ _) | (with_reducible assumption) | (with_reducible refine Below.new ?_ _) | (with_reducible refine Below.alloc ?_ ?_ _) | (with_reducible refine Below.drew ?_) | (with_reducible refine Below.drewN ?_ _) | (with_reducible refine Below.setCell ?_ ?_ _) | (refine Below.step ?_ (by assumption)) | go_size))
  have hz2 : W2.heap.size = w.heap.size + 2 := by rw [← hW2]; simp
  have hA : W2.heap[w.heap.size]? = some (.cells #[.int .i64 0] 3 (0, 0)) := by rw [← hW2]; (simp (disch := first | omega | (simp only [World.size_alloc, World.size_setCell, World.size_drew]; done) | (simp only [World.size_alloc, World.size_setCell, World.size_drew]; omega)) only [heap_at, heap_past, heap_set_other, heap_set_same])
  have hBk : W2.heap[w.heap.size + 1]? = some (.cells #[.int .i64 0] 3 (0, 0)) := by rw [← hW2]; (simp (disch := first | omega | (simp only [World.size_alloc, World.size_setCell, World.size_drew]; done) | (simp only [World.size_alloc, World.size_setCell, World.size_drew]; omega)) only [heap_at, heap_past, heap_set_other, heap_set_same])
  rw [hW2]
  clear hW2
  have hb2 := (hB2.block b hbw).trans hh
  have p0 := World.plus_cell (cell_of_one hb2)
  refine wp_region_plus_tail (13) (by kernel_rfl) (by kernel_rfl) ?_
  simp only [List.take_succ_cons, List.take_zero, List.drop_succ_cons, List.drop_zero]
  repeat (first | go_big_quiet_skip | (go_big_quiet_want; go_big_quiet_op; first | go_big_quiet_on | go_big_quiet_call ((fail))))
  refine wpQuiet_nil ?_
  rintro _ ⟨xq, rfl⟩
  have kB := World.plus_below W2 xq
  have hAV := (kB.block w.heap.size (by omega)).trans hA
  have hBV := (kB.block (w.heap.size + 1) (by omega)).trans hBk
  have hzV := kB.size
  have hBV2 : Below w.heap.size w (World.plus W2 xq) := hB2.trans (kB.mono (by omega))
  obtain ⟨V, hV⟩ : ∃ V, World.plus W2 xq = V := ⟨_, rfl⟩
  rw [hV] at kB hAV hBV hzV hBV2
  rw [hV]
  clear hV p0 hb2 hA hBk kB
  go_wp2_with (go_at_call 76; ((with_reducible refine (digits_any _ _).mono ?_); rintro e w1 ⟨rfl, rfl⟩))
  have hT18 : (l.take 18).length ≤ 1000 := by simp; omega
  have c0 : (V.alloc (.cells #[.string t] 9)).cell? ⟨V.heap.size, 0, none⟩ = some (strL (l.take 18)) := by rw [← ht]; go_simp
  have HSeq := digits_seq (l.take 18) hT18 V.heap.size w.heap.size V.heap.size (V.heap.size + 1) (V.alloc (.cells #[.string t] 9)) (by omega) (by simp) (by simp; omega) c0
  rw [show (digL (l.take 18)).length = N by rw [← hN, ← hD]] at HSeq
  refine wp_rangeN (gf := 89) (lb := #[.pointer (some ⟨V.heap.size, 0, none⟩)]) rfl (enters_of Tryd.func89 (by kernel_rfl) rfl)
    HSeq (by simp; omega) (fun _ => rfl) (numJ D w) (fun _ _ _ => False) ?stab ?stabx ?start ?round ?done ?stop
  case stab => exact fun k => Stab.and Stab.block (Stab.and Stab.block (Stab.below (Nat.le_refl _) (by simp; omega)))
  case stabx => exact fun c k => Stab.pure _
  case start =>
    refine ⟨?_, ?_, hBV2.alloc (by omega) _⟩
    · rw [heap_past (by omega)]; exact hAV
    · rw [heap_past (by omega)]; exact hBV
  case stop =>
    intro D' c k X hD hk hX hK
    exact hX.elim
  case done =>
    intro D' X hD' hI hK
    obtain ⟨hA, hBk, hbel⟩ := hI
    simp only [World.size_alloc] at hD'
    have ht : D.take N = D := by rw [← hN, List.take_length]
    rw [ht] at hA
    have hbX := (hbel.block b hbw).trans hh
    have p0 := World.plus_cell (cell_of_one hbX); have p1 := World.plus_cell (cell_of_one hA); have p2 := World.plus_cell (cell_of_one hBk)
    have hzX := hbel.size
    obtain ⟨u, hu⟩ : ∃ u : ByteArray, ({ data := (l.drop N).toArray } : ByteArray) = u := ⟨_, rfl⟩
    have i5 : s.extract N l.length = u := by rw [← hu, ← hs]; exact extract_drop l N
    have i6 : (N : Int) ≤ (l.length : Int) := by omega
    go_wp2
    refine wp_region_plus_tail (8) (by kernel_rfl) (by kernel_rfl) ?_
    simp only [List.take_succ_cons, List.take_zero, List.drop_succ_cons, List.drop_zero]
    repeat (first | go_big_quiet_skip | (go_big_quiet_want; go_big_quiet_op; first | go_big_quiet_on | go_big_quiet_call ((fail))))
    refine wpQuiet_nil ?_
    rintro _ ⟨xq, rfl⟩
    have kB := World.plus_below X xq
    have hbV := (kB.block b (by omega)).trans hbX
    have hAV2 := (kB.block w.heap.size (blk_lt hA)).trans hA
    have hBV3 := (kB.block (w.heap.size + 1) (blk_lt hBk)).trans hBk
    have hKV := (kB.block D' (blk_lt hK)).trans hK
    have hbelV : Below w.heap.size w (World.plus X xq) := hbel.trans (kB.mono (by omega))
    obtain ⟨Y, hY⟩ : ∃ Y, World.plus X xq = Y := ⟨_, rfl⟩
    rw [hY] at hbV hAV2 hBV3 hKV hbelV
    rw [hY]
    clear p0 p1 p2 kB hY hbX hA hBk hK hbel hzX
    have r0 := cell_of_one hbV; have r1 := free_of_one hbV
    go_wp2
    obtain ⟨Z, hZ⟩ : ∃ Z, Y.setCell ⟨b, 0, none⟩ (.string u) = Z := ⟨_, rfl⟩
    have hZb : Z.heap[b]? = some (.cells #[.string u] 75 (0, 0)) := by rw [← hZ]; exact heap_set_same hbV
    have hZA : Z.heap[w.heap.size]? = some (.cells #[.int .i64 ((decV D : Nat) : Int)] 3 (0, 0)) := by rw [← hZ]; exact (heap_set_other (by omega)).trans hAV2
    have hZB : Z.heap[w.heap.size + 1]? = some (.cells #[.int .i64 (N : Int)] 3 (0, 0)) := by rw [← hZ]; exact (heap_set_other (by omega)).trans hBV3
    have hZK : Z.heap[D']? = some (.deferred (some [])) := by rw [← hZ]; exact (heap_set_other (by omega)).trans hKV
    have hZg : w.grownBy Z (some b) := by
      rw [← hZ]
      exact ⟨hbelV.os, hbelV.tape, hbelV.output, by simp only [World.size_setCell]; exact hbelV.size, fun i hi hne => (heap_set_other (fun e => hne (by rw [e]))).trans (hbelV.block i hi)⟩
    rw [hZ]
    clear hZ hbV hAV2 hBV3 hKV hbelV r0 r1
    have p1 := World.plus_cell (cell_of_one hZA); have p2 := World.plus_cell (cell_of_one hZB)
    refine wp_region_plus (by kernel_rfl) (by kernel_rfl) ?_
    repeat (first | go_big_quiet_skip | (go_big_quiet_want; go_big_quiet_op; first | go_big_quiet_on | go_big_quiet_call ((fail))))
    refine wpQuiet_nil ?_
    rintro _ ⟨xq, rfl⟩
    have kC := World.plus_below Z xq
    have hfb := (kC.block b (blk_lt hZb)).trans hZb
    have hfK := (kC.block D' (blk_lt hZK)).trans hZK
    have hfg : w.grownBy (World.plus Z xq) (some b) := hZg.andThen (below_none kC) (fun j e => by cases e)
    clear p1 p2
    obtain ⟨E, hE⟩ : ∃ E, World.plus Z xq = E := ⟨_, rfl⟩
    rw [hE] at hfb hfK hfg ⊢
    go_wp2
    refine ret_mark (.inl rfl) hfK fun w' hT => ?_
    refine ⟨.tuple #[.int .i64 ((decV D : Nat) : Int), .bool (decide (0 < N))], by simp only [results, Tryd.results52]; go_simp; try rfl, rfl, ?_, hfg.andThen hT.grown (fun j e => by cases e; exact .inl (by omega))⟩
    unfold RdAt
    rw [show strL (l.drop N) = Value.string u by rw [← hu]]
    exact (hT.block (blk_lt hfb) (by omega)).trans hfb
  case round =>
    intro l' k X hkN hI hl2 hlt hX
    obtain ⟨hA, hBk, hbel⟩ := hI
    simp only [World.size_alloc] at hl2 hX
    gi_wp2
    refine ⟨ProtN.refl _ _ _ _ _, fun W3 hT => ?_⟩
    have hkl : k < D.length := by omega
    have hD1 : isDig D[k] = true := HAll.out _ (List.getElem_mem hkl)
    have hg := HG.out k hkl
    have hv := decV_take hkl
    have hbd : decV (D.take k) < 10 ^ (D.take k).length := decV_bound fun c hc => HAll.out c (List.mem_of_mem_take hc)
    have hpw : (10 : Nat) ^ (D.take k).length ≤ 10 ^ 17 := Nat.pow_le_pow_right (by decide) (by rw [List.length_take]; omega)
    rw [← hg]
    have hDc : 48 ≤ D[k].toNat ∧ D[k].toNat ≤ 57 := by unfold isDig at hD1; simpa using hD1
    have hA3 := (hT.block (by omega) (by omega)).trans hA
    have hB3 := (hT.block (by omega) (by omega)).trans hBk
    have hbel3 : Below w.heap.size w W3 := (Stab.below (Nat.le_refl _) (Nat.le_refl _)).turn hbel hT (by omega)
    have a0 := cell_of_one hA3; have a1 := free_of_one hA3; have b0 := cell_of_one hB3; have b1 := free_of_one hB3
    obtain ⟨c, hc⟩ : ∃ c : Nat, D[k].toNat = c := ⟨_, rfl⟩
    obtain ⟨m, hm⟩ : ∃ m : Nat, decV (D.take k) = m := ⟨_, rfl⟩
    obtain ⟨m', hm'⟩ : ∃ m' : Nat, decV (D.take (k + 1)) = m' := ⟨_, rfl⟩
    rw [hm] at a0 hA3 hv hbd; rw [hc] at hDc hv; rw [hm'] at hv
    rw [hc]
    have e1 : (10 : Int) * (m : Int) + ((c : Int) - 48) = (m' : Int) := by omega
    have e2 : (m : Int) < 100000000000000000 := by omega
    have e3 : 48 ≤ (c : Int) ∧ (c : Int) ≤ 57 := by omega
    have E1 := hid e1
    have HM := hid hm'
    clear hpw hbd hv hm hm' hc hDc hg hD1 e1
    gi_wp2
    refine ⟨protN_set (protN_set (ProtN.refl _ _ _ _ _) (by simp) (by simp; omega) (by simp; omega) _) (by simp) (by simp; omega) (by simp; omega) _, ?_, ?_, (hbel3.setCell (by simp) _).setCell (by simp) _⟩
    · rw [heap_set_other (by omega), heap_set_same hA3, E1.out, HM.out]
    · rw [heap_set_same ((heap_set_other (by omega)).trans hB3)]
      rfl
end Go.Proofs.YtcdfbcmhikhnjaaDoor
