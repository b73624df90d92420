/- Packed lists: widths. -/
import Derived.Test.YtpgifmccajcgkaaDoorPkB
import Derived.Test.YtpgifmccajcgkaaDoorSame
import Derived.Test.YtpgifmccajcgkaaDoorInfo
import Derived.Test.YtpgifmccajcgkaaDoorShelf
import Derived.ArgAppend
import Derived.Lib.BitFns
import Derived.Laws.IdiomStrings
namespace Go.Proofs.YtpgifmccajcgkaaDoor
set_option linter.unusedVariables false
set_option linter.unusedSimpArgs false
open Go.ChangeShapes Go.WideShapes Go.ChangeAt Go.RowKit

def badW (x : Int) : Bool := decide (x < 0) || decide (65535 < x)
theorem isOther_any (x : Int) (w : World) : Calls Tryd.prog 57 #[.int .i64 x] w fun e w' => e = .returned (.bool (badW x)) ∧ w = w' := by
  unfold badW
  by_cases h : x < 0
  · have hd : decide (x < 0) = true := by simpa using h
    rw [hd]
    go_enter Tryd.func57, Tryd.ntmps57
    go_wp2
    go_ret
    exact ⟨rfl, rfl⟩
  · have hd : decide (x < 0) = false := by simpa using h
    rw [hd]
    go_enter Tryd.func57, Tryd.ntmps57
    go_wp2
    go_ret
    exact ⟨rfl, rfl⟩

/-- The first that is so, or none. -/
theorem first_or (xs : List Int) (p : Int → Bool) : (xs.any p = false ∧ ∀ i, i < xs.length → p (xs[i]?.getD 0) = false) ∨ (xs.any p = true ∧ ∃ j, j < xs.length ∧ p (xs[j]?.getD 0) = true ∧ ∀ i, i < j → p (xs[i]?.getD 0) = false) := by
  induction xs with
  | nil => exact .inl ⟨rfl, fun i hi => absurd hi (Nat.not_lt_zero i)⟩
  | cons x xs ih =>
    by_cases hx : p x = true
    · exact .inr ⟨by simp [hx], 0, by simp, by simpa using hx, fun i hi => absurd hi (Nat.not_lt_zero i)⟩
    · have hx : p x = false := by simpa using hx
      rcases ih with ⟨h1, h2⟩ | ⟨h1, j, h2, h3, h4⟩
      · refine .inl ⟨by simp [hx, h1], fun i hi => ?_⟩
        cases i with
        | zero => simpa using hx
        | succ i => simpa using h2 i (by simpa using hi)
      · refine .inr ⟨by simp [hx, h1], j + 1, by simpa using h2, by simpa using h3, fun i hi => ?_⟩
        cases i with
        | zero => simpa using hx
        | succ i => simpa using h4 i (by omega)

set_option maxHeartbeats 1000000 in
theorem idxFunc_any (v : Value) (xs : List Int) (w : World) (hv : IntsAt w v xs) (j : Nat) (hj : j ≤ xs.length) (hlen : xs.length ≤ 1000000000) (hpre : ∀ i, i < j → badW (xs[i]?.getD 0) = false) (hat : j < xs.length → badW (xs[j]?.getD 0) = true) :
    Calls Tryd.prog 79 #[v, .func (.func 57) #[] #[]] w fun e w' => e = .returned (.int .i64 (if j < xs.length then (j : Int) else -1)) ∧ w = w' := by
  obtain ⟨ao, cap, rfl, hA⟩ := hv
  have HA := hid hA; have HP := hid hpre; have HT := hid hat
  obtain ⟨L, hL⟩ : ∃ L, xs.length = L := ⟨_, rfl⟩
  rw [hL] at HA HT hj hlen ⊢
  clear hA hpre hat hL
  go_enter Tryd.func79, Tryd.ntmps79
  go_wp2
  go_loop [8] (fun i => ∃ k : Nat, k ≤ j ∧ i = .int .i64 k) (fun i => L - (intOf i).toNat)
  case atStart => exact ⟨0, Nat.zero_le _, rfl⟩
  case round =>
    obtain ⟨k, hk, rfl⟩ := hrel
    by_cases hkL : k < L
    · obtain ⟨b, off, rfl, hc⟩ := HA.out (by omega)
      have e0 := hc k hkL
      obtain ⟨x, hx⟩ : ∃ x, xs[k]?.getD 0 = x := ⟨_, rfl⟩
      have HO := hid (isOther_any x)
      by_cases hkj : k < j
      · have hb := HP.out k hkj
        rw [hx] at e0 hb
        rw [hb] at HO
        clear hc hx hb
        go_wp2_with (go_at_call 57; ((with_reducible refine (HO.out _).mono ?_); rintro e w2 ⟨rfl, rfl⟩))
        go_round
        case rel => exact ⟨k + 1, hkj, by go_num⟩
        case measure => simp [intOf]; omega
      · obtain rfl : k = j := by omega
        have hb := HT.out hkL
        rw [hx] at e0 hb
        rw [hb] at HO
        have HKL := hid hkL
        clear hc hx hb
        go_wp2_with (go_at_call 57; ((with_reducible refine (HO.out _).mono ?_); rintro e w2 ⟨rfl, rfl⟩))
        go_ret
        exact ⟨rfl, rfl⟩
    · have HKL : Hid (¬ j < L) := by unfold Hid; omega
      go_wp2
      go_ret
      exact ⟨rfl, rfl⟩
theorem contFunc_any (v : Value) (xs : List Int) (w : World) (hv : IntsAt w v xs) (hlen : xs.length ≤ 1000000000) :
    Calls Tryd.prog 58 #[v, .func (.func 57) #[] #[]] w fun e w' => e = .returned (.bool (xs.any badW)) ∧ w = w' := by
  have H : ∃ r : Int, xs.any badW = decide (0 ≤ r) ∧ ∀ w, IntsAt w v xs → Calls Tryd.prog 79 #[v, .func (.func 57) #[] #[]] w fun e w' => e = .returned (.int .i64 r) ∧ w = w' := by
    rcases first_or xs badW with ⟨h1, h2⟩ | ⟨h1, j, h2, h3, h4⟩
    · refine ⟨-1, by rw [h1]; rfl, fun w h => ?_⟩
      refine (idxFunc_any v xs w h xs.length (Nat.le_refl _) hlen h2 (fun h => absurd h (Nat.lt_irrefl _))).mono fun e w' ⟨he, hw⟩ => ⟨?_, hw⟩
      rw [he, if_neg (Nat.lt_irrefl _)]
    · refine ⟨j, by rw [h1]; simp, fun w h => ?_⟩
      refine (idxFunc_any v xs w h j (by omega) hlen h4 (fun _ => h3)).mono fun e w' ⟨he, hw⟩ => ⟨?_, hw⟩
      rw [he, if_pos h2]
  obtain ⟨r, hr, hc⟩ := H
  rw [hr]
  have HC := hid (hc w hv)
  clear hr hc hv
  go_enter Tryd.func58, Tryd.ntmps58
  go_wp2_with (go_at_call 79; ((with_reducible refine (HC.out).mono ?_); rintro e w2 ⟨rfl, rfl⟩))
  go_ret
  exact ⟨rfl, rfl⟩

/-- The greatest of some numbers. -/
def MaxOf (ys : List Int) (r : Int) : Prop := r ∈ ys ∧ ∀ y ∈ ys, y ≤ r
def maxFrom (m : Int) (ys : List Int) : Int := ys.foldl max m
theorem maxFrom_is (m : Int) (ys : List Int) : MaxOf (m :: ys) (maxFrom m ys) := by
  induction ys generalizing m with
  | nil => exact ⟨by simp [maxFrom], by simp [maxFrom]⟩
  | cons y ys ih =>
    obtain ⟨h1, h2⟩ := ih (max m y)
    have e : maxFrom m (y :: ys) = maxFrom (max m y) ys := rfl
    rw [e]
    refine ⟨?_, fun z hz => ?_⟩
    · rcases List.mem_cons.1 h1 with h | h
      · rw [h]; rcases Int.le_total m y with hle | hle
        · rw [Int.max_eq_right hle]; simp
        · rw [Int.max_eq_left hle]; simp
      · simp [h]
    · have h3 := h2 (max m y) (by simp)
      rcases List.mem_cons.1 hz with rfl | hz
      · omega
      · rcases List.mem_cons.1 hz with rfl | hz
        · omega
        · exact h2 z (by simp [hz])
set_option maxHeartbeats 1000000 in
theorem max_any (v : Value) (y0 : Int) (ys : List Int) (w : World) (hv : IntsAt w v (y0 :: ys)) (hlen : ys.length ≤ 1000000000) (hall : ∀ y ∈ y0 :: ys, -9223372036854775808 ≤ y ∧ y ≤ 9223372036854775807) :
    Calls Tryd.prog 60 #[v] w fun e w' => e = .returned (.int .i64 (maxFrom y0 ys)) ∧ w = w' := by
  obtain ⟨ao, cap, rfl, hA⟩ := hv
  obtain ⟨b, off, rfl, hc⟩ := hA (by simp)
  have c0 := hc 0 (by simp)
  have HC := hid (fun j (hj : j < ys.length) => hc (j + 1) (by simpa using hj))
  simp only [List.getElem?_cons_zero, Option.getD_some, Nat.add_zero, List.getElem?_cons_succ] at c0 HC
  obtain ⟨L, hL⟩ : ∃ L, ys.length = L := ⟨_, rfl⟩
  have HL := hid hL
  rw [hL] at HC hlen
  simp only [List.length_cons, hL]
  have HS : Hid (∀ k, k < L → maxFrom y0 (ys.take (k + 1)) = max (maxFrom y0 (ys.take k)) (ys[k]?.getD 0)) := fun k hk => by
    unfold maxFrom
    rw [List.take_succ_eq_append_getElem (by rw [HL.out]; exact hk), List.foldl_append, List.getElem?_eq_getElem (by rw [HL.out]; exact hk)]
    rfl
  clear hA hc hall hL
  have im := ite_max
  go_enter Tryd.func60, Tryd.ntmps60
  go_wp2
  go_loop [3, 4] (fun m i => ∃ k : Nat, k ≤ L ∧ i = .int .i64 ((k : Int) + 1) ∧ m = .int .i64 (maxFrom y0 (ys.take k))) (fun _ i => L + 1 - (intOf i).toNat)
  case atStart => exact ⟨0, Nat.zero_le _, rfl, rfl⟩
  case round =>
    obtain ⟨k, hk, rfl, rfl⟩ := hrel
    by_cases hlt : k < L
    · have e0 := HC.out k hlt
      have hs := HS.out k hlt
      obtain ⟨x, hx⟩ : ∃ x, ys[k]?.getD 0 = x := ⟨_, rfl⟩
      obtain ⟨m, hm⟩ : ∃ m, maxFrom y0 (ys.take k) = m := ⟨_, rfl⟩
      rw [hx] at e0 hs
      rw [hm] at hs ⊢
      have HS2 := hid hs
      clear hx hs hm
      rw [show off + (k + 1) = off + (k + 1) from rfl] at e0
      go_wp2
      go_round
      case rel => exact ⟨k + 1, hlt, by go_num, by rw [HS2.out]⟩
      case measure => simp [intOf]; omega
    · obtain rfl : k = L := by omega
      have HT : Hid (ys.take k = ys) := by unfold Hid; rw [← HL.out, List.take_length]
      rw [HT.out]
      go_wp2
      go_ret
      exact ⟨rfl, rfl⟩

theorem blen_bitLen : ∀ (m : Nat), m < 2 ^ 64 → Lib.bitLen m = blen m := by
  intro m
  induction m using Nat.strongRecOn with
  | _ m ih =>
    intro h
    by_cases h0 : m = 0
    · subst h0; rw [blen, if_pos rfl]; rfl
    · rw [blen, if_neg h0, Lib.bitLen_half m h0 h, ih (m / 2) (by omega) (by omega)]; omega
theorem okW_iff (xs : List Int) : okW xs = (decide (xs.length ≤ 1000) && !xs.any badW) := by
  unfold okW
  congr 1
  induction xs with
  | nil => rfl
  | cons x xs ih =>
    rw [List.all_cons, List.any_cons, ih, Bool.not_or]
    congr 1
    unfold badW
    by_cases h1 : x < 0
    · have h2 : ¬ (0 ≤ x ∧ x ≤ 65535) := by omega
      simp [h1, h2]
    · by_cases h2 : 65535 < x
      · have h3 : ¬ (0 ≤ x ∧ x ≤ 65535) := by omega
        simp [h1, h2, h3]
      · have h3 : 0 ≤ x ∧ x ≤ 65535 := by omega
        simp [h1, h2, h3]
theorem okW_mem {xs : List Int} (h : okW xs = true) : xs.length ≤ 1000 ∧ ∀ x ∈ xs, 0 ≤ x ∧ x ≤ 65535 := by
  unfold okW at h
  simp only [Bool.and_eq_true, decide_eq_true_eq, List.all_eq_true] at h
  exact h
theorem natsOf_mem {xs : List Int} (h : ∀ x ∈ xs, 0 ≤ x ∧ x ≤ 65535) : small (natsOf xs) := fun n hn => by
  obtain ⟨x, hx, rfl⟩ := List.mem_map.1 hn
  have := h x hx
  omega
theorem max_is {xs : List Int} (h : ∀ x ∈ xs, 0 ≤ x ∧ x ≤ 65535) {r : Int} (hr : MaxOf (xs ++ [0]) r) : r = (maxL (natsOf xs) : Int) := by
  obtain ⟨h1, h2⟩ := hr
  have h0 : 0 ≤ r := h2 0 (by simp)
  have hle : (maxL (natsOf xs) : Int) ≤ r := by
    rcases maxL_mem (natsOf xs) with e | e
    · rw [e]; exact h0
    · obtain ⟨x, hx, hxe⟩ := List.mem_map.1 e
      have h3 := h x hx
      have h4 := h2 x (by simp [hx])
      omega
  rcases List.mem_append.1 h1 with h3 | h3
  · have h4 := h r h3
    have h5 : r.toNat ≤ maxL (natsOf xs) := maxL_le (List.mem_map.2 ⟨r, h3, rfl⟩)
    omega
  · simp at h3; omega

/-- What 'Width' tells: the width, the code. -/
def widthV (xs : List Int) : Nat × Nat := if okW xs = true then (widN (natsOf xs), 0) else (0, 40)

/-- A slice of numbers that is well made. -/
def SliceAt (w : World) (v : Value) (xs : List Int) : Prop :=
  ∃ ao cap, v = .slice ao xs.length cap ∧ xs.length ≤ cap ∧ cap ≤ maxLen ∧ (ao = none → cap = 0) ∧ (0 < xs.length → ∃ b off, ao = some ⟨b, off, none⟩ ∧ ∀ j, j < xs.length → w.cell? ⟨b, off + j, none⟩ = some (.int .i64 (xs[j]?.getD 0)))
theorem SliceAt.ints {w : World} {v : Value} {xs : List Int} (h : SliceAt w v xs) : IntsAt w v xs := by
  obtain ⟨ao, cap, h1, _, _, _, h2⟩ := h
  exact ⟨ao, cap, h1, h2⟩
theorem SliceAt.below {w w' : World} {v : Value} {xs : List Int} (h : SliceAt w v xs) (hb : Below w.heap.size w w') : SliceAt w' v xs := by
  obtain ⟨ao, cap, rfl, h1, h2, h3, h⟩ := h
  refine ⟨ao, cap, rfl, h1, h2, h3, fun hl => ?_⟩
  obtain ⟨b, off, rfl, hc⟩ := h hl
  exact ⟨b, off, rfl, fun j hj => (hb.cell (p := ⟨b, off + j, none⟩) (World.block_lt_of_cell? _ _ (hc j hj))).trans (hc j hj)⟩
theorem SliceAt.own {w : World} {base : Nat} {e : TypeId} {v : Value} {xs : List Int} (h : w.ownsRow base e 1 v xs.length (xs.map (Value.int .i64))) : SliceAt w v xs := by
  have hi := IntsAt.own h
  rcases h.2 with ⟨rfl, h0⟩ | ⟨g, cap, cur, rfl, _, _, h3, h4, _⟩
  · obtain rfl : xs = [] := List.length_eq_zero_iff.1 h0
    exact ⟨none, 0, rfl, Nat.le_refl _, by simp, fun _ => rfl, fun h => by simp at h⟩
  · obtain ⟨ao, cap', e, hc⟩ := hi
    simp only [Value.slice.injEq] at e
    obtain ⟨rfl, _, rfl⟩ := e
    exact ⟨_, cap, rfl, h3, h4, (fun h => (by cases h)), hc⟩

theorem width_bad (v : Value) (xs : List Int) (w : World) (hv : IntsAt w v xs) (hlen : xs.length ≤ 1000000000) (h : okW xs = false) :
    Calls Tryd.prog 34 #[v] w fun e w' => e = .returned (.tuple #[.int .i64 0, .int .i64 40]) ∧ w = w' := by
  have HC := hid (contFunc_any v xs w hv hlen)
  obtain ⟨ao, cap, rfl, hA⟩ := hv
  clear hA
  rw [okW_iff] at h
  by_cases hl : xs.length ≤ 1000
  · have ha : xs.any badW = true := by simpa [hl] using h
    rw [ha] at HC
    clear ha h
    go_enter Tryd.func34, Tryd.ntmps34
    go_wp2_with (go_at_call 58; ((with_reducible refine (HC.out).mono ?_); rintro e w2 ⟨rfl, rfl⟩))
    go_ret2
    exact ⟨rfl, rfl⟩
  · have hl2 : 1000 < xs.length := by omega
    clear h hl
    go_enter Tryd.func34, Tryd.ntmps34
    go_wp2
    go_ret2
    exact ⟨rfl, rfl⟩
set_option maxRecDepth 100000 in
set_option maxHeartbeats 1000000 in
theorem width_ok (v : Value) (xs : List Int) (w : World) (hv : SliceAt w v xs) (h : okW xs = true) :
    Calls Tryd.prog 34 #[v] w fun e w' => e = .returned (.tuple #[.int .i64 (widN (natsOf xs) : Int), .int .i64 0]) ∧ Below w.heap.size w w' := by
  obtain ⟨hl, hm⟩ := okW_mem h
  have HC := hid (contFunc_any v xs w hv.ints (by omega))
  have ha : xs.any badW = false := by rw [okW_iff] at h; simpa [hl] using h
  rw [ha] at HC
  obtain ⟨iu, hui, huz0, huz1, huz2⟩ := info_parts info_int
  -- the greatest one
  obtain ⟨y0, ys, hys⟩ : ∃ y0 ys, xs ++ [0] = y0 :: ys := by
    cases xs with
    | nil => exact ⟨0, [], rfl⟩
    | cons a l => exact ⟨a, l ++ [0], rfl⟩
  have hysl : ys.length = xs.length := by have := congrArg List.length hys; simp at this; omega
  have hmx := max_is hm (hys ▸ maxFrom_is y0 ys)
  have HM := hid (fun v w (h : IntsAt w v (xs ++ [0])) => max_any v y0 ys w (hys ▸ h) (by omega) (fun y hy => by
    rw [← hys] at hy
    rcases List.mem_append.1 hy with h | h
    · have := hm y h; omega
    · simp at h; omega))
  rw [hmx] at HM
  have hsm := natsOf_mem hm
  have hM : maxL (natsOf xs) ≤ 65535 := by
    rcases maxL_mem (natsOf xs) with e | e
    · omega
    · exact hsm _ e
  have hbl := blen_bitLen (maxL (natsOf xs)) (by omega)
  have hwid : widN (natsOf xs) = blen (maxL (natsOf xs)) := rfl
  rw [hwid]
  obtain ⟨M, hMM⟩ : ∃ M, maxL (natsOf xs) = M := ⟨_, rfl⟩
  rw [hMM] at HM hM hbl ⊢
  have HLn : Hid (∀ W, Calls Tryd.prog 59 #[.int .u64 (M : Int)] W fun e w' => e = .returned (.int .i64 (blen M : Int)) ∧ W = w') := fun W => (Tryd.bits_Len (M : Int) W (by omega) (by omega)).mono fun e w' ⟨he, hw⟩ => ⟨by rw [he, Int.toNat_natCast, hbl], hw.symm⟩
  have hmax : max (0 : Int) (M : Int) = (M : Int) := by omega
  have im := ite_max
  have hold : ∀ ao cap, v = .slice ao xs.length cap → ∀ b, ao = some b → ∀ j u, (xs.map (Value.int .i64))[j]? = some u → (w.alloc (.cells #[.int .i64 0] 3)).cell? (b.add j) = some u := by
    intro ao cap hv2 a ha2 j u hj
    obtain ⟨ao', cap', e1, _, _, _, hA⟩ := hv
    rw [hv2] at e1
    simp only [Value.slice.injEq, true_and] at e1
    obtain ⟨rfl, rfl⟩ := e1
    have hjl : j < xs.length := by
      have := (List.getElem?_eq_some_iff.1 hj).1
      simpa using this
    obtain ⟨b, off, e2, hc⟩ := hA (by omega)
    rw [ha2] at e2
    obtain rfl := Option.some.inj e2
    have e3 := hc j hjl
    have e4 : (⟨b, off, none⟩ : Addr).add j = ⟨b, off + j, none⟩ := by unfold Addr.add; split <;> simp_all
    rw [e4, World.cell?_alloc_past _ _ _ (World.block_lt_of_cell? _ _ e3), e3]
    rw [List.getElem?_map, List.getElem?_eq_getElem hjl] at hj
    rw [List.getElem?_eq_getElem hjl]
    simpa using hj
  obtain ⟨ao, cap, rfl, hl1, hl2, hl3, hA⟩ := hv
  have HO := hid (hold ao cap rfl)
  have HE : Hid (∀ vv W B, W.ownsRow B 3 1 vv (xs.length + 1) (xs.map (Value.int .i64) ++ [.int .i64 0]) → IntsAt W vv (xs ++ [0])) := fun vv W B hW => IntsAt.own (base := B) (e := 3) (by rw [List.length_append, List.map_append]; exact hW)
  have HN : Hid (ao = none → xs.length = 0 ∧ xs.length = 0) := fun h => by have := hl3 h; omega
  have HC0 := hid hl3
  unfold maxLen at hl2
  have HML : Hid ((xs.map (Value.int .i64)).length = xs.length * 1) := by unfold Hid; simp
  clear ha h hm hsm hmx hys hysl hA hMM hwid hbl hold hl3
  cases ao with
  | none =>
    have h0 := (HN.out rfl).1
    obtain rfl : xs = [] := List.length_eq_zero_iff.1 h0
    obtain rfl : cap = 0 := by have := HC0.out rfl; exact this
    clear h0 HN HML HO
    simp only [List.length_nil] at HC
    go_enter Tryd.func34, Tryd.ntmps34
    go_wp2_with (first
      | (go_at_call 58; ((with_reducible refine (HC.out).mono ?_); rintro e w2 ⟨rfl, rfl⟩))
      | (at_builtin; go_loud (refine wpList_append_grows _ rfl _ _ 42 rfl 3 iu (.int .i64 0) 1 8 Tryd.underlying42 hui huz0 huz1 huz2 rfl (by decide) none 0 0 [] rfl (fun _ => ⟨rfl, rfl⟩) rfl (fun b e => by cases e) ⟨w.heap.size, 0, none⟩ 1 1 [.int .i64 0] rfl rfl (one_new _ _ _) (one_int _ _) (by omega) (by unfold maxLen; omega) (by omega) ?_); intro vv w1 hown1 hgrow1)
      | (go_at_call 60; ((with_reducible refine (HM.out _ _ (HE.out _ _ _ hown1)).mono ?_); rintro e w3 ⟨rfl, rfl⟩))
      | (go_at_call 59; ((with_reducible refine (HLn.out _).mono ?_); rintro e w4 ⟨rfl, rfl⟩)))
    go_ret2
    exact ⟨rfl, ((Below.refl _ _).alloc (Nat.le_refl _) _).grown hgrow1 (by simp) (fun r e => by cases e)⟩
  | some a =>
    go_enter Tryd.func34, Tryd.ntmps34
    go_wp2_with (first
      | (go_at_call 58; ((with_reducible refine (HC.out).mono ?_); rintro e w2 ⟨rfl, rfl⟩))
      | (at_builtin; go_loud (refine wpList_append_grows _ rfl _ _ 42 rfl 3 iu (.int .i64 0) 1 8 Tryd.underlying42 hui huz0 huz1 huz2 rfl (by decide) (some a) xs.length xs.length (xs.map (Value.int .i64)) rfl HN.out HML.out HO.out ⟨w.heap.size, 0, none⟩ 1 1 [.int .i64 0] rfl rfl (one_new _ _ _) (one_int _ _) (by omega) (by unfold maxLen; omega) (by omega) ?_); intro vv w1 hown1 hgrow1)
      | (go_at_call 60; ((with_reducible refine (HM.out _ _ (HE.out _ _ _ hown1)).mono ?_); rintro e w3 ⟨rfl, rfl⟩))
      | (go_at_call 59; ((with_reducible refine (HLn.out _).mono ?_); rintro e w4 ⟨rfl, rfl⟩)))
    go_ret2
    exact ⟨rfl, ((Below.refl _ _).alloc (Nat.le_refl _) _).grown hgrow1 (by simp) (fun r e => by cases e)⟩
end Go.Proofs.YtpgifmccajcgkaaDoor
