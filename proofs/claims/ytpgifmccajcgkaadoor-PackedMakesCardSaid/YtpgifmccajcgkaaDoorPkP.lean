/- Packed lists: the reference's 'Width' and 'digits'. -/
import Derived.Test.YtpgifmccajcgkaaDoorPwidthsW
namespace Go.Proofs.YtpgifmccajcgkaaDoor
set_option linter.unusedVariables false
set_option linter.unusedSimpArgs false
open Go.ChangeShapes Go.WideShapes Go.ChangeAt Go.RowKit Go.Joins

set_option maxRecDepth 100000 in
set_option maxHeartbeats 2000000 in
theorem digits_any (n w : Nat) (hn : n ≤ 65535) (hw : w ≤ 16) (W : World) :
    Calls Tryd.prog 56 #[.int .i64 (n : Int), .int .i64 (w : Int)] W fun e w' => ∃ v, e = .returned v ∧ w'.ownsRow W.heap.size 3 1 v w ((intsOf (dig w n)).map (Value.int .i64)) ∧ (v = .slice none 0 0 ↔ w = 0) ∧ Below W.heap.size W w' := by
  obtain ⟨i0, hi, hiz0, hiz1, hiz2⟩ := info_parts info_int
  go_enter Tryd.func56, Tryd.ntmps56
  go_wp2
  go_loopw [5, 6] (fun v i wr => ∃ (r : Nat) (P : List Nat), P.length + r = w ∧ i = .int .i64 ((r : Int) - 1) ∧ P ++ dig r n = dig w n ∧ wr.ownsRow W.heap.size 3 1 v P.length ((intsOf P).map (Value.int .i64)) ∧ (v = .slice none 0 0 ↔ P.length = 0) ∧ Below W.heap.size W wr) (fun _ i _ => (intOf i + 1).toNat)
  case atStart => exact ⟨w, [], by simp, by go_num, rfl, World.ownsRow_nil _ _ _ _, by simp, Below.refl _ _⟩
  case round =>
    obtain ⟨r, P, hl, rfl, hP, hown, hnil, hbel⟩ := hrel
    obtain ⟨N, hN⟩ : ∃ N, P.length = N := ⟨_, rfl⟩
    rw [hN] at hl hown hnil
    have hsz := hbel.size
    cases r with
    | succ j =>
      rw [show ((j + 1 : Nat) : Int) - 1 = (j : Int) by omega]
      obtain ⟨q, hq⟩ : ∃ q, n / 2 ^ j = q := ⟨_, rfl⟩
      have hsh : (n : Int) / 2 ^ j = (q : Int) := by
        have : ((n : Int) / 2 ^ j) = ((n / 2 ^ j : Nat) : Int) := by simp
        rw [this, hq]
      have hq2 : q ≤ 65535 := by rw [← hq]; exact Nat.le_trans (Nat.div_le_self _ _) hn
      have htm : (q : Int).tmod 2 = ((q % 2 : Nat) : Int) := rfl
      have htm2 : (q : Int) % 2 = ((q % 2 : Nat) : Int) := rfl
      obtain ⟨d, hd⟩ : ∃ d, q % 2 = d := ⟨_, rfl⟩
      rw [hd] at htm htm2
      have hd2 : d < 2 := by omega
      have hP2 : (P ++ [d]) ++ dig j n = dig w n := by rw [← hP, dig, hq, hd]; simp
      have HP := hid hP2; have HN := hid hN
      clear hP hq hd hP2 hN hnil
      have hj : j < 16 := by omega
      go_wp2_with (at_builtin; go_loud (refine wpList_append_own _ rfl _ _ 42 rfl (W.heap.size) 3 i0 (.int .i64 0) 1 8 Tryd.underlying42 hi hiz0 hiz1 hiz2 rfl (by decide) _ _ _ rfl (hown.alloc _) ⟨wr.heap.size, 0, none⟩ 1 1 [.int .i64 ((d : Int))] rfl rfl (one_new _ _ _) (one_int _ _) (by unfold maxLen; omega) (by omega) (by simp; omega) ?_); intro v' w1' hown' hgrow' hnil')
      have hown2 : w1'.ownsRow W.heap.size 3 1 v' (P ++ [d]).length ((intsOf (P ++ [d])).map (Value.int .i64)) := by
        rw [List.length_append, HN.out]
        unfold intsOf
        rw [List.map_append, List.map_append]
        exact hown'
      have hb2 : Below W.heap.size W w1' := (hbel.alloc hsz _).grown hgrow' (by simp; omega) (fun r e => (hown.lt r e).1)
      have hl2 : (P ++ [d]).length = N + 1 := by rw [List.length_append, HN.out]; rfl
      go_roundw
      case rel => exact ⟨j, P ++ [d], by omega, by go_num, HP.out, hown2, by rw [hl2]; simpa using hnil', hb2⟩
      case measure => simp [intOf]
    | zero =>
      obtain rfl : N = w := by omega
      have hPe : P = dig N n := by simpa [dig] using hP
      obtain ⟨ao, cap, rfl⟩ := hown.shape
      have HO := hid hown; have HPE := hid hPe; have HNIL := hid hnil
      clear hown hP hPe hN hnil
      go_wp2
      go_ret
      exact ⟨_, rfl, HPE.out ▸ HO.out, HNIL.out, hbel⟩

set_option maxRecDepth 100000 in
set_option maxHeartbeats 2000000 in
theorem refWidth_bad (ao : Option Addr) (cap : Nat) (ys : List Int) (W : World) (hr : RowAt W ao ys) (hM : ys.length ≤ 1000000) (h4 : ∀ k, k < ys.length → I64 (ys[k]?.getD 0)) (hok : okW ys = false) :
    Calls Tryd.prog 35 #[.slice ao ys.length cap] W fun e w' => e = .returned (.tuple #[.int .i64 0, .int .i64 40]) ∧ Below W.heap.size W w' := by
  have HR := hid hr
  have H4 := hid h4
  have HO : Hid (∀ (h : ys.length ≤ 1000), (∀ j, j < ys.length → 0 ≤ ys[j]?.getD 0 ∧ ys[j]?.getD 0 ≤ 65535) → False) := fun h g => by rw [okW_of h g] at hok; cases hok
  obtain ⟨M, hMe⟩ : ∃ M, ys.length = M := ⟨_, rfl⟩
  have HM := hid hMe
  rw [hMe] at hM HO ⊢
  have im := ite_max
  clear hr h4 hMe hok
  go_enter Tryd.func35, Tryd.ntmps35
  go_wp2
  go_loopw [4, 5] (fun v i wr => ∃ k m : Nat, k ≤ M ∧ i = .int .i64 k ∧ v = .int .i64 m ∧ m ≤ 65535 ∧ (∀ j, j < k → 0 ≤ ys[j]?.getD 0 ∧ ys[j]?.getD 0 ≤ 65535) ∧ Below W.heap.size W wr) (fun _ i _ => M - (intOf i).toNat)
  case atStart => exact ⟨0, 0, Nat.zero_le _, rfl, rfl, by omega, by simp, Below.refl _ _⟩
  case round =>
    obtain ⟨k, m, hk, rfl, rfl, hm, hpre, hbel⟩ := hrel
    have HP := hid hpre; clear hpre
    by_cases hlt : k < M
    · obtain ⟨b, o, rfl, hc⟩ := HR.out (by rw [HM.out]; omega)
      have e0 := cell_step (hc k (by rw [HM.out]; omega)) hbel
      have hyr := H4.out k (by rw [HM.out]; exact hlt)
      obtain ⟨y, hy⟩ : ∃ y, ys[k]?.getD 0 = y := ⟨_, rfl⟩
      rw [hy] at e0 hyr
      have HY := hid hy
      clear hc hy
      by_cases q1 : y < 0
      · go_wp2
        go_ret2
        exact ⟨rfl, hbel⟩
      · by_cases q2 : 65535 < y
        · go_wp2
          go_ret2
          exact ⟨rfl, hbel⟩
        · obtain ⟨Y, rfl⟩ := Int.eq_ofNat_of_zero_le (show 0 ≤ y by omega)
          have hmx : max (m : Int) (Y : Int) = ((max m Y : Nat) : Int) := by omega
          obtain ⟨z, hz⟩ : ∃ z, max m Y = z := ⟨_, rfl⟩
          rw [hz] at hmx
          have hz2 : z ≤ 65535 := by omega
          clear hz
          go_wp2
          go_roundw
          case rel =>
            refine ⟨k + 1, z, by omega, by go_num, rfl, hz2, fun j hj => ?_, hbel⟩
            by_cases hjk : j < k
            · exact HP.out j hjk
            · obtain rfl : j = k := by omega
              rw [HY.out]; omega
          case measure => simp [intOf]; omega
    · obtain rfl : k = M := by omega
      have hbig : 1000 < k := by
        by_cases h : k ≤ 1000
        · exact (HO.out h (by rw [HM.out] at *; exact HP.out)).elim
        · omega
      go_wp2
      go_ret2
      exact ⟨rfl, hbel⟩

set_option maxRecDepth 100000 in
set_option maxHeartbeats 2000000 in
theorem refWidth_good (ao : Option Addr) (cap : Nat) (ys : List Int) (W : World) (hr : RowAt W ao ys) (hok : okW ys = true) :
    Calls Tryd.prog 35 #[.slice ao ys.length cap] W fun e w' => e = .returned (.tuple #[.int .i64 (widN (natsOf ys) : Int), .int .i64 0]) ∧ Below W.heap.size W w' := by
  obtain ⟨hol, hom⟩ := okW_mem hok
  have hsm := natsOf_mem hom
  have HR := hid hr
  have HST := hid (fun k hk => max_step (ys := ys) hom (k := k) hk)
  obtain ⟨mx, hmx⟩ : ∃ mx, maxL (natsOf ys) = mx := ⟨_, rfl⟩
  have hmx2 : mx ≤ 65535 := by
    rw [← hmx]
    rcases maxL_mem (natsOf ys) with e | e
    · omega
    · exact hsm _ e
  have hwd : widN (natsOf ys) = blen mx := by rw [← hmx]; rfl
  rw [hwd]
  have hbl : blen mx ≤ 16 := hwd ▸ widN_le hsm
  obtain ⟨bx, hbx⟩ : ∃ bx, blen mx = bx := ⟨_, rfl⟩
  rw [hbx] at hbl ⊢
  have HBX := hid hbx
  obtain ⟨M, hMe⟩ : ∃ M, ys.length = M := ⟨_, rfl⟩
  have HM := hid hMe
  have HMX := hid hmx
  rw [hMe] at HST hol ⊢
  have im := ite_max
  clear hr hMe hok hom hsm hwd hmx hbx
  go_enter Tryd.func35, Tryd.ntmps35
  go_wp2
  go_loopw [4, 5] (fun v i wr => ∃ k : Nat, k ≤ M ∧ i = .int .i64 k ∧ v = .int .i64 (maxL (natsOf (ys.take k)) : Int) ∧ Below W.heap.size W wr) (fun _ i _ => M - (intOf i).toNat)
  case atStart => exact ⟨0, Nat.zero_le _, rfl, rfl, Below.refl _ _⟩
  case round =>
    obtain ⟨k, hk, rfl, rfl, hbel⟩ := hrel
    by_cases hlt : k < M
    · obtain ⟨b, o, rfl, hc⟩ := HR.out (by rw [HM.out]; omega)
      have e0 := cell_step (hc k (by rw [HM.out]; omega)) hbel
      obtain ⟨hst, hm, hy0, hy1⟩ := HST.out k hlt
      obtain ⟨y, hy⟩ : ∃ y, ys[k]?.getD 0 = y := ⟨_, rfl⟩
      obtain ⟨m, hme⟩ : ∃ m, maxL (natsOf (ys.take k)) = m := ⟨_, rfl⟩
      obtain ⟨m', hm'⟩ : ∃ m', maxL (natsOf (ys.take (k + 1))) = m' := ⟨_, rfl⟩
      rw [hy] at e0 hst hy0 hy1
      rw [hme] at hst hm ⊢
      rw [hm'] at hst
      have HM' := hid hm'
      clear hc hy hme hm'
      go_wp2
      go_roundw
      case rel => exact ⟨k + 1, by omega, by go_num, by rw [HM'.out], hbel⟩
      case measure => simp [intOf]; omega
    · obtain rfl : k = M := by omega
      rw [show maxL (natsOf (ys.take k)) = mx by rw [← HMX.out, ← HM.out, List.take_length]]
      go_wp2
      go_loopw [4, 6] (fun v c wx => ∃ m q : Nat, v = .int .i64 m ∧ c = .int .i64 q ∧ q + blen m = bx ∧ m ≤ 65535 ∧ Below W.heap.size W wx) (fun v _ _ => (intOf v).toNat)
      case atStart => exact ⟨mx, 0, rfl, rfl, by rw [HBX.out]; omega, hmx2, hbel⟩
      case round =>
        clear hbel
        obtain ⟨m, q, rfl, rfl, hq, hm, hbel⟩ := hrel
        by_cases hm0 : m = 0
        · subst hm0
          have hqb : q = bx := by rw [blen, if_pos rfl] at hq; omega
          subst hqb
          clear hq
          go_wp2
          go_ret2
          exact ⟨rfl, hbel⟩
        · rw [blen, if_neg hm0] at hq
          have hpos : (0 : Int) < (m : Int) := by omega
          have hdiv : (m : Int).tdiv 2 = ((m / 2 : Nat) : Int) := rfl
          have hdiv2 : (m : Int) / 2 = ((m / 2 : Nat) : Int) := rfl
          obtain ⟨h, hh⟩ : ∃ h, m / 2 = h := ⟨_, rfl⟩
          rw [hh] at hdiv hdiv2 hq
          have hhl : h < m := by omega
          have hqq : q ≤ 16 := by omega
          have HQ := hid hq
          clear hh hq
          go_wp2
          go_roundw
          case rel => exact ⟨h, q + 1, by go_num, by go_num, by have := HQ.out; omega, by omega, hbel⟩
          case measure => simp [intOf]; omega

/-- 'Width' by definition. -/
theorem refWidth_any (ao : Option Addr) (cap : Nat) (ys : List Int) (W : World) (hr : RowAt W ao ys) (hM : ys.length ≤ 1000000) (h4 : ∀ k, k < ys.length → I64 (ys[k]?.getD 0)) :
    Calls Tryd.prog 35 #[.slice ao ys.length cap] W fun e w' => e = .returned (.tuple #[.int .i64 ((widthV ys).1 : Int), .int .i64 ((widthV ys).2 : Int)]) ∧ Below W.heap.size W w' := by
  unfold widthV
  cases hok : okW ys with
  | true => exact refWidth_good ao cap ys W hr hok
  | false => exact refWidth_bad ao cap ys W hr hM h4 hok
end Go.Proofs.YtpgifmccajcgkaaDoor
