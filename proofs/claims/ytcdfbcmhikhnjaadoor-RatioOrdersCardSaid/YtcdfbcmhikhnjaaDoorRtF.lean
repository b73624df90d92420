/- Ratio: the reference's 'neg', 'digits', 'bits'. -/
import Derived.Test.YtcdfbcmhikhnjaaDoorRtE
import Derived.Test.YtcdfbcmhikhnjaaDoorWideB
import Derived.Test.YtcdfbcmhikhnjaaDoorInfo
import Derived.Test.YtcdfbcmhikhnjaaDoorPkA
import Derived.Deep.DeepCutAuto
import Derived.Deep.RegionWith
namespace Go.Proofs.YtcdfbcmhikhnjaaDoor
set_option linter.unusedVariables false
set_option linter.unusedSimpArgs false
set_option maxRecDepth 100000
open Go.ChangeShapes Go.WideShapes Go.ChangeAt Go.RowKit Go.Fl

theorem rNeg_any (n : Int) (w : World) : Calls Tryd.prog 15 #[(Value.agg #[.int .i64 (hiW (n)), .int .u64 (loW (n))])] w fun e w' => e = .returned ((Value.agg #[.int .i64 (hiW (-n)), .int .u64 (loW (-n))])) ∧ Below w.heap.size w w' := by
  have h := refNeg_words (hiW n) (loW n) (hiW_is n) (loW_is n) w
  rw [wv_eq (n := -(hiW n * 18446744073709551616 + loW n)) (m := -n) (by have := words n; omega)] at h
  exact h
theorem rneg_any (H L : Int) (w : World) : Calls Tryd.prog 46 #[.agg #[.int .i64 H, .int .u64 L]] w fun e w' => e = .returned (.bool (decide (H < 0))) ∧ Below w.heap.size w w' := by
  go_enter Tryd.func46, Tryd.ntmps46
  go_wp2
  go_ret
  exact ⟨rfl, by (repeat' (first | (with_reducible exact Below.refl _ _) | (with_reducible assumption) | (with_reducible refine Below.new ?_ _) | (with_reducible refine Below.alloc ?_ ?_ _) | (with_reducible refine Below.drew ?_) | (with_reducible refine Below.drewN ?_ _) | (with_reducible refine Below.setCell ?_ ?_ _) | (refine Below.step ?_ (by assumption)) | go_size))⟩
theorem hi_neg {a : Int} (ha : I128 a) : decide (hiW a < 0) = decide (a < 0) := by
  rw [Bool.eq_iff_iff]
  unfold hiW
  simp
  omega
theorem dig_get : ∀ (w v j : Nat), j < w → (dig w v)[j]? = some (v / 2 ^ (w - 1 - j) % 2)
  | w + 1, v, 0, _ => by simp [dig]
  | w + 1, v, j + 1, h => by
    rw [dig, List.getElem?_cons_succ, dig_get w v j (by omega)]
    congr 4
    omega
theorem half_lo (A : Nat) {j : Nat} (hj : j < 64) : A % 2 ^ 64 / 2 ^ (j % 64) % 2 = A / 2 ^ j % 2 := by
  rw [Nat.mod_eq_of_lt hj]
  have h : (2 : Nat) ^ 64 = 2 ^ j * 2 ^ (64 - j) := by rw [← Nat.pow_add]; congr 1; omega
  rw [h, Nat.mod_mul_right_div_self, Nat.mod_mod_of_dvd _ ⟨2 ^ (64 - j - 1), by rw [← Nat.pow_succ', Nat.succ_eq_add_one, show 64 - j - 1 + 1 = 64 - j by omega]⟩]
theorem half_hi (A : Nat) {j : Nat} (h1 : 64 ≤ j) (h2 : j < 128) : A / 2 ^ 64 / 2 ^ (j % 64) % 2 = A / 2 ^ j % 2 := by
  rw [Nat.div_div_eq_div_mul, ← Nat.pow_add, show 64 + j % 64 = j by omega]
/-- Digits as values. -/
def digI (l : List Nat) : List Value := l.map fun d : Nat => Value.int .i64 (d : Int)
theorem digI_app (l : List Nat) (d : Nat) : digI l ++ [Value.int .i64 (d : Int)] = digI (l ++ [d]) := by simp [digI]
set_option maxHeartbeats 2000000 in
theorem rdigits_any (a : Int) (ha : I128 a) (w : World) :
    Calls Tryd.prog 44 #[(Value.agg #[.int .i64 (hiW (a)), .int .u64 (loW (a))])] w fun e w' => ∃ v, e = .returned v ∧ w'.ownsRow (w.heap.size + 1) 3 1 v 128 (digI (dig 128 a.natAbs)) ∧ Below w.heap.size w w' := by
  obtain ⟨i0, hi, hiz0, hiz1, hiz2⟩ := info_parts info_int
  obtain ⟨A, hA⟩ : ∃ A, a.natAbs = A := ⟨_, rfl⟩
  have hA2 : A < 2 ^ 128 := by omega
  have HN := hid (fun W => rneg_any (hiW a) (loW a) W)
  rw [hi_neg ha] at HN
  have hpos : ¬ a < 0 → (Value.agg #[.int .i64 (hiW (a)), .int .u64 (loW (a))]) = (Value.agg #[.int .i64 (hiW ((A : Int))), .int .u64 (loW ((A : Int)))]) := fun h => by rw [show (A : Int) = a by omega]
  have HM : a < 0 → ∀ W, Calls Tryd.prog 15 #[(Value.agg #[.int .i64 (hiW (a)), .int .u64 (loW (a))])] W fun e w' => e = .returned ((Value.agg #[.int .i64 (hiW ((A : Int))), .int .u64 (loW ((A : Int)))])) ∧ Below W.heap.size W w' := fun h W => by
    have := rNeg_any a W
    rw [show -a = (A : Int) by omega] at this
    exact this
  rw [hA]
  obtain ⟨n1, n2⟩ := nat_words hA2
  generalize hiW a = H at *; generalize loW a = L at *
  generalize hiW (A : Int) = H2 at *
  rw [n1] at hpos HM
  have HP := hid hpos; replace HM := hid HM
  have N2 := hid n2
  have HA := hid hA2
  clear hpos hA ha n1 n2 hA2
  obtain ⟨LO, hLO⟩ : ∃ LO, A % 2 ^ 64 = LO := ⟨_, rfl⟩
  rw [hLO] at HP HM
  have HLO := hid hLO
  clear hLO
  go_enter Tryd.func44, Tryd.ntmps44
  go_upto_if 7 with (go_at_call 46; go_loud ((with_reducible refine (HN.out _).mono ?_); rintro e w1 ⟨rfl, hw1⟩))
  go_cut [1] (fun s1 wx => s1 = .pointer (some ⟨w.heap.size, 0, none⟩) ∧ wx.heap[w.heap.size]? = some (.cells #[.int .i64 H2, .int .u64 (LO : Int)] 30 (0, 0)) ∧ Below w.heap.size w wx)
  case first =>
    have s0 : (w.alloc (.cells #[.int .i64 H, .int .u64 L] 30)).cell? ⟨w.heap.size, 0, none⟩ = some (.int .i64 H) := by go_simp
    have s1 : (w.alloc (.cells #[.int .i64 H, .int .u64 L] 30)).cell? ⟨w.heap.size, 1, none⟩ = some (.int .u64 L) := by go_simp
    have e0 := cell_step s0 hw1; have e1 := cell_step s1 hw1
    by_cases h : a < 0
    · have hd : decide (a < 0) = true := by simp [h]
      have HM2 := hid (HM.out h)
      rw [hd]
      clear HM HP HN hd
      go_wp2_with (go_at_call 15; go_loud ((with_reducible refine (HM2.out _).mono ?_); rintro e w2 ⟨rfl, hw2⟩; have hA2 := (hw2.block w.heap.size (by have := hw1.size; simp at this; omega)).trans ((hw1.block w.heap.size (by simp)).trans (heap_at rfl)); obtain ⟨c0, c1, g0, g1, b1⟩ := two_is hA2)) 
      go_meet
      case rel => exact ⟨rfl, two_set hA2, by (repeat' (first | (with_reducible exact Below.refl _ _) | (with_reducible assumption) | (with_reducible refine Below.new ?_ _) | (with_reducible refine Below.alloc ?_ ?_ _) | (with_reducible refine Below.drew ?_) | (with_reducible refine Below.drewN ?_ _) | (with_reducible refine Below.setCell ?_ ?_ _) | (refine Below.step ?_ (by assumption)) | go_size))⟩
    · have hd : decide (a < 0) = false := by simp [h]
      have hp := HP.out (by omega)
      simp only [Value.agg.injEq, Array.mk.injEq, List.cons.injEq, Value.int.injEq, true_and, and_true] at hp
      obtain ⟨rfl, rfl⟩ := hp
      have hA1 := (hw1.block w.heap.size (by simp)).trans (heap_at (w := w) (o := .cells #[.int .i64 H, .int .u64 (LO : Int)] 30) rfl)
      rw [hd]
      clear HM HP HN hd
      go_wp2_with fail
      go_meet
      case rel => exact ⟨rfl, hA1, by (repeat' (first | (with_reducible exact Below.refl _ _) | (with_reducible assumption) | (with_reducible refine Below.new ?_ _) | (with_reducible refine Below.alloc ?_ ?_ _) | (with_reducible refine Below.drew ?_) | (with_reducible refine Below.drewN ?_ _) | (with_reducible refine Below.setCell ?_ ?_ _) | (refine Below.step ?_ (by assumption)) | go_size))⟩
  case rest =>
    obtain ⟨rfl, hbox, hcb⟩ := hcut
    clear hw1 HN HP HM
    obtain ⟨V, rfl⟩ : ∃ V, V = wc := ⟨_, rfl⟩
    have hVs := hcb.size
    have hbl := lt_of_block hbox
    go_wp2
    go_loopw [3, 4] (fun v i wr => ∃ (r : Nat) (P : List Nat), P.length + r = 128 ∧ i = .int .i64 ((r : Int) - 1) ∧ P ++ dig r A = dig 128 A ∧ wr.ownsRow (w.heap.size + 1) 3 1 v P.length (digI P) ∧ wr.heap[w.heap.size]? = some (.cells #[.int .i64 H2, .int .u64 (LO : Int)] 30 (0, 0)) ∧ Below w.heap.size w wr) (fun _ i _ => (intOf i + 1).toNat)
    case atStart => exact ⟨128, [], by simp, by go_num, rfl, World.ownsRow_nil _ _ _ _, hbox, hcb⟩
    case round =>
      obtain ⟨r, P, hl, rfl, hP, hown, hbx, hbel⟩ := hrel
      obtain ⟨N, hN⟩ : ∃ N, P.length = N := ⟨_, rfl⟩
      rw [hN] at hl hown
      have hsz := hbel.size
      obtain ⟨c0, c1, g0, g1, b1⟩ := two_is hbx
      cases r with
      | succ j =>
        rw [show ((j + 1 : Nat) : Int) - 1 = (j : Int) by omega]
        have hj : j < 128 := by omega
        obtain ⟨h, hh⟩ : ∃ h : Nat, h = if 64 ≤ j then A / 2 ^ 64 else LO := ⟨_, rfl⟩
        have hdd : h / 2 ^ (j % 64) % 2 = A / 2 ^ j % 2 := by
          rw [hh]
          split
          · exact half_hi A (by omega) hj
          · rw [← HLO.out]; exact half_lo A (by omega)
        obtain ⟨s, hs⟩ : ∃ s, j % 64 = s := ⟨_, rfl⟩
        have hs2 : s < 64 := by omega
        have htj : (j : Int).tmod 64 = (s : Int) := by rw [← hs]; rfl
        have htj2 : (j : Int) % 64 = (s : Int) := by omega
        rw [hs] at hdd
        obtain ⟨q, hq⟩ : ∃ q, h / 2 ^ s = q := ⟨_, rfl⟩
        have hsh : (h : Int) / 2 ^ s = (q : Int) := by
          have : ((h : Int) / 2 ^ s) = ((h / 2 ^ s : Nat) : Int) := by simp
          rw [this, hq]
        have htm : (q : Int).tmod 2 = ((q % 2 : Nat) : Int) := rfl
        have htm2 : (q : Int) % 2 = ((q % 2 : Nat) : Int) := rfl
        obtain ⟨d, hd⟩ : ∃ d, q % 2 = d := ⟨_, rfl⟩
        rw [hd] at htm htm2
        have hd2 : d < 2 := by omega
        have hP2 : (P ++ [d]) ++ dig j A = dig 128 A := by rw [← hP, dig, ← hdd, hq, hd]; simp
        have HP := hid hP2; have HN := hid hN; have HH := hid hh
        clear hP hdd hq hd hP2 hN hs hh
        rcases Nat.lt_or_ge j 64 with h64 | h64
        · have eh : h = LO := by rw [HH.out, if_neg (by omega)]
          subst eh
          clear HH
          go_wp2_with (at_builtin; go_loud (refine wpList_append_own _ rfl _ _ 61 rfl (w.heap.size + 1) 3 i0 (.int .i64 0) 1 8 Tryd.underlying61 hi hiz0 hiz1 hiz2 rfl (by decide) _ _ _ rfl (hown.alloc _) ⟨wr.heap.size, 0, none⟩ 1 1 [.int .i64 ((d : Int))] rfl rfl (one_new _ _ _) (one_int _ _) (by unfold maxLen; omega) (by omega) (by simp; omega) ?_); intro v' w1' hown' hgrow' hnil')
          have hown2 : w1'.ownsRow (w.heap.size + 1) 3 1 v' (P ++ [d]).length (digI (P ++ [d])) := by
            rw [List.length_append, HN.out, ← digI_app]
            exact hown'
          have hb2 : Below w.heap.size w w1' := (hbel.alloc hsz _).grown hgrow' (by simp; omega) (fun r e => by have := (hown.lt r e).1; omega)
          have hl2 : (P ++ [d]).length = N + 1 := by rw [List.length_append, HN.out]; rfl
          have hbx2 := (hgrow'.block w.heap.size (by simp; omega) (fun e => by have := (hown.lt _ e.symm).1; omega)).trans ((heap_past (by omega)).trans hbx)
          go_roundw
          case rel => exact ⟨j, P ++ [d], by omega, by go_num, HP.out, hown2, hbx2, hb2⟩
          case measure => simp [intOf]
        · have eh : IntKind.u64.wrap H2 = (h : Int) := by rw [N2.out, HH.out, if_pos h64]
          have h64' : 64 ≤ (j : Int) := by omega
          clear HH
          go_wp2_with (at_builtin; go_loud (refine wpList_append_own _ rfl _ _ 61 rfl (w.heap.size + 1) 3 i0 (.int .i64 0) 1 8 Tryd.underlying61 hi hiz0 hiz1 hiz2 rfl (by decide) _ _ _ rfl (hown.alloc _) ⟨wr.heap.size, 0, none⟩ 1 1 [.int .i64 ((d : Int))] rfl rfl (one_new _ _ _) (one_int _ _) (by unfold maxLen; omega) (by omega) (by simp; omega) ?_); intro v' w1' hown' hgrow' hnil')
          have hown2 : w1'.ownsRow (w.heap.size + 1) 3 1 v' (P ++ [d]).length (digI (P ++ [d])) := by
            rw [List.length_append, HN.out, ← digI_app]
            exact hown'
          have hb2 : Below w.heap.size w w1' := (hbel.alloc hsz _).grown hgrow' (by simp; omega) (fun r e => by have := (hown.lt r e).1; omega)
          have hl2 : (P ++ [d]).length = N + 1 := by rw [List.length_append, HN.out]; rfl
          have hbx2 := (hgrow'.block w.heap.size (by simp; omega) (fun e => by have := (hown.lt _ e.symm).1; omega)).trans ((heap_past (by omega)).trans hbx)
          go_roundw
          case rel => exact ⟨j, P ++ [d], by omega, by go_num, HP.out, hown2, hbx2, hb2⟩
          case measure => simp [intOf]
      | zero =>
        obtain rfl : N = 128 := by omega
        have hPe : P = dig 128 A := by simpa [dig] using hP
        obtain ⟨ao, cap, rfl⟩ := hown.shape
        have HO := hid hown; have HPE := hid hPe
        clear hown hP hPe hN
        go_wp2
        go_ret
        exact ⟨_, rfl, HPE.out ▸ HO.out, hbel⟩
end Go.Proofs.YtcdfbcmhikhnjaaDoor
