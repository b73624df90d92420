/- Varints: the walk of VarintSizes. -/
import Derived.Test.YtpgifmccajcgkaaDoorVarS
import Derived.Test.YtpgifmccajcgkaaDoorOpenA
namespace Go.Proofs.YtpgifmccajcgkaaDoor
set_option linter.unusedVariables false
set_option linter.unusedSimpArgs false
open Go.ChangeShapes Go.WideShapes Go.ChangeAt Go.RowKit Go.Joins

theorem putB_step {m : Nat} (h : 128 ≤ m) : (putB m).length = (putB (m / 128)).length + 1 := by rw [putB_big h]; simp
theorem putB_one {m : Nat} (h : m < 128) : (putB m).length = 1 := by rw [putB_small h]; simp

set_option maxRecDepth 100000 in
set_option maxHeartbeats 1000000 in
theorem VarintSizes_walk (n : Int) (hn : U64 n) (m : Int) (hm : U64 m) (W : World) (am an : Addr) (hS : Sent am an W) :
    Calls Tryd.prog 3 #[.int .u64 n, .int .u64 m] W fun e w' => e = .returned (.bool true) ∧ Below W.heap.size W w' := by
  obtain ⟨n, rfl⟩ := Int.eq_ofNat_of_zero_le hn.1
  obtain ⟨m, rfl⟩ := Int.eq_ofNat_of_zero_le hm.1
  have hn2 : n ≤ 18446744073709551615 := by have := hn.2; omega
  have hm2 : m ≤ 18446744073709551615 := by have := hm.2; omega
  have HP1 := hid (fun w => put1_any n hn2 w)
  have HP2 := hid (fun w => put1_any m hm2 w)
  have hln := putB_ten hn2
  have hlm := putB_ten hm2
  have hmono : n ≤ m → (putB n).length ≤ (putB m).length := putB_mono
  have HST := hid (fun m (h : 128 ≤ m) => putB_step h)
  have HON := hid (fun m (h : m < 128) => putB_one h)
  obtain ⟨sn, hsn, hsz⟩ : ∃ sn : ByteArray, strV (putB n) = .string sn ∧ sn.size = (putB n).length := ⟨⟨(putB n).toArray⟩, rfl, by simp [ByteArray.size]⟩
  obtain ⟨sm, hsm, hsz2⟩ : ∃ sm : ByteArray, strV (putB m) = .string sm ∧ sm.size = (putB m).length := ⟨⟨(putB m).toArray⟩, rfl, by simp [ByteArray.size]⟩
  rw [hsn] at HP1
  rw [hsm] at HP2
  have HSZ := hid hsz
  rw [← hsz] at hln hmono
  rw [← hsz2] at hlm hmono
  have HSH := hid (shown_any am an W hS)
  clear hsn hsm hsz hsz2 hS
  by_cases hnm : n ≤ m
  · have hle := hmono hnm
    clear hmono
    have hnm2 : ¬ m < n := by omega
    go_enter Tryd.func3, Tryd.ntmps3
    go_wp2_with (go_at_call 16; ((with_reducible refine (HSH.out).mono ?_); rintro e w1 ⟨rfl, hb1⟩))
    go_loop [6, 7] (fun z k => ∃ s j : Nat, z = .int .i64 s ∧ k = .int .u64 j ∧ s + (putB j).length = sn.size + 1 ∧ j ≤ n) (fun _ k => (intOf k).toNat)
    case atStart => exact ⟨1, n, rfl, rfl, by rw [HSZ.out]; omega, Nat.le_refl _⟩
    case round =>
      obtain ⟨s, j, rfl, rfl, hs, hjn⟩ := hrel
      by_cases hj : 128 ≤ j
      · have h1 := HST.out _ hj
        have hs2 := hid (show s + 1 + (putB (j / 128)).length = sn.size + 1 by omega)
        have hs3 : s ≤ sn.size + 1 := by omega
        clear hs h1
        go_wp2
        go_round
        case rel => exact ⟨s + 1, j / 128, by go_num, by go_num, hs2.out, by omega⟩
        case measure => simp [intOf]; omega
      · have h1 := HON.out _ (show j < 128 by omega)
        obtain rfl : s = sn.size := by omega
        clear hs h1
        go_wp2_with (go_at_call 17; first
          | ((with_reducible refine (HP1.out _).mono ?_); rintro e w2 ⟨rfl, hb2⟩)
          | ((with_reducible refine (HP2.out _).mono ?_); rintro e w3 ⟨rfl, hb3⟩))
        go_ret
        exact ⟨rfl, by (repeat' (first | (with_reducible exact Below.refl _ _) | (with_reducible assumption) | (with_reducible refine Below.new ?_ _) | (with_reducible refine Below.alloc ?_ ?_ _) | (with_reducible refine Below.drew ?_) | (with_reducible refine Below.setCell ?_ ?_ _) | (refine Below.step ?_ (by assumption)) | go_size))⟩
  · have hnm2 : m < n := by omega
    clear hmono hnm
    go_enter Tryd.func3, Tryd.ntmps3
    go_wp2_with (go_at_call 16; ((with_reducible refine (HSH.out).mono ?_); rintro e w1 ⟨rfl, hb1⟩))
    go_loop [6, 7] (fun z k => ∃ s j : Nat, z = .int .i64 s ∧ k = .int .u64 j ∧ s + (putB j).length = sn.size + 1 ∧ j ≤ n) (fun _ k => (intOf k).toNat)
    case atStart => exact ⟨1, n, rfl, rfl, by rw [HSZ.out]; omega, Nat.le_refl _⟩
    case round =>
      obtain ⟨s, j, rfl, rfl, hs, hjn⟩ := hrel
      by_cases hj : 128 ≤ j
      · have h1 := HST.out _ hj
        have hs2 := hid (show s + 1 + (putB (j / 128)).length = sn.size + 1 by omega)
        have hs3 : s ≤ sn.size + 1 := by omega
        clear hs h1
        go_wp2
        go_round
        case rel => exact ⟨s + 1, j / 128, by go_num, by go_num, hs2.out, by omega⟩
        case measure => simp [intOf]; omega
      · have h1 := HON.out _ (show j < 128 by omega)
        obtain rfl : s = sn.size := by omega
        clear hs h1
        go_wp2_with (go_at_call 17; first
          | ((with_reducible refine (HP1.out _).mono ?_); rintro e w2 ⟨rfl, hb2⟩)
          | ((with_reducible refine (HP2.out _).mono ?_); rintro e w3 ⟨rfl, hb3⟩))
        go_ret
        exact ⟨rfl, by (repeat' (first | (with_reducible exact Below.refl _ _) | (with_reducible assumption) | (with_reducible refine Below.new ?_ _) | (with_reducible refine Below.alloc ?_ ?_ _) | (with_reducible refine Below.drew ?_) | (with_reducible refine Below.setCell ?_ ?_ _) | (refine Below.step ?_ (by assumption)) | go_size))⟩
end Go.Proofs.YtpgifmccajcgkaaDoor
