/- Packed lists: the reference's 'Ints'; the law's 'few' and 'cut'. -/
import Derived.Test.YtpgifmccajcgkaaDoorSame
import Derived.Test.YtpgifmccajcgkaaDoorPkE
namespace Go.Proofs.YtpgifmccajcgkaaDoor
set_option linter.unusedVariables false
set_option linter.unusedSimpArgs false
open Go.ChangeShapes Go.WideShapes Go.ChangeAt Go.RowKit

set_option maxHeartbeats 1000000 in
theorem ints_any (va vb : Value) (xs ys : List Int) (w : World) (ha : IntsAt w va xs) (hb : IntsAt w vb ys) (hx : xs.length ≤ 1000000000) (hy : ys.length ≤ 1000000000) :
    Calls Tryd.prog 40 #[va, vb] w fun e w' => e = .returned (.bool (decide (xs = ys))) ∧ Below w.heap.size w w' := by
  obtain ⟨ao, cap, rfl, hA⟩ := ha
  obtain ⟨bo, cap', rfl, hB⟩ := hb
  by_cases hlen : xs.length = ys.length
  · have hl' := hid hlen
    rw [← hlen] at hB hy ⊢
    clear hlen
    by_cases h0 : 0 < xs.length
    · obtain ⟨a, oa, rfl, hca⟩ := hA h0
      obtain ⟨b, ob, rfl, hcb⟩ := hB h0
      clear hA hB
      have HA := hid hca; have HB := hid hcb; clear hca hcb
      go_enter Tryd.func40, Tryd.ntmps40
      go_wp2
      go_loopw [5] (fun i wr => ∃ k : Nat, k ≤ xs.length ∧ i = .int .i64 k ∧ xs.take k = ys.take k ∧ Below w.heap.size w wr) (fun i _ => xs.length - (intOf i).toNat)
      case atStart => exact ⟨0, Nat.zero_le _, rfl, rfl, Below.refl _ _⟩
      case round =>
        obtain ⟨k, hk, rfl, htake, hbel⟩ := hrel
        have HT := hid htake; clear htake
        by_cases hlt : k < xs.length
        · have e1 := HA.out k hlt
          have e2 := HB.out k hlt
          have d1 := (hbel.cell (p := ⟨a, oa + k, none⟩) (World.block_lt_of_cell? _ _ e1)).trans e1
          have d2 := (hbel.cell (p := ⟨b, ob + k, none⟩) (World.block_lt_of_cell? _ _ e2)).trans e2
          clear e1 e2
          have hk1 : xs[k]?.getD 0 = xs[k] := by simp [hlt]
          by_cases hxy : xs[k]?.getD 0 = ys[k]?.getD 0
          · have HS := hid (take_succ_eq hl'.out k hlt HT.out hxy)
            rw [← hxy] at d2
            clear hxy
            go_wp2
            go_quiet (fail)
            go_wp2
            go_roundw
            case rel => exact ⟨k + 1, hlt, by go_num, HS.out, hbel.drewN _⟩
            case measure => simp [intOf]; omega
          · have HS := hid (take_ne_of hl'.out k hlt hxy)
            have hne : (xs[k] == ys[k]?.getD 0) = false := by rw [← hk1]; simpa using hxy
            have hne2 : (xs[k] != ys[k]?.getD 0) = true := by rw [← hk1]; simpa using hxy
            clear hxy
            go_wp2
            go_quiet (fail)
            go_wp2
            go_ret
            exact ⟨ret_bool (by simp [HS.out]), hbel.drewN _⟩
        · obtain rfl : k = xs.length := by omega
          go_wp2
          go_ret
          refine ⟨ret_bool ?_, hbel⟩
          have h1 := HT.out
          rw [List.take_length, hl'.out, List.take_length] at h1
          simp [h1]
    · have h1 : xs = [] := List.length_eq_zero_iff.1 (by omega)
      have h2 : ys = [] := List.length_eq_zero_iff.1 (by have := hl'.out; omega)
      subst h1; subst h2
      clear hA hB hx hy h0
      go_enter Tryd.func40, Tryd.ntmps40
      go_wp2
      refine wp_loop_rounds 1 ?_
      rw [rounds_succ]
      go_wp2
      go_ret
      exact ⟨rfl, Below.refl _ _⟩
  · have hne : ¬ xs = ys := fun h => hlen (by rw [h])
    have hlen' : ((xs.length : Int) != (ys.length : Int)) = true := by simpa using (fun h => hlen (by exact_mod_cast h))
    have hlen'' : ((xs.length : Int) == (ys.length : Int)) = false := by simpa using (fun h => hlen (by exact_mod_cast h))
    have HN := hid hne; clear hne hA hB
    go_enter Tryd.func40, Tryd.ntmps40
    go_wp2
    go_ret
    exact ⟨ret_bool (by simp [HN.out]), Below.refl _ _⟩

theorem pfew_nil (w : World) : Calls Tryd.prog 32 #[.slice none 0 0] w fun e w' => e = .returned (.slice none 0 0) ∧ w = w' := by
  go_enter Tryd.func32, Tryd.ntmps32
  go_wp2
  ((show bodyPost _ _ _ _ _ _); refine bodyPost_ret (by simp only [results, Tryd.results32]; go_simp; try rfl) rfl ?_)
  exact ⟨rfl, rfl⟩
theorem pfew_some (a : Addr) (n cap : Nat) (h1 : n ≤ cap) (h2 : cap ≤ maxLen) (w : World) : Calls Tryd.prog 32 #[.slice (some a) n cap] w fun e w' => e = .returned (.slice (some a) (min n 1010) cap) ∧ w = w' := by
  simp only [maxLen] at h2
  have im := ite_min
  go_enter Tryd.func32, Tryd.ntmps32
  go_wp2
  ((show bodyPost _ _ _ _ _ _); refine bodyPost_ret (by simp only [results, Tryd.results32]; go_simp; try rfl) rfl ?_)
  exact ⟨by rw [show (min (n : Int) 1010).toNat = min n 1010 by omega], rfl⟩
theorem pfew_any (ao : Option Addr) (cap : Nat) (xs : List Int) (w : World) (h1 : xs.length ≤ cap) (h2 : cap ≤ maxLen) (h3 : ao = none → cap = 0) :
    Calls Tryd.prog 32 #[.slice ao xs.length cap] w fun e w' => e = .returned (.slice ao (xs.take 1010).length cap) ∧ w = w' := by
  have e : (xs.take 1010).length = min xs.length 1010 := by rw [List.length_take, Nat.min_comm]
  rw [e]
  cases ao with
  | none =>
    have := h3 rfl
    subst this
    have : xs.length = 0 := by omega
    rw [this]
    exact pfew_nil w
  | some a => exact pfew_some a _ cap h1 h2 w

theorem pcut_any (s : ByteArray) (hs : s.size ≤ 9223372036854775807) (w : World) : Calls Tryd.prog 37 #[.string s] w fun e w' => e = .returned (.string (s.extract 0 (min s.size 2010))) ∧ w = w' := by
  by_cases hn : s.size ≤ 2010
  · have e : min s.size 2010 = s.size := by omega
    rw [e]
    clear e
    go_enter Tryd.func37, Tryd.ntmps37
    go_wp2
    ((show bodyPost _ _ _ _ _ _); refine bodyPost_ret (by simp only [results, Tryd.results37]; go_simp; try rfl) rfl ?_)
    exact ⟨by rw [show (min (s.size : Int) 2010).toNat = s.size by omega], rfl⟩
  · have e : min s.size 2010 = 2010 := by omega
    have hn2 : 2010 < s.size := by omega
    rw [e]
    clear e hn
    go_enter Tryd.func37, Tryd.ntmps37
    go_wp2
    ((show bodyPost _ _ _ _ _ _); refine bodyPost_ret (by simp only [results, Tryd.results37]; go_simp; try rfl) rfl ?_)
    exact ⟨by rw [show (min (s.size : Int) 2010).toNat = 2010 by omega], rfl⟩
end Go.Proofs.YtpgifmccajcgkaaDoor
