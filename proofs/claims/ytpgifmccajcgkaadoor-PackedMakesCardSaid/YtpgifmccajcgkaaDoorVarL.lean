/- Varints: the reference's 'Get'. -/
import Derived.Test.YtpgifmccajcgkaaDoorVarM
namespace Go.Proofs.YtpgifmccajcgkaaDoor
set_option linter.unusedVariables false
set_option linter.unusedSimpArgs false
open Go.ChangeShapes Go.WideShapes Go.ChangeAt Go.RowKit

theorem putB_not {p : List UInt8} {c : UInt8} (h3 : ∀ x ∈ p, 128 ≤ x.toNat) (hbad : (p ≠ [] ∧ c.toNat = 0) ∨ (p.length = 9 ∧ 1 < c.toNat)) (h2 : c.toNat < 128) : putB (valB (p ++ [c]) % 18446744073709551616) ≠ p ++ [c] := by
  intro h
  rcases hbad with ⟨hp, hc⟩ | ⟨hp, hc⟩
  · obtain ⟨l, b, e, h4, h5, h6⟩ := putB_marks (valB (p ++ [c]) % 18446744073709551616)
    rw [h] at e
    obtain ⟨e1, e2⟩ := List.append_inj' e rfl
    subst e1
    simp at e2
    subst e2
    exact h6 hp hc
  · have h4 := valB_putB (valB (p ++ [c]) % 18446744073709551616)
    rw [h] at h4
    have h5 := valB_append p [c]
    have h6 : valB [c] = c.toNat := by simp [valB, Nat.mod_eq_of_lt h2]
    have : (128 : Nat) ^ 9 = 9223372036854775808 := by decide
    rw [h6, hp, this] at h5
    omega

theorem take_at (s : ByteArray) (j : Nat) (hjs : j < s.size) : (bytesOf s).take (j + 1) = (bytesOf s).take j ++ [s[j]] := by
  rw [List.take_succ_eq_append_getElem (by simpa using hjs)]; rfl
theorem extract_take (s : ByteArray) (j : Nat) : bytesOf (s.extract 0 j) = (bytesOf s).take j := by
  show (s.extract 0 j).data.toList = s.data.toList.take j
  simp

theorem or_step1 (s : ByteArray) (k : Nat) (hk : k < 10) (hl : k < s.size) :
    bits .or .u64 ((valB ((bytesOf s).take k) % 18446744073709551616 : Nat) : Int) (IntKind.u64.wrap ((s[k].toNat : Int) % 128 * 2 ^ (7 * k))) = ((valB ((bytesOf s).take (k + 1)) % 18446744073709551616 : Nat) : Int) := by
  rw [← or_step0 s k hk hl, show ((s[k].toNat : Int) % 128) = ((s[k].toNat % 128 : Nat) : Int) by omega]

set_option maxRecDepth 100000 in
set_option maxHeartbeats 1000000 in
theorem refGet_none (s : ByteArray) (hs : s.size ≤ 9223372036854775807) (w : World) (h : ∀ c ∈ (bytesOf s).take 10, 128 ≤ c.toNat) :
    Calls Tryd.prog 20 #[.string s] w fun e w' => e = .returned (.tuple #[.int .u64 0, .string s, .int .i64 (if s.size < 10 then 21 else 20)]) ∧ Below w.heap.size w w' := by
  have hM2 := hid (show (s.size < 10 → min s.size 10 = s.size) ∧ (¬ s.size < 10 → min s.size 10 = 10) by omega)
  obtain ⟨M, hM⟩ : ∃ M : Nat, min s.size 10 = M := ⟨_, rfl⟩
  rw [hM] at hM2
  have hM1 : M ≤ 10 ∧ M ≤ s.size := by omega
  clear hM
  go_enter Tryd.func20, Tryd.ntmps20
  go_wp2
  go_loop [5, 6] (fun n i => ∃ k : Nat, k ≤ M ∧ i = .int .i64 k ∧ n = .int .u64 ((valB ((bytesOf s).take k) % 18446744073709551616 : Nat) : Int)) (fun _ i => M - (intOf i).toNat)
  case atStart => exact ⟨0, Nat.zero_le _, rfl, rfl⟩
  case round =>
    obtain ⟨k, hk, rfl, rfl⟩ := hrel
    by_cases hlt : k < M
    · have hl : k < s.size := by omega
      have hc := h s[k] (mem_take_at s k 10 (by omega) hl)
      have hc2 := s[k].toNat_lt
      have hst := or_step1 s k (by omega) hl
      obtain ⟨X, hX⟩ : ∃ X, valB ((bytesOf s).take k) % 18446744073709551616 = X := ⟨_, rfl⟩
      rw [hX] at hst ⊢
      have HS := hid hst
      clear h hst hX
      go_wp2
      go_round
      case rel => exact ⟨k + 1, by omega, by go_num, by rw [HS.out]⟩
      case measure => simp [intOf]; omega
    · obtain rfl : k = M := by omega
      clear h hlt hk
      obtain ⟨X, hX⟩ : ∃ X, valB ((bytesOf s).take k) % 18446744073709551616 = X := ⟨_, rfl⟩
      rw [hX]
      clear hX
      by_cases hlen : s.size < 10
      · obtain rfl := hM2.out.1 hlen
        have hq := hid hlen
        go_wp2
        all_goals (go_ret3; exact ⟨rfl, Below.refl _ _⟩)
      · obtain rfl := hM2.out.2 hlen
        have hq := hid hlen
        go_wp2
        all_goals (go_ret3; exact ⟨rfl, Below.refl _ _⟩)

set_option maxRecDepth 100000 in
set_option maxHeartbeats 1000000 in
theorem refGet_at (s : ByteArray) (hs : s.size ≤ 9223372036854775807) (w : World) (j : Nat) (hj : j < 10) (hjs : j < s.size) (h : ∀ i (hi : i < j), 128 ≤ (s[i]'(Nat.lt_trans hi hjs)).toNat) (hc : s[j].toNat < 128) (good : Bool)
    (Y : Nat) (hY : valB ((bytesOf s).take (j + 1)) % 18446744073709551616 = Y) (hg : decide (putB Y = (bytesOf s).take (j + 1)) = good) :
    Calls Tryd.prog 20 #[.string s] w fun e w' => e = .returned (.tuple (if good = true then #[.int .u64 (Y : Int), .string (s.extract (j + 1) s.size), .int .i64 0] else #[.int .u64 0, .string s, .int .i64 20])) ∧ Below w.heap.size w w' := by
  go_enter Tryd.func20, Tryd.ntmps20
  go_wp2
  go_loop [5, 6] (fun n i => ∃ k : Nat, k ≤ j ∧ i = .int .i64 k ∧ n = .int .u64 ((valB ((bytesOf s).take k) % 18446744073709551616 : Nat) : Int)) (fun _ i => j - (intOf i).toNat)
  case atStart => exact ⟨0, Nat.zero_le _, rfl, rfl⟩
  case round =>
    obtain ⟨k, hk, rfl, rfl⟩ := hrel
    have hl : k < s.size := by omega
    have hc2 := s[k].toNat_lt
    have hst := or_step1 s k (by omega) hl
    obtain ⟨X, hX⟩ : ∃ X, valB ((bytesOf s).take k) % 18446744073709551616 = X := ⟨_, rfl⟩
    rw [hX] at hst ⊢
    by_cases hlt : k < j
    · have hc1 := h k hlt
      have HS := hid hst
      clear h hst hX hc hg hY
      go_wp2
      go_round
      case rel => exact ⟨k + 1, by omega, by go_num, by rw [HS.out]⟩
      case measure => simp [intOf]; omega
    · obtain rfl : k = j := by omega
      clear h hX hlt hk
      have HG := hid hg
      have hYl : Y ≤ 18446744073709551615 := by omega
      rw [hY] at hst
      have HY := hid hY
      clear hg hY
      have HP := hid (fun W => refPut_any Y hYl W)
      have hcmp : (putB Y == (s.extract 0 (k + 1)).toList) = good := by
        rw [ByteArray.toList_eq]
        show (putB Y == bytesOf (s.extract 0 (k + 1))) = good
        rw [extract_take, ← HG.out, Bool.eq_iff_iff]
        simp
      cases good with
      | true =>
        go_wp2
        refine wp_region_plus (by kernel_rfl) (by kernel_rfl) ?_
        repeat (first | go_big_quiet_skip | (go_big_quiet_want; go_big_quiet_op; first | go_big_quiet_on | go_big_quiet_call (((go_at_call 21; exact Calls.plus_of (HP.out _))))))
        refine wpQuiet_nil ?_
        rintro _ ⟨xq, rfl⟩
        go_wp2
        go_quiet (fail)
        go_wp2
        go_ret3
        exact ⟨rfl, ((World.plus_below _ _).drewN _)⟩
      | false =>
        go_wp2
        refine wp_region_plus (by kernel_rfl) (by kernel_rfl) ?_
        repeat (first | go_big_quiet_skip | (go_big_quiet_want; go_big_quiet_op; first | go_big_quiet_on | go_big_quiet_call (((go_at_call 21; exact Calls.plus_of (HP.out _))))))
        refine wpQuiet_nil ?_
        rintro _ ⟨xq, rfl⟩
        go_wp2
        go_ret3
        exact ⟨rfl, (World.plus_below _ _)⟩

/-- Where a number's bytes end, as a place in the string. -/
theorem at_cases (s : ByteArray) : (∀ c ∈ (bytesOf s).take 10, 128 ≤ c.toNat) ∨ ∃ (p : List UInt8) (c : UInt8) (r : List UInt8) (hj : p.length < s.size), bytesOf s = p ++ c :: r ∧ p.length < 10 ∧ c.toNat < 128 ∧ (∀ x ∈ p, 128 ≤ x.toNat) ∧
    (∀ i (hi : i < p.length), 128 ≤ (s[i]'(Nat.lt_trans hi hj)).toNat) ∧ s[p.length] = c ∧ (bytesOf s).take (p.length + 1) = p ++ [c] := by
  rcases sizeF_cases 10 (bytesOf s) with h | ⟨p, c, r, e, h1, h2, h3⟩
  · exact .inl h
  · have hsz : s.size = p.length + 1 + r.length := by
      have := congrArg List.length e
      simp at this; omega
    have hj : p.length < s.size := by omega
    have hget : ∀ i (hi : i < s.size), (bytesOf s)[i]'(by simpa using hi) = s[i] := fun i hi => rfl
    refine .inr ⟨p, c, r, hj, e, h1, h2, h3, fun i hi => ?_, ?_, ?_⟩
    · rw [← hget i (Nat.lt_trans hi hj)]
      have : (bytesOf s)[i]'(by simp; omega) = p[i] := by
        simp only [e]
        rw [List.getElem_append_left hi]
      rw [this]
      exact h3 _ (List.getElem_mem hi)
    · rw [← hget p.length hj]
      simp only [e]
      rw [List.getElem_append_right (Nat.le_refl _)]
      simp
    · rw [e, List.take_append, List.take_of_length_le (by omega), show p.length + 1 - p.length = 1 by omega]
      rfl

theorem refGet_is (s : ByteArray) (hs : s.size ≤ 9223372036854775807) {C N K : Nat} (hv : nextV (bytesOf s) = (C, N, K)) (w : World) :
    Calls Tryd.prog 20 #[.string s] w fun e w' => e = .returned (.tuple #[.int .u64 (N : Int), .string (s.extract K s.size), .int .i64 (C : Int)]) ∧ Below w.heap.size w w' := by
  rcases at_cases s with h | ⟨p, c, r, hj, e, h1, h2, h3, hlow, hat, htk⟩
  · refine (refGet_none s hs w h).mono fun e w' ⟨he, hw⟩ => ⟨?_, hw⟩
    have hv2 := nextV_none h
    rw [show (bytesOf s).length = s.size by simp, hv] at hv2
    simp only [Prod.mk.injEq] at hv2
    obtain ⟨rfl, rfl, rfl⟩ := hv2
    rw [he, extract_whole]
    split <;> rfl
  · have hv2 := nextV_at (r := r) h1 h2 h3
    rw [← e, hv] at hv2
    by_cases hbad : (p ≠ [] ∧ c.toNat = 0) ∨ (p.length = 9 ∧ 1 < c.toNat)
    · rw [if_pos hbad] at hv2
      simp only [Prod.mk.injEq] at hv2
      obtain ⟨rfl, rfl, rfl⟩ := hv2
      have hg := putB_not h3 hbad h2
      refine (refGet_at s hs w p.length h1 hj hlow (by rw [hat]; exact h2) false _ rfl (by rw [htk]; simpa using hg)).mono fun e w' ⟨he, hw⟩ => ⟨?_, hw⟩
      rw [he, extract_whole]; rfl
    · rw [if_neg hbad] at hv2
      have hok := nextV_ok (hv.trans hv2)
      simp only [Prod.mk.injEq] at hv2
      obtain ⟨rfl, rfl, rfl⟩ := hv2
      have hm : valB (p ++ [c]) % 18446744073709551616 = valB (p ++ [c]) := Nat.mod_eq_of_lt (by omega)
      have hg : putB (valB (p ++ [c])) = p ++ [c] := putB_valB p c h3 h2 (fun hp hb => hbad (.inl ⟨hp, hb⟩))
      refine (refGet_at s hs w p.length h1 hj hlow (by rw [hat]; exact h2) true _ rfl (by rw [htk, hm, hg]; simp)).mono fun e w' ⟨he, hw⟩ => ⟨?_, hw⟩
      rw [he, htk, hm]; rfl
end Go.Proofs.YtpgifmccajcgkaaDoor
