/- Varints: the program's reader: '(*reader).next'. -/
import Derived.Test.YtpgifmccajcgkaaDoorVarI
import Derived.Test.YtpgifmccajcgkaaDoorVarG
import Derived.Test.YtpgifmccajcgkaaDoorQuiet
namespace Go.Proofs.YtpgifmccajcgkaaDoor
set_option linter.unusedVariables false
set_option linter.unusedSimpArgs false
open Go.ChangeShapes Go.WideShapes Go.ChangeAt Go.RowKit

/-- A run that has written into one block, and has made new ones. -/
structure OnlyAt (b : Nat) (w w' : World) : Prop where
  os : w'.os = w.os
  tape : w'.tape = w.tape
  output : w'.output = w.output
  size : w.heap.size ≤ w'.heap.size
  block : ∀ k, k < w.heap.size → k ≠ b → w'.heap[k]? = w.heap[k]?
theorem OnlyAt.below {b n : Nat} {w₀ w w' : World} (h : OnlyAt b w w') (hb : Below n w₀ w) (hn : n ≤ b) (hw : n ≤ w.heap.size) : Below n w₀ w' :=
  ⟨h.os.trans hb.os, h.tape.trans hb.tape, h.output.trans hb.output, Nat.le_trans hb.size h.size, fun k hk => (h.block k (by omega) (by omega)).trans (hb.block k hk)⟩
theorem OnlyAt.refl (b : Nat) (w : World) : OnlyAt b w w := ⟨rfl, rfl, rfl, Nat.le_refl _, fun _ _ _ => rfl⟩
theorem OnlyAt.setCell {b : Nat} {w w' : World} (h : OnlyAt b w w') {o : Nat} {s : Option Nat} (v : Value) : OnlyAt b w (w'.setCell ⟨b, o, s⟩ v) :=
  ⟨h.os, h.tape, h.output, by simpa using h.size, fun k hk hb => (heap_set_other hb).trans (h.block k hk hb)⟩
theorem OnlyAt.drew {b : Nat} {w w' : World} (h : OnlyAt b w w') : OnlyAt b w w'.drew := ⟨h.os, h.tape, h.output, h.size, h.block⟩
theorem OnlyAt.drewN {b : Nat} {w w' : World} (h : OnlyAt b w w') (n : Nat) : OnlyAt b w (w'.drewN n) := ⟨h.os, h.tape, h.output, h.size, h.block⟩
theorem OnlyAt.step {b : Nat} {w w1 w2 : World} (h : OnlyAt b w w1) (hb : Below w1.heap.size w1 w2) : OnlyAt b w w2 :=
  ⟨hb.os.trans h.os, hb.tape.trans h.tape, hb.output.trans h.output, Nat.le_trans h.size hb.size, fun k hk hne => (hb.block k (Nat.lt_of_lt_of_le hk h.size)).trans (h.block k hk hne)⟩
theorem OnlyAt.trans {b : Nat} {w w1 w2 : World} (h : OnlyAt b w w1) (hb : OnlyAt b w1 w2) : OnlyAt b w w2 :=
  ⟨hb.os.trans h.os, hb.tape.trans h.tape, hb.output.trans h.output, Nat.le_trans h.size hb.size, fun k hk hne => (hb.block k (Nat.lt_of_lt_of_le hk h.size) hne).trans (h.block k hk hne)⟩
theorem OnlyAt.cell {b : Nat} {w w' : World} (h : OnlyAt b w w') {a : Addr} {v : Value} (hc : w.cell? a = some v) (hne : a.block ≠ b) : w'.cell? a = some v := by
  have hlt := World.block_lt_of_cell? _ _ hc
  have := h.block a.block hlt hne
  unfold World.cell? at hc ⊢
  rw [this]; exact hc
theorem Sent.only {am an : Addr} {b : Nat} {w w' : World} (h : Sent am an w) (hb : OnlyAt b w w') (h0 : 0 ≠ b) (h1 : 1 ≠ b) (h2 : am.block ≠ b) (h3 : an.block ≠ b) : Sent am an w' := by
  obtain ⟨g1, g2, g3, ⟨c, t, g4⟩, c', t', g5⟩ := h
  exact ⟨hb.cell g1 h0, hb.cell g2 h1, g3, ⟨c, t, (hb.block _ (heap_lt g4) h2).trans g4⟩, c', t', (hb.block _ (heap_lt g5) h3).trans g5⟩

/-- The bytes of a string. -/
abbrev bytesOf (s : ByteArray) : List UInt8 := s.data.toList

theorem or_nat (A X k : Nat) (hA : A < 2 ^ (7 * k)) (hk : 7 * k ≤ 63) : A ||| (X * 2 ^ (7 * k) % 2 ^ 64) = (A + X * 2 ^ (7 * k)) % 2 ^ 64 := by
  have hPQ : 2 ^ 64 = 2 ^ (7 * k) * 2 ^ (64 - 7 * k) := by rw [← Nat.pow_add]; congr 1; omega
  obtain ⟨P, hP⟩ : ∃ P, 2 ^ (7 * k) = P := ⟨_, rfl⟩
  obtain ⟨Q, hQ⟩ : ∃ Q, 2 ^ (64 - 7 * k) = Q := ⟨_, rfl⟩
  have hQ0 : 0 < Q := hQ ▸ Nat.two_pow_pos _
  have h1 : X * 2 ^ (7 * k) % 2 ^ 64 = 2 ^ (7 * k) * (X % Q) := by
    rw [hPQ, Nat.mul_comm X, Nat.mul_mod_mul_left, hQ]
  rw [h1, Nat.or_comm, ← Nat.two_pow_add_eq_or_of_lt hA, hPQ, hP, hQ]
  rw [hP] at hA
  have hY := Nat.mod_lt X hQ0
  have hX := Nat.div_add_mod X Q
  have e : A + X * P = (P * (X % Q) + A) + (P * Q) * (X / Q) := by
    have : X * P = (Q * (X / Q) + X % Q) * P := by rw [hX]
    rw [this, Nat.add_mul, Nat.mul_comm P Q, Nat.mul_assoc Q P, Nat.mul_comm P (X / Q), ← Nat.mul_assoc Q (X / Q) P, Nat.mul_comm P (X % Q)]
    omega
  have h3 : P * (X % Q) + P ≤ P * Q := by rw [← Nat.mul_succ]; exact Nat.mul_le_mul_left P hY
  rw [e, Nat.add_mul_mod_self_left, Nat.mod_eq_of_lt (a := P * (X % Q) + A) (by omega)]

theorem bits_and_u8 (x : Nat) (hx : x < 256) : bits .and .u8 (x : Int) 127 = ((x % 128 : Nat) : Int) := by
  have h : ∀ x : Fin 256, bits .and .u8 (x.val : Int) 127 = ((x.val % 128 : Nat) : Int) := by decide +kernel
  exact h ⟨x, hx⟩
theorem bits_or_u64 (x y : Nat) (hx : x < 18446744073709551616) (hy : y < 18446744073709551616) : bits .or .u64 (x : Int) (y : Int) = ((x ||| y : Nat) : Int) := by
  have e : bits .or .u64 (x : Int) (y : Int) = IntKind.u64.wrap (((BitVec.ofInt 64 (x : Int)).toNat ||| (BitVec.ofInt 64 (y : Int)).toNat : Nat) : Int) := by
    show IntKind.u64.wrap ((BitVec.ofInt 64 (x : Int) ||| BitVec.ofInt 64 (y : Int)).toNat : Int) = _
    rw [BitVec.toNat_or]
  rw [e, ofInt_at (x : Int) x (by omega), ofInt_at (y : Int) y (by omega), IntKind.wrap_u64]
  have h1 : x ||| y < 2 ^ 64 := Nat.or_lt_two_pow (by simpa using hx) (by simpa using hy)
  have h2 : x ||| y < 18446744073709551616 := by simpa using h1
  omega
/-- One more byte of a number. -/
theorem or_step0 (s : ByteArray) (k : Nat) (hk : k < 10) (hl : k < s.size) :
    bits .or .u64 ((valB ((bytesOf s).take k) % 18446744073709551616 : Nat) : Int) (IntKind.u64.wrap (((s[k].toNat % 128 : Nat) : Int) * 2 ^ (7 * k))) = ((valB ((bytesOf s).take (k + 1)) % 18446744073709551616 : Nat) : Int) := by
  have hA := valB_lt ((bytesOf s).take k)
  have hlen : ((bytesOf s).take k).length = k := by rw [List.length_take]; simp; omega
  rw [hlen] at hA
  have hpow : (128 : Nat) ^ k = 2 ^ (7 * k) := by rw [show (128 : Nat) = 2 ^ 7 by rfl, ← Nat.pow_mul]
  have hle : (2 : Nat) ^ (7 * k) ≤ 2 ^ 63 := Nat.pow_le_pow_right (by decide) (by omega)
  have h63 : (2 : Nat) ^ 63 = 9223372036854775808 := by decide
  have h64 : (2 : Nat) ^ 64 = 18446744073709551616 := by decide
  have htake : (bytesOf s).take (k + 1) = (bytesOf s).take k ++ [s[k]] := by
    rw [List.take_succ_eq_append_getElem (by simpa using hl)]; rfl
  have hval : valB ((bytesOf s).take (k + 1)) = valB ((bytesOf s).take k) + s[k].toNat % 128 * 2 ^ (7 * k) := by
    rw [htake, valB_append, hlen, hpow]
    simp only [valB, Nat.mul_zero, Nat.add_zero]
    rw [Nat.mul_comm]
  rw [hval]
  obtain ⟨A, hA1⟩ : ∃ A, valB ((bytesOf s).take k) = A := ⟨_, rfl⟩
  obtain ⟨X, hX⟩ : ∃ X, s[k].toNat % 128 = X := ⟨_, rfl⟩
  rw [hA1] at hA ⊢
  rw [hX]
  have ho := or_nat A X k (by omega) (by omega)
  rw [h64] at ho
  have hw : IntKind.u64.wrap ((X : Int) * 2 ^ (7 * k)) = ((X * 2 ^ (7 * k) % 18446744073709551616 : Nat) : Int) := by
    rw [IntKind.wrap_u64]; simp
  rw [hw, Nat.mod_eq_of_lt (a := A) (by omega), bits_or_u64 _ _ (by omega) (Nat.mod_lt _ (by decide)), ho]
theorem or_step (s : ByteArray) (k : Nat) (hk : k < 10) (hl : k < s.size) :
    bits .or .u64 ((valB ((bytesOf s).take k) % 18446744073709551616 : Nat) : Int) (IntKind.u64.wrap (IntKind.u64.wrap (bits .and .u8 (s[k].toNat : Int) 127) * 2 ^ (7 * k))) = ((valB ((bytesOf s).take (k + 1)) % 18446744073709551616 : Nat) : Int) := by
  rw [← or_step0 s k hk hl, bits_and_u8 _ (by have := s[k].toNat_lt; omega), show IntKind.u64.wrap ((s[k].toNat % 128 : Nat) : Int) = ((s[k].toNat % 128 : Nat) : Int) by rw [IntKind.wrap_u64]; omega]

theorem mem_take_at (s : ByteArray) (k m : Nat) (hk : k < m) (hl : k < s.size) : s[k] ∈ (bytesOf s).take m := by
  have h1 : k < ((bytesOf s).take m).length := by rw [List.length_take]; simp; omega
  have h2 : ((bytesOf s).take m)[k] = s[k] := by rw [List.getElem_take]; rfl
  rw [← h2]; exact List.getElem_mem h1

set_option maxRecDepth 100000 in
set_option maxHeartbeats 1000000 in
theorem next_none (am an : Addr) (s : ByteArray) (hs : s.size ≤ 9223372036854775807) (b : Nat) (w : World) (hb : w.heap[b]? = some (.cells #[.string s] 76 (0, 0))) (hsent : Sent am an w)
    (h : ∀ c ∈ (bytesOf s).take 10, 128 ≤ c.toNat) :
    Calls Tryd.prog 53 #[.pointer (some ⟨b, 0, none⟩)] w fun e w' => e = .returned (.tuple #[.int .u64 0, errOf am an (if s.size < 10 then 21 else 20)]) ∧ ∃ n, w' = w.drewN n := by
  obtain ⟨g1, g2, _, _, _⟩ := hsent
  have c0 := cell_of_one hb
  clear hb
  have im := ite_min
  have ix := ite_max
  go_enter Tryd.func53, Tryd.ntmps53
  go_wp2
  refine wp_scope_straight ?_
  go_wp2
  refine wp_label ?_
  go_wp2
  clear im ix
  obtain ⟨M, hM⟩ : ∃ M : Nat, min (s.size : Int) 10 = (M : Int) := ⟨min s.size 10, by omega⟩
  rw [hM]
  have hM1 : M ≤ 10 ∧ M ≤ s.size := by omega
  have hM2 := hid (show M = 10 ∨ M = s.size by omega)
  have hM3 : s.size < 10 → M = s.size := by omega
  clear hM
  go_loop [4, 5, 15] (fun n z i => ∃ k : Nat, k ≤ M ∧ i = .int .i64 k ∧ z = .int .i64 0 ∧ n = .int .u64 ((valB ((bytesOf s).take k) % 18446744073709551616 : Nat) : Int)) (fun _ _ i => M - (intOf i).toNat)
  case atStart => exact ⟨0, Nat.zero_le _, rfl, rfl, rfl⟩
  case round =>
    obtain ⟨k, hk, rfl, rfl, rfl⟩ := hrel
    by_cases hlt : k < M
    · have hl : k < s.size := by omega
      have hc := h s[k] (mem_take_at s k 10 (by omega) hl)
      have hc2 := s[k].toNat_lt
      have hst := or_step s k (by omega) hl
      obtain ⟨X, hX⟩ : ∃ X, valB ((bytesOf s).take k) % 18446744073709551616 = X := ⟨_, rfl⟩
      rw [hX] at hst ⊢
      have HS := hid hst
      clear h hM3 hst hX
      go_wp2
      go_round
      case rel => exact ⟨k + 1, by omega, by go_num, rfl, by rw [HS.out]⟩
      case measure => simp [intOf]; omega
    · obtain rfl : k = M := by omega
      clear h
      obtain ⟨X, hX⟩ : ∃ X, valB ((bytesOf s).take k) % 18446744073709551616 = X := ⟨_, rfl⟩
      rw [hX]
      clear hX
      by_cases hlen : s.size < 10
      · have hq := hid hlen
        go_wp2
        go_quiet (fail)
        go_wp2
        rw [Exit.noGoto_ret]
        go_ret2
        exact ⟨by rw [if_pos hq.out]; rfl, _, rfl⟩
      · have hq := hid hlen
        go_wp2
        go_quiet (fail)
        go_wp2
        rw [Exit.noGoto_ret]
        go_ret2
        exact ⟨by rw [if_neg hq.out]; rfl, _, rfl⟩
set_option maxRecDepth 100000 in
set_option maxHeartbeats 1000000 in
theorem next_bad (am an : Addr) (s : ByteArray) (hs : s.size ≤ 9223372036854775807) (b : Nat) (w : World) (hb : w.heap[b]? = some (.cells #[.string s] 76 (0, 0))) (hsent : Sent am an w)
    (j : Nat) (hj : j < 10) (hjs : j < s.size) (h : ∀ i (hi : i < j), 128 ≤ (s[i]'(Nat.lt_trans hi hjs)).toNat) (hc : s[j].toNat < 128) (hbad : (0 < j ∧ s[j].toNat = 0) ∨ (j = 9 ∧ 1 < s[j].toNat)) :
    Calls Tryd.prog 53 #[.pointer (some ⟨b, 0, none⟩)] w fun e w' => e = .returned (.tuple #[.int .u64 0, errOf am an 20]) ∧ ∃ n, w' = w.drewN n := by
  obtain ⟨g1, g2, _, _, _⟩ := hsent
  have c0 := cell_of_one hb
  clear hb
  have im := ite_min
  have ix := ite_max
  go_enter Tryd.func53, Tryd.ntmps53
  go_wp2
  refine wp_scope_straight ?_
  go_wp2
  refine wp_label ?_
  go_wp2
  clear im ix
  obtain ⟨M, hM⟩ : ∃ M : Nat, min (s.size : Int) 10 = (M : Int) := ⟨min s.size 10, by omega⟩
  rw [hM]
  have hM1 : M ≤ 10 ∧ M ≤ s.size := by omega
  have hM2 := hid (show M = 10 ∨ M = s.size by omega)
  have hM3 : j < M := by omega
  clear hM
  go_loop [4, 5, 15] (fun n z i => ∃ k : Nat, k ≤ j ∧ i = .int .i64 k ∧ z = .int .i64 0 ∧ n = .int .u64 ((valB ((bytesOf s).take k) % 18446744073709551616 : Nat) : Int)) (fun _ _ i => M - (intOf i).toNat)
  case atStart => exact ⟨0, Nat.zero_le _, rfl, rfl, rfl⟩
  case round =>
    obtain ⟨k, hk, rfl, rfl, rfl⟩ := hrel
    have hl : k < s.size := by omega
    have hst := or_step s k (by omega) hl
    obtain ⟨X, hX⟩ : ∃ X, valB ((bytesOf s).take k) % 18446744073709551616 = X := ⟨_, rfl⟩
    rw [hX] at hst ⊢
    have HS := hid hst
    by_cases hlt : k < j
    · have hc1 := h k hlt
      have hc2 := s[k].toNat_lt
      clear h hst hX hc
      go_wp2
      go_round
      case rel => exact ⟨k + 1, by omega, by go_num, rfl, by rw [HS.out]⟩
      case measure => simp [intOf]; omega
    · obtain rfl : k = j := by omega
      clear h hst hX
      have hq : (0 < k ∧ k < 9 ∧ s[k].toNat = 0) ∨ (k = 9 ∧ s[k].toNat = 0) ∨ (k = 9 ∧ 1 < s[k].toNat) := by omega
      clear hbad
      rcases hq with ⟨h1, h2, h3⟩ | ⟨rfl, h3⟩ | ⟨rfl, h3⟩
      all_goals
        go_wp2
        go_quiet (fail)
        go_wp2
        rw [Exit.noGoto_ret]
        go_ret2
        exact ⟨rfl, _, rfl⟩
set_option maxRecDepth 100000 in
set_option maxHeartbeats 1000000 in
theorem next_ok (am an : Addr) (s : ByteArray) (hs : s.size ≤ 9223372036854775807) (b : Nat) (w : World) (hb : w.heap[b]? = some (.cells #[.string s] 76 (0, 0))) (hsent : Sent am an w)
    (j : Nat) (hj : j < 10) (hjs : j < s.size) (h : ∀ i (hi : i < j), 128 ≤ (s[i]'(Nat.lt_trans hi hjs)).toNat) (hc : s[j].toNat < 128) (hok : ¬ ((0 < j ∧ s[j].toNat = 0) ∨ (j = 9 ∧ 1 < s[j].toNat))) :
    Calls Tryd.prog 53 #[.pointer (some ⟨b, 0, none⟩)] w fun e w' => e = .returned (.tuple #[.int .u64 ((valB ((bytesOf s).take (j + 1)) % 18446744073709551616 : Nat) : Int), .nilIface]) ∧ w' = w.setCell ⟨b, 0, none⟩ (.string (s.extract (j + 1) s.size)) := by
  obtain ⟨g1, g2, _, _, _⟩ := hsent
  have c0 := cell_of_one hb
  have hf0 := free_of_one hb
  clear hb
  have im := ite_min
  have ix := ite_max
  go_enter Tryd.func53, Tryd.ntmps53
  go_wp2
  refine wp_scope_straight ?_
  go_wp2
  refine wp_label ?_
  go_wp2
  clear im ix
  obtain ⟨M, hM⟩ : ∃ M : Nat, min (s.size : Int) 10 = (M : Int) := ⟨min s.size 10, by omega⟩
  rw [hM]
  have hM1 : M ≤ 10 ∧ M ≤ s.size := by omega
  have hM2 := hid (show M = 10 ∨ M = s.size by omega)
  have hM3 : j < M := by omega
  clear hM
  go_loop [4, 5, 15] (fun n z i => ∃ k : Nat, k ≤ j ∧ i = .int .i64 k ∧ z = .int .i64 0 ∧ n = .int .u64 ((valB ((bytesOf s).take k) % 18446744073709551616 : Nat) : Int)) (fun _ _ i => M - (intOf i).toNat)
  case atStart => exact ⟨0, Nat.zero_le _, rfl, rfl, rfl⟩
  case round =>
    obtain ⟨k, hk, rfl, rfl, rfl⟩ := hrel
    have hl : k < s.size := by omega
    have hst := or_step s k (by omega) hl
    obtain ⟨X, hX⟩ : ∃ X, valB ((bytesOf s).take k) % 18446744073709551616 = X := ⟨_, rfl⟩
    rw [hX] at hst ⊢
    have HS := hid hst
    by_cases hlt : k < j
    · have hc1 := h k hlt
      have hc2 := s[k].toNat_lt
      clear h hst hX hc
      go_wp2
      go_round
      case rel => exact ⟨k + 1, by omega, by go_num, rfl, by rw [HS.out]⟩
      case measure => simp [intOf]; omega
    · obtain rfl : k = j := by omega
      clear h hst hX
      have hq : k < 1 ∨ (0 < k ∧ k < 9 ∧ 0 < s[k].toNat) ∨ (9 ≤ k ∧ 0 < s[k].toNat ∧ s[k].toNat ≤ 1) := by omega
      clear hok
      rcases hq with h1 | hq
      · go_wp2
        go_ret2
        exact ⟨by rw [HS.out]; rfl, rfl⟩
      · have hz : ((s[k].toNat : Int) == 0) = false := by simp only [beq_eq_false_iff_ne, ne_eq]; omega
        rcases hq with ⟨h1, h2, h3⟩ | ⟨h1, h2, h3⟩
        · go_wp2
          go_ret2
          exact ⟨by rw [HS.out]; rfl, rfl⟩
        · have h4 : ∀ h : 9 < s.size, (s[9]'h).toNat ≤ 1 := fun h => by
            obtain rfl : k = 9 := by omega
            exact h3
          have h5 := h4 (by omega)
          clear h4
          go_wp2
          rw [Exit.noGoto_ret]
          go_ret2
          exact ⟨by rw [HS.out]; rfl, by (obtain rfl : k = 9 := by omega); rfl⟩

/-- What a call of 'next' leaves. -/
def NextP (am an : Addr) (s : ByteArray) (b : Nat) (w : World) (e : Ending) (w' : World) : Prop :=
  e = .returned (.tuple #[.int .u64 ((nextV (bytesOf s)).2.1 : Int), errOf am an (nextV (bytesOf s)).1]) ∧ w'.heap[b]? = some (.cells #[.string (s.extract (nextV (bytesOf s)).2.2 s.size)] 76 (0, 0)) ∧ OnlyAt b w w'

theorem extract_whole (s : ByteArray) : s.extract 0 s.size = s := by simp

theorem next_any (am an : Addr) (s : ByteArray) (hs : s.size ≤ 9223372036854775807) (b : Nat) (w : World) (hb : w.heap[b]? = some (.cells #[.string s] 76 (0, 0))) (hsent : Sent am an w) :
    Calls Tryd.prog 53 #[.pointer (some ⟨b, 0, none⟩)] w (NextP am an s b w) := by
  rcases sizeF_cases 10 (bytesOf s) with h | ⟨p, c, r, e, h1, h2, h3⟩
  · refine (next_none am an s hs b w hb hsent h).mono fun e w' ⟨he, n, hw⟩ => ?_
    subst hw
    have hv := nextV_none h
    rw [show (bytesOf s).length = s.size by simp] at hv
    unfold NextP
    rw [hv]
    refine ⟨he, ?_, (OnlyAt.refl b w).drewN n⟩
    rw [extract_whole]; exact hb
  · have hsz : s.size = p.length + 1 + r.length := by
      have := congrArg List.length e
      simp at this; omega
    have hj : p.length < s.size := by omega
    have hget : ∀ i (hi : i < s.size), (bytesOf s)[i]'(by simpa using hi) = s[i] := fun i hi => rfl
    have hlow : ∀ i (hi : i < p.length), 128 ≤ (s[i]'(Nat.lt_trans hi hj)).toNat := fun i hi => by
      rw [← hget i (Nat.lt_trans hi hj)]
      have : (bytesOf s)[i]'(by simp; omega) = p[i] := by
        simp only [e]
        rw [List.getElem_append_left hi]
      rw [this]
      exact h3 _ (List.getElem_mem hi)
    have hat : s[p.length] = c := by
      rw [← hget p.length hj]
      simp only [e]
      rw [List.getElem_append_right (Nat.le_refl _)]
      simp
    have hv := nextV_at (r := r) h1 h2 h3
    rw [← e] at hv
    have htk : (bytesOf s).take (p.length + 1) = p ++ [c] := by
      rw [e, List.take_append, List.take_of_length_le (by omega), show p.length + 1 - p.length = 1 by omega]
      rfl
    by_cases hbad : (p ≠ [] ∧ c.toNat = 0) ∨ (p.length = 9 ∧ 1 < c.toNat)
    · rw [if_pos hbad] at hv
      rw [← List.length_pos_iff, ← hat] at hbad
      rw [← hat] at h2
      refine (next_bad am an s hs b w hb hsent p.length h1 hj hlow h2 hbad).mono fun e w' ⟨he, n, hw⟩ => ?_
      subst hw
      unfold NextP
      rw [hv]
      refine ⟨he, ?_, (OnlyAt.refl b w).drewN n⟩
      rw [extract_whole]; exact hb
    · rw [if_neg hbad] at hv
      have hok := nextV_ok hv
      rw [← List.length_pos_iff, ← hat] at hbad
      rw [← hat] at h2
      refine (next_ok am an s hs b w hb hsent p.length h1 hj hlow h2 hbad).mono fun e w' ⟨he, hw⟩ => ?_
      subst hw
      unfold NextP
      rw [hv]
      rw [htk, Nat.mod_eq_of_lt (by omega)] at he
      exact ⟨he, heap_set_same hb, (OnlyAt.refl b w).setCell _⟩
end Go.Proofs.YtpgifmccajcgkaaDoor
