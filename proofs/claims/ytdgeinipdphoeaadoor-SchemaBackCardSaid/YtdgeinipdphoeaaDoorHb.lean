/- Texts joined: VarJ, Seq, SeqW, VarC. -/
import Derived.Test.YtdgeinipdphoeaaDoorHa
import Derived.RangeFuncNested
import Derived.RangeFuncBound
import Derived.RangeFuncCalls
import Derived.RangeFuncLeaves
import Derived.Shelf.Abstract
import Derived.Shelf.RegionOpen
import Derived.OwnWalkIn
import Derived.TacticsInMore
import Derived.LoopNIn
import Derived.LoopIn
/- Varints: the program's reader: '(*reader).next'. -/
namespace Go.Proofs.YtdgeinipdphoeaaDoor
set_option linter.unusedVariables false
set_option linter.unusedSimpArgs false
open Go.ChangeShapes Go.WideShapes Go.ChangeAt Go.RowKit

/-- A run that has written into one block, and has made new ones. -/
structure OnlyAt (b : Nat) (w w' : World) : Prop where
  os : w'.os = w.os
  tape : w'.tape = w.tape
  output : w'.output = w.output
  size : w.heap.size ≤ w'.heap.size
  block : ∀ k, k < w.heap.size → k ≠ b → w'.heap[k]? = w.heap[k]?
theorem OnlyAt.below {b n : Nat} {w₀ w w' : World} (h : OnlyAt b w w') (hb : Below n w₀ w) (hn : n ≤ b) (hw : n ≤ w.heap.size) : Below n w₀ w' :=
  ⟨h.os.trans hb.os, h.tape.trans hb.tape, h.output.trans hb.output, Nat.le_trans hb.size h.size, fun k hk => (h.block k (by omega) (by omega)).trans (hb.block k hk)⟩
theorem OnlyAt.refl (b : Nat) (w : World) : OnlyAt b w w := ⟨rfl, rfl, rfl, Nat.le_refl _, fun _ _ _ => rfl⟩
theorem OnlyAt.setCell {b : Nat} {w w' : World} (h : OnlyAt b w w') {o : Nat} {s : Option Nat} (v : Value) : OnlyAt b w (w'.setCell ⟨b, o, s⟩ v) :=
  ⟨h.os, h.tape, h.output, by simpa using h.size, fun k hk hb => (heap_set_other hb).trans (h.block k hk hb)⟩
theorem OnlyAt.drew {b : Nat} {w w' : World} (h : OnlyAt b w w') : OnlyAt b w w'.drew := ⟨h.os, h.tape, h.output, h.size, h.block⟩
theorem OnlyAt.drewN {b : Nat} {w w' : World} (h : OnlyAt b w w') (n : Nat) : OnlyAt b w (w'.drewN n) := ⟨h.os, h.tape, h.output, h.size, h.block⟩
theorem OnlyAt.step {b : Nat} {w w1 w2 : World} (h : OnlyAt b w w1) (hb : Below w1.heap.size w1 w2) : OnlyAt b w w2 :=
  ⟨hb.os.trans h.os, hb.tape.trans h.tape, hb.output.trans h.output, Nat.le_trans h.size hb.size, fun k hk hne => (hb.block k (Nat.lt_of_lt_of_le hk h.size)).trans (h.block k hk hne)⟩
theorem OnlyAt.trans {b : Nat} {w w1 w2 : World} (h : OnlyAt b w w1) (hb : OnlyAt b w1 w2) : OnlyAt b w w2 :=
  ⟨hb.os.trans h.os, hb.tape.trans h.tape, hb.output.trans h.output, Nat.le_trans h.size hb.size, fun k hk hne => (hb.block k (Nat.lt_of_lt_of_le hk h.size) hne).trans (h.block k hk hne)⟩
theorem OnlyAt.cell {b : Nat} {w w' : World} (h : OnlyAt b w w') {a : Addr} {v : Value} (hc : w.cell? a = some v) (hne : a.block ≠ b) : w'.cell? a = some v := by
  have hlt := World.block_lt_of_cell? _ _ hc
  have := h.block a.block hlt hne
  unfold World.cell? at hc ⊢
  rw [this]; exact hc
theorem Sent.only {am an : Addr} {b : Nat} {w w' : World} (h : Sent am an w) (hb : OnlyAt b w w') (h0 : 2 ≠ b) (h1 : 1 ≠ b) (h2 : am.block ≠ b) (h3 : an.block ≠ b) : Sent am an w' := by
  obtain ⟨g1, g2, g3, ⟨c, t, g4⟩, c', t', g5⟩ := h
  exact ⟨hb.cell g1 h0, hb.cell g2 h1, g3, ⟨c, t, (hb.block _ (heap_lt g4) h2).trans g4⟩, c', t', (hb.block _ (heap_lt g5) h3).trans g5⟩

/-- The bytes of a string. -/
abbrev bytesOf (s : ByteArray) : List UInt8 := s.data.toList

theorem or_nat (A X k : Nat) (hA : A < 2 ^ (7 * k)) (hk : 7 * k ≤ 63) : A ||| (X * 2 ^ (7 * k) % 2 ^ 64) = (A + X * 2 ^ (7 * k)) % 2 ^ 64 := by
  have hPQ : 2 ^ 64 = 2 ^ (7 * k) * 2 ^ (64 - 7 * k) := by rw [← Nat.pow_add]; congr 1; omega
  obtain ⟨P, hP⟩ : ∃ P, 2 ^ (7 * k) = P := ⟨_, rfl⟩
  obtain ⟨Q, hQ⟩ : ∃ Q, 2 ^ (64 - 7 * k) = Q := ⟨_, rfl⟩
  have hQ0 : 0 < Q := hQ ▸ Nat.two_pow_pos _
  have h1 : X * 2 ^ (7 * k) % 2 ^ 64 = 2 ^ (7 * k) * (X % Q) := by
    rw [hPQ, Nat.mul_comm X, Nat.mul_mod_mul_left, hQ]
  rw [h1, Nat.or_comm, ← Nat.two_pow_add_eq_or_of_lt hA, hPQ, hP, hQ]
  rw [hP] at hA
  have hY := Nat.mod_lt X hQ0
  have hX := Nat.div_add_mod X Q
  have e : A + X * P = (P * (X % Q) + A) + (P * Q) * (X / Q) := by
    have : X * P = (Q * (X / Q) + X % Q) * P := by rw [hX]
    rw [this, Nat.add_mul, Nat.mul_comm P Q, Nat.mul_assoc Q P, Nat.mul_comm P (X / Q), ← Nat.mul_assoc Q (X / Q) P, Nat.mul_comm P (X % Q)]
    omega
  have h3 : P * (X % Q) + P ≤ P * Q := by rw [← Nat.mul_succ]; exact Nat.mul_le_mul_left P hY
  rw [e, Nat.add_mul_mod_self_left, Nat.mod_eq_of_lt (a := P * (X % Q) + A) (by omega)]

theorem bits_and_u8 (x : Nat) (hx : x < 256) : bits .and .u8 (x : Int) 127 = ((x % 128 : Nat) : Int) := by
  have h : ∀ x : Fin 256, bits .and .u8 (x.val : Int) 127 = ((x.val % 128 : Nat) : Int) := by decide +kernel
  exact h ⟨x, hx⟩
theorem bits_or_u64 (x y : Nat) (hx : x < 18446744073709551616) (hy : y < 18446744073709551616) : bits .or .u64 (x : Int) (y : Int) = ((x ||| y : Nat) : Int) := by
  have e : bits .or .u64 (x : Int) (y : Int) = IntKind.u64.wrap (((BitVec.ofInt 64 (x : Int)).toNat ||| (BitVec.ofInt 64 (y : Int)).toNat : Nat) : Int) := by
    show IntKind.u64.wrap ((BitVec.ofInt 64 (x : Int) ||| BitVec.ofInt 64 (y : Int)).toNat : Int) = _
    rw [BitVec.toNat_or]
  rw [e, ofInt_at (x : Int) x (by omega), ofInt_at (y : Int) y (by omega), IntKind.wrap_u64]
  have h1 : x ||| y < 2 ^ 64 := Nat.or_lt_two_pow (by simpa using hx) (by simpa using hy)
  have h2 : x ||| y < 18446744073709551616 := by simpa using h1
  omega
/-- One more byte of a number. -/
theorem or_step0 (s : ByteArray) (k : Nat) (hk : k < 10) (hl : k < s.size) :
    bits .or .u64 ((valB ((bytesOf s).take k) % 18446744073709551616 : Nat) : Int) (IntKind.u64.wrap (((s[k].toNat % 128 : Nat) : Int) * 2 ^ (7 * k))) = ((valB ((bytesOf s).take (k + 1)) % 18446744073709551616 : Nat) : Int) := by
  have hA := valB_lt ((bytesOf s).take k)
  have hlen : ((bytesOf s).take k).length = k := by rw [List.length_take]; simp; omega
  rw [hlen] at hA
  have hpow : (128 : Nat) ^ k = 2 ^ (7 * k) := by rw [show (128 : Nat) = 2 ^ 7 by rfl, ← Nat.pow_mul]
  have hle : (2 : Nat) ^ (7 * k) ≤ 2 ^ 63 := Nat.pow_le_pow_right (by decide) (by omega)
  have h63 : (2 : Nat) ^ 63 = 9223372036854775808 := by decide
  have h64 : (2 : Nat) ^ 64 = 18446744073709551616 := by decide
  have htake : (bytesOf s).take (k + 1) = (bytesOf s).take k ++ [s[k]] := by
    rw [List.take_succ_eq_append_getElem (by simpa using hl)]; rfl
  have hval : valB ((bytesOf s).take (k + 1)) = valB ((bytesOf s).take k) + s[k].toNat % 128 * 2 ^ (7 * k) := by
    rw [htake, valB_append, hlen, hpow]
    simp only [valB, Nat.mul_zero, Nat.add_zero]
    rw [Nat.mul_comm]
  rw [hval]
  obtain ⟨A, hA1⟩ : ∃ A, valB ((bytesOf s).take k) = A := ⟨_, rfl⟩
  obtain ⟨X, hX⟩ : ∃ X, s[k].toNat % 128 = X := ⟨_, rfl⟩
  rw [hA1] at hA ⊢
  rw [hX]
  have ho := or_nat A X k (by omega) (by omega)
  rw [h64] at ho
  have hw : IntKind.u64.wrap ((X : Int) * 2 ^ (7 * k)) = ((X * 2 ^ (7 * k) % 18446744073709551616 : Nat) : Int) := by
    rw [IntKind.wrap_u64]; simp
  rw [hw, Nat.mod_eq_of_lt (a := A) (by omega), bits_or_u64 _ _ (by omega) (Nat.mod_lt _ (by decide)), ho]
theorem or_step (s : ByteArray) (k : Nat) (hk : k < 10) (hl : k < s.size) :
    bits .or .u64 ((valB ((bytesOf s).take k) % 18446744073709551616 : Nat) : Int) (IntKind.u64.wrap (IntKind.u64.wrap (bits .and .u8 (s[k].toNat : Int) 127) * 2 ^ (7 * k))) = ((valB ((bytesOf s).take (k + 1)) % 18446744073709551616 : Nat) : Int) := by
  rw [← or_step0 s k hk hl, bits_and_u8 _ (by have := s[k].toNat_lt; omega), show IntKind.u64.wrap ((s[k].toNat % 128 : Nat) : Int) = ((s[k].toNat % 128 : Nat) : Int) by rw [IntKind.wrap_u64]; omega]

theorem mem_take_at (s : ByteArray) (k m : Nat) (hk : k < m) (hl : k < s.size) : s[k] ∈ (bytesOf s).take m := by
  have h1 : k < ((bytesOf s).take m).length := by rw [List.length_take]; simp; omega
  have h2 : ((bytesOf s).take m)[k] = s[k] := by rw [List.getElem_take]; rfl
  rw [← h2]; exact List.getElem_mem h1

set_option maxRecDepth 100000 in
set_option maxHeartbeats 1000000 in
theorem next_none (am an : Addr) (s : ByteArray) (hs : s.size ≤ 9223372036854775807) (b : Nat) (w : World) (hb : w.heap[b]? = some (.cells #[.string s] 117 (0, 0))) (hsent : Sent am an w)
    (h : ∀ c ∈ (bytesOf s).take 10, 128 ≤ c.toNat) :
    Calls Tryd.prog 58 #[.pointer (some ⟨b, 0, none⟩)] w fun e w' => e = .returned (.tuple #[.int .u64 0, errOf am an (if s.size < 10 then 21 else 20)]) ∧ ∃ n, w' = w.drewN n := by
  obtain ⟨g1, g2, _, _, _⟩ := hsent
  have c0 := cell_of_one hb
  clear hb
  have im := ite_min
  have ix := ite_max
  go_enter Tryd.func58, Tryd.ntmps58
  go_wp2
  refine wp_scope_straight ?_
  go_wp2
  refine wp_label ?_
  go_wp2
  clear im ix
  obtain ⟨M, hM⟩ : ∃ M : Nat, min (s.size : Int) 10 = (M : Int) := ⟨min s.size 10, by omega⟩
  rw [hM]
  have hM1 : M ≤ 10 ∧ M ≤ s.size := by omega
  have hM2 := hid (show M = 10 ∨ M = s.size by omega)
  have hM3 : s.size < 10 → M = s.size := by omega
  clear hM
  go_loop [4, 5, 15] (fun n z i => ∃ k : Nat, k ≤ M ∧ i = .int .i64 k ∧ z = .int .i64 0 ∧ n = .int .u64 ((valB ((bytesOf s).take k) % 18446744073709551616 : Nat) : Int)) (fun _ _ i => M - (intOf i).toNat)
  case atStart => exact ⟨0, Nat.zero_le _, rfl, rfl, rfl⟩
  case round =>
    obtain ⟨k, hk, rfl, rfl, rfl⟩ := hrel
    by_cases hlt : k < M
    · have hl : k < s.size := by omega
      have hc := h s[k] (mem_take_at s k 10 (by omega) hl)
      have hc2 := s[k].toNat_lt
      have hst := or_step s k (by omega) hl
      obtain ⟨X, hX⟩ : ∃ X, valB ((bytesOf s).take k) % 18446744073709551616 = X := ⟨_, rfl⟩
      rw [hX] at hst ⊢
      have HS := hid hst
      clear h hM3 hst hX
      go_wp2
      go_round
      case rel => exact ⟨k + 1, by omega, by go_num, rfl, by rw [HS.out]⟩
      case measure => simp [intOf]; omega
    · obtain rfl : k = M := by omega
      clear h
      obtain ⟨X, hX⟩ : ∃ X, valB ((bytesOf s).take k) % 18446744073709551616 = X := ⟨_, rfl⟩
      rw [hX]
      clear hX
      by_cases hlen : s.size < 10
      · have hq := hid hlen
        go_wp2
        go_quiet (fail)
        go_wp2
        rw [Exit.noGoto_ret]
        go_ret2
        exact ⟨by rw [if_pos hq.out]; rfl, _, rfl⟩
      · have hq := hid hlen
        go_wp2
        go_quiet (fail)
        go_wp2
        rw [Exit.noGoto_ret]
        go_ret2
        exact ⟨by rw [if_neg hq.out]; rfl, _, rfl⟩
set_option maxRecDepth 100000 in
set_option maxHeartbeats 1000000 in
theorem next_bad (am an : Addr) (s : ByteArray) (hs : s.size ≤ 9223372036854775807) (b : Nat) (w : World) (hb : w.heap[b]? = some (.cells #[.string s] 117 (0, 0))) (hsent : Sent am an w)
    (j : Nat) (hj : j < 10) (hjs : j < s.size) (h : ∀ i (hi : i < j), 128 ≤ (s[i]'(Nat.lt_trans hi hjs)).toNat) (hc : s[j].toNat < 128) (hbad : (0 < j ∧ s[j].toNat = 0) ∨ (j = 9 ∧ 1 < s[j].toNat)) :
    Calls Tryd.prog 58 #[.pointer (some ⟨b, 0, none⟩)] w fun e w' => e = .returned (.tuple #[.int .u64 0, errOf am an 20]) ∧ ∃ n, w' = w.drewN n := by
  obtain ⟨g1, g2, _, _, _⟩ := hsent
  have c0 := cell_of_one hb
  clear hb
  have im := ite_min
  have ix := ite_max
  go_enter Tryd.func58, Tryd.ntmps58
  go_wp2
  refine wp_scope_straight ?_
  go_wp2
  refine wp_label ?_
  go_wp2
  clear im ix
  obtain ⟨M, hM⟩ : ∃ M : Nat, min (s.size : Int) 10 = (M : Int) := ⟨min s.size 10, by omega⟩
  rw [hM]
  have hM1 : M ≤ 10 ∧ M ≤ s.size := by omega
  have hM2 := hid (show M = 10 ∨ M = s.size by omega)
  have hM3 : j < M := by omega
  clear hM
  go_loop [4, 5, 15] (fun n z i => ∃ k : Nat, k ≤ j ∧ i = .int .i64 k ∧ z = .int .i64 0 ∧ n = .int .u64 ((valB ((bytesOf s).take k) % 18446744073709551616 : Nat) : Int)) (fun _ _ i => M - (intOf i).toNat)
  case atStart => exact ⟨0, Nat.zero_le _, rfl, rfl, rfl⟩
  case round =>
    obtain ⟨k, hk, rfl, rfl, rfl⟩ := hrel
    have hl : k < s.size := by omega
    have hst := or_step s k (by omega) hl
    obtain ⟨X, hX⟩ : ∃ X, valB ((bytesOf s).take k) % 18446744073709551616 = X := ⟨_, rfl⟩
    rw [hX] at hst ⊢
    have HS := hid hst
    by_cases hlt : k < j
    · have hc1 := h k hlt
      have hc2 := s[k].toNat_lt
      clear h hst hX hc
      go_wp2
      go_round
      case rel => exact ⟨k + 1, by omega, by go_num, rfl, by rw [HS.out]⟩
      case measure => simp [intOf]; omega
    · obtain rfl : k = j := by omega
      clear h hst hX
      have hq : (0 < k ∧ k < 9 ∧ s[k].toNat = 0) ∨ (k = 9 ∧ s[k].toNat = 0) ∨ (k = 9 ∧ 1 < s[k].toNat) := by omega
      clear hbad
      rcases hq with ⟨h1, h2, h3⟩ | ⟨rfl, h3⟩ | ⟨rfl, h3⟩
      all_goals
        go_wp2
        go_quiet (fail)
        go_wp2
        rw [Exit.noGoto_ret]
        go_ret2
        exact ⟨rfl, _, rfl⟩
set_option maxRecDepth 100000 in
set_option maxHeartbeats 1000000 in
theorem next_ok (am an : Addr) (s : ByteArray) (hs : s.size ≤ 9223372036854775807) (b : Nat) (w : World) (hb : w.heap[b]? = some (.cells #[.string s] 117 (0, 0))) (hsent : Sent am an w)
    (j : Nat) (hj : j < 10) (hjs : j < s.size) (h : ∀ i (hi : i < j), 128 ≤ (s[i]'(Nat.lt_trans hi hjs)).toNat) (hc : s[j].toNat < 128) (hok : ¬ ((0 < j ∧ s[j].toNat = 0) ∨ (j = 9 ∧ 1 < s[j].toNat))) :
    Calls Tryd.prog 58 #[.pointer (some ⟨b, 0, none⟩)] w fun e w' => e = .returned (.tuple #[.int .u64 ((valB ((bytesOf s).take (j + 1)) % 18446744073709551616 : Nat) : Int), .nilIface]) ∧ w' = w.setCell ⟨b, 0, none⟩ (.string (s.extract (j + 1) s.size)) := by
  obtain ⟨g1, g2, _, _, _⟩ := hsent
  have c0 := cell_of_one hb
  have hf0 := free_of_one hb
  clear hb
  have im := ite_min
  have ix := ite_max
  go_enter Tryd.func58, Tryd.ntmps58
  go_wp2
  refine wp_scope_straight ?_
  go_wp2
  refine wp_label ?_
  go_wp2
  clear im ix
  obtain ⟨M, hM⟩ : ∃ M : Nat, min (s.size : Int) 10 = (M : Int) := ⟨min s.size 10, by omega⟩
  rw [hM]
  have hM1 : M ≤ 10 ∧ M ≤ s.size := by omega
  have hM2 := hid (show M = 10 ∨ M = s.size by omega)
  have hM3 : j < M := by omega
  clear hM
  go_loop [4, 5, 15] (fun n z i => ∃ k : Nat, k ≤ j ∧ i = .int .i64 k ∧ z = .int .i64 0 ∧ n = .int .u64 ((valB ((bytesOf s).take k) % 18446744073709551616 : Nat) : Int)) (fun _ _ i => M - (intOf i).toNat)
  case atStart => exact ⟨0, Nat.zero_le _, rfl, rfl, rfl⟩
  case round =>
    obtain ⟨k, hk, rfl, rfl, rfl⟩ := hrel
    have hl : k < s.size := by omega
    have hst := or_step s k (by omega) hl
    obtain ⟨X, hX⟩ : ∃ X, valB ((bytesOf s).take k) % 18446744073709551616 = X := ⟨_, rfl⟩
    rw [hX] at hst ⊢
    have HS := hid hst
    by_cases hlt : k < j
    · have hc1 := h k hlt
      have hc2 := s[k].toNat_lt
      clear h hst hX hc
      go_wp2
      go_round
      case rel => exact ⟨k + 1, by omega, by go_num, rfl, by rw [HS.out]⟩
      case measure => simp [intOf]; omega
    · obtain rfl : k = j := by omega
      clear h hst hX
      have hq : k < 1 ∨ (0 < k ∧ k < 9 ∧ 0 < s[k].toNat) ∨ (9 ≤ k ∧ 0 < s[k].toNat ∧ s[k].toNat ≤ 1) := by omega
      clear hok
      rcases hq with h1 | hq
      · go_wp2
        go_ret2
        exact ⟨by rw [HS.out]; rfl, rfl⟩
      · have hz : ((s[k].toNat : Int) == 0) = false := by simp only [beq_eq_false_iff_ne, ne_eq]; omega
        rcases hq with ⟨h1, h2, h3⟩ | ⟨h1, h2, h3⟩
        · go_wp2
          go_ret2
          exact ⟨by rw [HS.out]; rfl, rfl⟩
        · have h4 : ∀ h : 9 < s.size, (s[9]'h).toNat ≤ 1 := fun h => by
            obtain rfl : k = 9 := by omega
            exact h3
          have h5 := h4 (by omega)
          clear h4
          go_wp2
          rw [Exit.noGoto_ret]
          go_ret2
          exact ⟨by rw [HS.out]; rfl, by (obtain rfl : k = 9 := by omega); rfl⟩

/-- What a call of 'next' leaves. -/
def NextP (am an : Addr) (s : ByteArray) (b : Nat) (w : World) (e : Ending) (w' : World) : Prop :=
  e = .returned (.tuple #[.int .u64 ((nextV (bytesOf s)).2.1 : Int), errOf am an (nextV (bytesOf s)).1]) ∧ w'.heap[b]? = some (.cells #[.string (s.extract (nextV (bytesOf s)).2.2 s.size)] 117 (0, 0)) ∧ OnlyAt b w w'

theorem extract_whole (s : ByteArray) : s.extract 0 s.size = s := by simp

theorem next_any (am an : Addr) (s : ByteArray) (hs : s.size ≤ 9223372036854775807) (b : Nat) (w : World) (hb : w.heap[b]? = some (.cells #[.string s] 117 (0, 0))) (hsent : Sent am an w) :
    Calls Tryd.prog 58 #[.pointer (some ⟨b, 0, none⟩)] w (NextP am an s b w) := by
  rcases sizeF_cases 10 (bytesOf s) with h | ⟨p, c, r, e, h1, h2, h3⟩
  · refine (next_none am an s hs b w hb hsent h).mono fun e w' ⟨he, n, hw⟩ => ?_
    subst hw
    have hv := nextV_none h
    rw [show (bytesOf s).length = s.size by simp] at hv
    unfold NextP
    rw [hv]
    refine ⟨he, ?_, (OnlyAt.refl b w).drewN n⟩
    rw [extract_whole]; exact hb
  · have hsz : s.size = p.length + 1 + r.length := by
      have := congrArg List.length e
      simp at this; omega
    have hj : p.length < s.size := by omega
    have hget : ∀ i (hi : i < s.size), (bytesOf s)[i]'(by simpa using hi) = s[i] := fun i hi => rfl
    have hlow : ∀ i (hi : i < p.length), 128 ≤ (s[i]'(Nat.lt_trans hi hj)).toNat := fun i hi => by
      rw [← hget i (Nat.lt_trans hi hj)]
      have : (bytesOf s)[i]'(by simp; omega) = p[i] := by
        simp only [e]
        rw [List.getElem_append_left hi]
      rw [this]
      exact h3 _ (List.getElem_mem hi)
    have hat : s[p.length] = c := by
      rw [← hget p.length hj]
      simp only [e]
      rw [List.getElem_append_right (Nat.le_refl _)]
      simp
    have hv := nextV_at (r := r) h1 h2 h3
    rw [← e] at hv
    have htk : (bytesOf s).take (p.length + 1) = p ++ [c] := by
      rw [e, List.take_append, List.take_of_length_le (by omega), show p.length + 1 - p.length = 1 by omega]
      rfl
    by_cases hbad : (p ≠ [] ∧ c.toNat = 0) ∨ (p.length = 9 ∧ 1 < c.toNat)
    · rw [if_pos hbad] at hv
      rw [← List.length_pos_iff, ← hat] at hbad
      rw [← hat] at h2
      refine (next_bad am an s hs b w hb hsent p.length h1 hj hlow h2 hbad).mono fun e w' ⟨he, n, hw⟩ => ?_
      subst hw
      unfold NextP
      rw [hv]
      refine ⟨he, ?_, (OnlyAt.refl b w).drewN n⟩
      rw [extract_whole]; exact hb
    · rw [if_neg hbad] at hv
      have hok := nextV_ok hv
      rw [← List.length_pos_iff, ← hat] at hbad
      rw [← hat] at h2
      refine (next_ok am an s hs b w hb hsent p.length h1 hj hlow h2 hbad).mono fun e w' ⟨he, hw⟩ => ?_
      subst hw
      unfold NextP
      rw [hv]
      rw [htk, Nat.mod_eq_of_lt (by omega)] at he
      exact ⟨he, heap_set_same hb, (OnlyAt.refl b w).setCell _⟩
end Go.Proofs.YtdgeinipdphoeaaDoor
/- A range over a function, for callers and iterators under no fence: one contract for iterators ('SeqI': by the place in a list), one law for callers ('wp_range'). -/
namespace Go.Proofs.YtdgeinipdphoeaaDoor
set_option linter.unusedVariables false
set_option linter.unusedSimpArgs false
open Go.RowKit

section scopes
variable {F : Fence} {n : Nat} {P : Program} {b : Frame} {Q : Exit → Act → World → Prop} {a : Act} {w : World} {k : List Item} {cs : List Frame}
theorem stepR_scope {c : Code} : step P (lone (b.atR a (.code (.scope c) :: k)) cs w) = .next (lone (b.atR a (.code c :: .inScope c :: k)) cs w) :=
  step_lone_go (by simp [stepG, stepG.exec, Frame.atR])
theorem stepR_inScope {c : Code} : step P (lone (b.atR a (.inScope c :: k)) cs w) = .next (lone (b.atR a k) cs w) :=
  step_lone_go (by simp [stepG, stepG.exec, Frame.atR])
/-- As 'jumpFwd', within a fence. -/
def jumpFwdIn (F : Fence) (n : Nat) (P : Program) (c : Code) (Q : Exit → Act → World → Prop) : Exit → Act → World → Prop
  | .goto l, a, w => ∃ rest, findLabel c l = some rest ∧ rest.wpIn F n P (Exit.noGoto Q) a w
  | e, a, w => Q e a w
theorem jumpFwdIn_ret {c : Code} : jumpFwdIn F n P c Q .ret a w = Q .ret a w := rfl
theorem jumpFwdIn_normal {c : Code} : jumpFwdIn F n P c Q .normal a w = Q .normal a w := rfl
theorem jumpFwdIn_exit {c : Code} {id : Nat} : jumpFwdIn F n P c Q (.exit id) a w = Q (.exit id) a w := rfl
theorem jumpFwdIn_goto {c rest : Code} {l : Nat} (h : findLabel c l = some rest) (hr : rest.wpIn F n P (Exit.noGoto Q) a w) : jumpFwdIn F n P c Q (.goto l) a w := ⟨rest, h, hr⟩
theorem wpIn_scope_fwd {c : Code} (h : c.wpIn F n P (jumpFwdIn F n P c Q) a w) : (Code.scope c).wpIn F n P Q a w := by
  intro b k cs hro hb hr
  have h0 : (lone (b.atR a (.code (.scope c) :: k)) cs w).fenced P F := fenced_calm hb hr rfl
  obtain ⟨e, a₁, w₁, hq, harr⟩ := h b (.inScope c :: k) cs hro hb hr
  have hx : ∀ id, exitTo id (.inScope c :: k) = exitTo id k := fun id => by simp [exitTo]
  cases e with
  | normal => exact ⟨.normal, a₁, w₁, hq, .head h0 stepR_scope (StepsIn.trans harr (.one (fenced_calm hb hr rfl) stepR_inScope))⟩
  | exit id =>
    exact ⟨.exit id, a₁, w₁, hq, fun k' hk => .head h0 stepR_scope (harr.1 k' (by rw [hx]; exact hk)),
      fun hr' hk => let ⟨k₁, h1, h2⟩ := harr.2 hr' (by rw [hx]; exact hk); ⟨k₁, h1, .head h0 stepR_scope h2⟩⟩
  | goto l =>
    obtain ⟨rest, hf, hre⟩ := hq
    have hg : gotoIn l (.inScope c :: k) = some (.code rest :: .inScope c :: k) := by simp [gotoIn, hf]
    obtain ⟨e₂, a₂, w₂, hq₂, harr₂⟩ := hre b (.inScope c :: k) cs hro hb hr
    have s0 := StepsIn.head h0 (stepR_scope (P := P) (b := b) (a := a) (k := k) (cs := cs) (w := w) (c := c)) (harr.1 _ hg)
    cases e₂ with
    | normal => exact ⟨.normal, a₂, w₂, hq₂, StepsIn.trans s0 (StepsIn.trans harr₂ (.one (fenced_calm hb hr rfl) stepR_inScope))⟩
    | exit id =>
      exact ⟨.exit id, a₂, w₂, hq₂, fun k' hk => StepsIn.trans s0 (harr₂.1 k' (by rw [hx]; exact hk)),
        fun hr' hk => let ⟨k₁, h1, h2⟩ := harr₂.2 hr' (by rw [hx]; exact hk); ⟨k₁, h1, StepsIn.trans s0 h2⟩⟩
    | goto l => exact hq₂.elim
    | ret => exact ⟨_, a₂, w₂, hq₂, .of_steps s0 harr₂⟩
    | panic ch => exact ⟨_, a₂, w₂, hq₂, .of_steps s0 harr₂⟩
    | outgrown => exact ⟨_, a₂, w₂, hq₂, .of_steps s0 harr₂⟩
  | ret => exact ⟨_, a₁, w₁, hq, .of_steps (.one h0 stepR_scope) harr⟩
  | panic ch => exact ⟨_, a₁, w₁, hq, .of_steps (.one h0 stepR_scope) harr⟩
  | outgrown => exact ⟨_, a₁, w₁, hq, .of_steps (.one h0 stepR_scope) harr⟩
theorem wpIn_scope_straight {c : Code} (h : c.wpIn F n P (Exit.noGoto Q) a w) : (Code.scope c).wpIn F n P Q a w :=
  wpIn_scope_fwd (wpIn_mono h fun e a w q => by cases e <;> first | exact q | exact q.elim)
end scopes

/-- What the body of a loop keeps for the iterator: what lies below n₀, and the iterator's own blocks from lo on, below hi. -/
structure Prot (n₀ lo hi : Nat) (W W' : World) : Prop where
  size : W.heap.size ≤ W'.heap.size
  low : ∀ k, k < n₀ → W'.heap[k]? = W.heap[k]?
  mid : ∀ k, lo ≤ k → k < hi → W'.heap[k]? = W.heap[k]?
theorem Prot.refl (n₀ lo hi : Nat) (W : World) : Prot n₀ lo hi W W := ⟨Nat.le_refl _, fun _ _ => rfl, fun _ _ _ => rfl⟩
theorem Prot.trans {n₀ lo hi : Nat} {A B C : World} (h : Prot n₀ lo hi A B) (k : Prot n₀ lo hi B C) : Prot n₀ lo hi A C :=
  ⟨Nat.le_trans h.size k.size, fun i hi => (k.low i hi).trans (h.low i hi), fun i h1 h2 => (k.mid i h1 h2).trans (h.mid i h1 h2)⟩
theorem Prot.cell {n₀ lo hi : Nat} {W W' : World} (h : Prot n₀ lo hi W W') {b o : Nat} (hb : b < n₀ ∨ lo ≤ b ∧ b < hi) : W'.cell? ⟨b, o, none⟩ = W.cell? ⟨b, o, none⟩ :=
  World.cell?_of_block (w := W) (hb.elim (fun h1 => h.low b h1) (fun h1 => h.mid b h1.1 h1.2))
theorem Prot.frozen {n₀ lo hi : Nat} {W W' : World} (h : Prot n₀ lo hi W W') {b o : Nat} (hb : b < n₀ ∨ lo ≤ b ∧ b < hi) : W'.frozen? ⟨b, o, none⟩ = W.frozen? ⟨b, o, none⟩ :=
  World.frozen?_of_block (w := W) (hb.elim (fun h1 => h.low b h1) (fun h1 => h.mid b h1.1 h1.2))
theorem Prot.putObj {n₀ lo hi : Nat} (W : World) (l : Nat) (o' : Obj) (hl : n₀ ≤ l ∧ hi ≤ l) : Prot n₀ lo hi W (W.putObj l o') :=
  ⟨by simp, fun k hk => World.putObj_heap_other (by omega), fun k h1 h2 => World.putObj_heap_other (by omega)⟩

/-- An invariant abides an iterator's step: new blocks; a turn of a walk's object from B on. -/
def Abide (B : Nat) (p : World → Prop) : Prop :=
  ∀ W W' row, p W → W.grownBy W' row → (∀ r, row = some r → B ≤ r ∧ ∃ o : Obj, W.heap[r]? = some o ∧ o.isWalk = true) → p W'

/-- The contract of an iterator that gives 'enc 0' .. 'enc (N - 1)': whatever the rounds keep and do. -/
def SeqI (P : Program) (g : Nat) (lb : Array Value) (enc : Nat → Array Value) (n₀ lo hi : Nat) (N : Nat) (w : World) : Prop :=
  ∀ (n l : Nat) (J Jx : Nat → World → Prop) (W : World), 1 ≤ n → Below w.heap.size w W → (∀ k, Abide W.heap.size (J k)) → (∀ k, Abide W.heap.size (Jx k)) →
    (∀ k, k < N → ∀ W1, J k W1 → YieldAt Fence.wide (n - 1) P l (enc k) W1 fun e W' =>
      (e = .returned (.bool true) ∧ J (k + 1) W' ∧ Prot n₀ lo hi W1 W') ∨ (e = .returned (.bool false) ∧ Jx k W')) →
    J 0 W →
    CallsIn Fence.wide n P g (#[.func (.yield l) #[] #[]] ++ lb) W fun e W' => (∃ v, e = .returned v) ∧ (J N W' ∨ ∃ k, k < N ∧ Jx k W')

/-- A block that holds no cells has turned. -/
structure Turn (D : Nat) (w w' : World) : Prop where
  grown : w.grownBy w' (some D)
  size : w'.heap.size = w.heap.size
  obj : ∃ o : Obj, w.heap[D]? = some o ∧ o.isCells = false
theorem Turn.putObj {D : Nat} {w : World} {o o' : Obj} (h : w.heap[D]? = some o) (hc : o.isCells = false) : Turn D w (w.putObj D o') := ⟨grownBy_putObj' w D o', by simp, o, h, hc⟩
theorem Turn.block {D : Nat} {w w' : World} (h : Turn D w w') {k : Nat} (hk : k < w.heap.size) (hne : k ≠ D) : w'.heap[k]? = w.heap[k]? := h.grown.block k hk (fun e => hne (by cases e; rfl))
theorem Turn.lt {D : Nat} {w w' : World} (h : Turn D w w') : D < w.heap.size := by obtain ⟨o, ho, _⟩ := h.obj; exact (Array.getElem?_eq_some_iff.1 ho).1

/-- An invariant abides the turn of a block that holds no cells and lies from B on. -/
def Stab (B : Nat) (p : World → Prop) : Prop :=
  ∀ W W' row, p W → W.grownBy W' row → (∀ r, row = some r → B ≤ r ∧ ∃ o : Obj, W.heap[r]? = some o ∧ o.isCells = false) → p W'
theorem Stab.alloc {B : Nat} {p : World → Prop} (h : Stab B p) {W : World} (o : Obj) (hs : p W) : p (W.alloc o) := h W _ none hs (World.grownBy_alloc W o none) (fun r e => by cases e)
theorem Stab.turn {B D : Nat} {p : World → Prop} (h : Stab B p) {W W' : World} (hs : p W) (ht : Turn D W W') (hB : B ≤ D) : p W' := h W W' (some D) hs ht.grown (fun r e => by cases e; exact ⟨hB, ht.obj⟩)
theorem Stab.putObj {B : Nat} {p : World → Prop} (h : Stab B p) {W : World} {l : Nat} {o : Obj} (o' : Obj) (hs : p W) (hB : B ≤ l) (hl : W.heap[l]? = some o) (ho : o.isCells = false) : p (W.putObj l o') :=
  h.turn hs (Turn.putObj hl ho) hB
theorem Stab.and {B : Nat} {p q : World → Prop} (hp : Stab B p) (hq : Stab B q) : Stab B (fun W => p W ∧ q W) := fun W W' row hs hg hr => ⟨hp W W' row hs.1 hg hr, hq W W' row hs.2 hg hr⟩
theorem Stab.ex {B : Nat} {α : Sort _} {p : α → World → Prop} (hp : ∀ x, Stab B (p x)) : Stab B (fun W => ∃ x, p x W) := fun W W' row ⟨x, hs⟩ hg hr => ⟨x, hp x W W' row hs hg hr⟩
theorem Stab.all {B : Nat} {α : Sort _} {p : α → World → Prop} (hp : ∀ x, Stab B (p x)) : Stab B (fun W => ∀ x, p x W) := fun W W' row hs hg hr x => hp x W W' row (hs x) hg hr
theorem Stab.pure {B : Nat} (p : Prop) : Stab B (fun _ => p) := fun _ _ _ hs _ _ => hs
theorem Stab.block {B b : Nat} {c : Array Value} {t : TypeId} {f : Nat × Nat} : Stab B (fun W => W.heap[b]? = some (.cells c t f)) := fun W W' row hs hg hr =>
  (hg.block b (Array.getElem?_eq_some_iff.1 hs).1 (fun e => by obtain ⟨_, o, ho, hc⟩ := hr b e.symm; rw [hs] at ho; cases ho; cases hc)).trans hs
theorem Stab.cell {B : Nat} {a : Addr} {v : Value} : Stab B (fun W => W.cell? a = some v) := fun W W' row hs hg hr => cell_kept hs hg (fun r e => (hr r e).2)
theorem Stab.free {B : Nat} {a : Addr} : Stab B (fun W => (∃ v, W.cell? a = some v) ∧ W.frozen? a = false) := fun W W' row ⟨⟨v, hs⟩, hf⟩ hg hr => ⟨⟨v, cell_kept hs hg (fun r e => (hr r e).2)⟩, (frozen_kept hs hg (fun r e => (hr r e).2)).trans hf⟩
theorem Stab.row {B base : Nat} {e : TypeId} {size : Nat} {v : Value} {n : Nat} {xs : List Value} : Stab B (fun W => W.ownsRow base e size v n xs) := fun W W' row hs hg hr => by
  refine hs.kept hg ?_
  obtain ⟨_, h2⟩ := hs
  rcases h2 with ⟨rfl, _⟩ | ⟨g, cap, cur, rfl, _, hh, _⟩
  · exact .inl rfl
  · refine .inr fun e' => ?_
    obtain ⟨_, o, ho, hc⟩ := hr g e'.symm
    rw [hh] at ho; cases ho; cases hc
theorem Stab.below {B n₀ : Nat} {w₀ : World} (hn : n₀ ≤ w₀.heap.size) (hB : n₀ ≤ B) : Stab B (fun W => Below n₀ w₀ W) := fun W W' row hs hg hr =>
  hs.grown hg (Nat.le_trans hn hs.size) (fun k e => Nat.le_trans hB (hr k e).1)

/-- What a round's body keeps: non-cells from B on, and what the iterator wants. -/
structure Kept (B n₀ lo hi : Nat) (W W' : World) : Prop where
  from_ : KeepsFrom B W W'
  prot : Prot n₀ lo hi W W'
theorem Kept.refl (B n₀ lo hi : Nat) (W : World) : Kept B n₀ lo hi W W := ⟨KeepsFrom.refl _ _, Prot.refl _ _ _ _⟩
theorem Kept.trans {B n₀ lo hi : Nat} {X Y Z : World} (h : Kept B n₀ lo hi X Y) (k : Kept B n₀ lo hi Y Z) : Kept B n₀ lo hi X Z := ⟨h.from_.trans k.from_, h.prot.trans k.prot⟩
theorem Kept.alloc {B n₀ lo hi : Nat} {X W : World} (h : Kept B n₀ lo hi X W) (hn : n₀ ≤ W.heap.size) (hh : hi ≤ W.heap.size) (o : Obj) : Kept B n₀ lo hi X (W.alloc o) :=
  h.trans ⟨(KeepsOthers.alloc W o).from _, by simp, fun k hk => Below.heap_alloc W o k (by omega), fun k h1 h2 => Below.heap_alloc W o k (by omega)⟩
theorem Kept.drew {B n₀ lo hi : Nat} {X W : World} (h : Kept B n₀ lo hi X W) : Kept B n₀ lo hi X W.drew := h.trans ⟨(KeepsOthers.drew W).from _, Nat.le_refl _, fun _ _ => rfl, fun _ _ _ => rfl⟩
theorem Kept.setCell {B n₀ lo hi : Nat} {X W : World} (h : Kept B n₀ lo hi X W) {p : Addr} (hn : n₀ ≤ p.block) (hm : p.block < lo ∨ hi ≤ p.block) (u : Value) : Kept B n₀ lo hi X (W.setCell p u) :=
  h.trans ⟨(KeepsOthers.setCell W p u).from _, by simp [World.setCell], fun k hk => Below.heap_setCell W p u k (by omega), fun k h1 h2 => Below.heap_setCell W p u k (by omega)⟩
theorem Kept.step {B n₀ lo hi : Nat} {X W w1 : World} (h : Kept B n₀ lo hi X W) (hn : n₀ ≤ W.heap.size) (hh : hi ≤ W.heap.size) (hb : Below W.heap.size W w1) : Kept B n₀ lo hi X w1 :=
  h.trans ⟨⟨hb.size, fun k o _ hk _ => (hb.block k (Array.getElem?_eq_some_iff.1 hk).1).trans hk⟩, hb.size, fun k hk => hb.block k (by omega), fun k h1 h2 => hb.block k (by omega)⟩
/-- Behind an append: the row that may have been written is one of cells. -/
theorem Kept.grown {B n₀ lo hi : Nat} {X W W' : World} {row : Option Nat} (h : Kept B n₀ lo hi X W) (hg : W.grownBy W' row) (hn : n₀ ≤ W.heap.size) (hh : hi ≤ W.heap.size)
    (hr : ∀ k, row = some k → n₀ ≤ k ∧ (k < lo ∨ hi ≤ k) ∧ ∀ o, W.heap[k]? = some o → o.isCells = true) : Kept B n₀ lo hi X W' :=
  h.trans ⟨(KeepsOthers.of_grownBy hg (fun j o e ho => (hr j e).2.2 o ho)).from _, hg.size,
    fun k hk => hg.block k (by omega) (fun e => by have := (hr k e.symm).1; omega),
    fun k h1 h2 => hg.block k (by omega) (fun e => by have := (hr k e.symm).2.1; omega)⟩

/-- A row that the call owns is a row of cells, from 'base' on. -/
theorem row_of_own {w : World} {base : Nat} {e : TypeId} {size : Nat} {v : Value} {n : Nat} {xs : List Value} (h : w.ownsRow base e size v n xs) : ∀ k, v.ownBlock = some k → base ≤ k ∧ ∀ o, w.heap[k]? = some o → o.isCells = true := by
  intro k hk
  rcases h.2 with ⟨rfl, _⟩ | ⟨g, cap, cur, rfl, hg, hh, _⟩
  · cases hk
  · cases hk
    exact ⟨hg, fun o ho => by rw [hh] at ho; cases ho; rfl⟩

/-- How a round's body may be left. -/
def roundQ (B n₀ lo hi : Nat) (I : Nat → World → Prop) (Ix : Code → Nat → World → Prop) (k : Nat) (W : World) : Exit → Act → World → Prop
  | .normal, _, W' => Kept B n₀ lo hi W W' ∧ I (k + 1) W'
  | .ret, _, W' => Kept B n₀ lo hi W W' ∧ Ix .ret k W'
  | .exit id, _, W' => Kept B n₀ lo hi W W' ∧ Ix (.exit id) k W'
  | .goto t, _, W' => Kept B n₀ lo hi W W' ∧ Ix (.goto t) k W'
  | .panic _, _, _ => False
  | .outgrown, _, _ => False

/-- The mark on the activation's deferred calls that a range over a function lays. -/
abbrev mark (D : Nat) : Deferred := { target := .collected D, args := #[] }

set_option maxHeartbeats 1000000 in
/-- 'for .. := range g { body }', g a value of an iterator that gives xs. -/
theorem wp_range {P : Program} {g : Operand} {ps : Array Tmp} {assign body : Code} {Q : Exit → Act → World → Prop} {a : Act} {w : World}
    {gf : Nat} {lb : Array Value} (hg : a.eval g = .func (.func gf) #[] lb) (eg : ∀ args w, (callFunc gf args).run P w = .ok (.enter gf args) w)
    {enc : Nat → Array Value} {n₀ lo hi : Nat} {N : Nat} (hseq : SeqI P gf lb enc n₀ lo hi N w) (hn : n₀ ≤ w.heap.size ∧ hi ≤ w.heap.size) (hps : ∀ k, (enc k).size = ps.size)
    (I : Nat → World → Prop) (Ix : Code → Nat → World → Prop) (hI : ∀ k, Stab w.heap.size (I k)) (hIx : ∀ c k, Stab w.heap.size (Ix c k)) (h0 : I 0 w)
    (hround : ∀ (l k : Nat) (W : World), k < N → I k W → w.heap.size ≤ l → l < W.heap.size → w.heap.size ≤ W.heap.size →
      assign.wpIn (Fence.wide.inRound l) 8 P (Exit.then (fun a₁ W1 => Kept w.heap.size n₀ lo hi W W1 ∧ ∀ W2, Turn l W1 W2 → body.wpIn (Fence.wide.inRound l) 8 P (roundQ w.heap.size n₀ lo hi I Ix k W2) a₁ W2) (fun _ _ _ => False))
        { tmps := (ps.zip (enc k)).foldl (fun t (p, v) => t.setIfInBounds p v) a.tmps, defers := [] } W)
    (hdone : ∀ (D : Nat) (W : World), w.heap.size ≤ D → I N W → W.heap[D]? = some (.deferred (some [])) → Q .normal { a with defers := mark D :: a.defers } W)
    (hstop : ∀ (D : Nat) (c : Code) (k : Nat) (W : World), w.heap.size ≤ D → k < N → Ix c k W → W.heap[D]? = some (.deferred (some [])) → c.wp P Q { a with defers := mark D :: a.defers } W) :
    (Code.rangeFunc g ps assign body).wp P Q a w := by
  rw [← wpIn_wide (n := 10)]
  refine wpIn_rangeFunc ?_
  intro fn hfn
  obtain ⟨rec, hrec⟩ : ∃ rec : LoopState → Option Code → Loop, rec = fun st pe => { state := st, pending := pe, fn, tmps := a.tmps, params := ps, assign, body, defers := w.heap.size } := ⟨_, rfl⟩
  obtain ⟨W1, hW1⟩ : ∃ W1, (w.alloc (.deferred (some []))).alloc (.loop (rec .ready none)) = W1 := ⟨_, rfl⟩
  have hL1 : W1.heap[w.heap.size + 1]? = some (.loop (rec .ready none)) := by
    rw [← hW1]; have := World.alloc_heap_new (w.alloc (.deferred (some []))) (.loop (rec .ready none)); rwa [World.size_alloc] at this
  have hK1 : W1.heap[w.heap.size]? = some (.deferred (some [])) := by
    rw [← hW1]; exact (Below.heap_alloc _ _ _ (by simp)).trans (World.alloc_heap_new w _)
  have hI1 : I 0 W1 := by rw [← hW1]; exact (hI 0).alloc _ ((hI 0).alloc _ h0)
  have hb1 : Below w.heap.size w W1 := by rw [← hW1]; exact ((Below.refl _ w).alloc (Nat.le_refl _) _).alloc (by simp) _
  have hs1 : W1.heap.size = w.heap.size + 1 + 1 := by rw [← hW1]; simp
  refine ⟨w.heap.size + 1, [mark w.heap.size], W1, { target := .fn (.func gf) lb, args := #[.func (.yield (w.heap.size + 1)) #[] #[]] }, W1, gf,
    #[.func (.yield (w.heap.size + 1)) #[] #[]] ++ lb, W1, ?_, ?_, ?_, ?_, fun _ => by omega, ?_⟩
  · rw [← hW1, hrec]; exact run_enterLoop_outer _ _ _ _ _
  · simp only [resolve, hg]
    simp [go_sem]
  · intro f' hf'; trivial
  · simp [invoke, go_sem, eg]
  · have hnw : ∀ {A : World} {row : Option Nat}, (∀ r, row = some r → W1.heap.size ≤ r ∧ ∃ o : Obj, A.heap[r]? = some o ∧ o.isWalk = true) → (∀ r, row = some r → w.heap.size ≤ r ∧ ∃ o : Obj, A.heap[r]? = some o ∧ o.isCells = false) :=
      fun hr r e => by obtain ⟨hB, o, ho, hw⟩ := hr r e; exact ⟨by omega, o, ho, Obj.not_cells_of_walk hw⟩
    refine (hseq (10 - 1) (w.heap.size + 1)
      (fun k W => I k W ∧ W.heap[w.heap.size + 1]? = some (.loop (rec .ready none)) ∧ W.heap[w.heap.size]? = some (.deferred (some [])))
      (fun k W => ∃ c, Ix c k W ∧ W.heap[w.heap.size + 1]? = some (.loop (rec .done (some c))) ∧ W.heap[w.heap.size]? = some (.deferred (some [])))
      W1 (by omega) hb1
      (fun k A B row hs hg' hr => ⟨hI k A B row hs.1 hg' (hnw hr), (grownBy_keeps hg' (fun r e => (hr r e).2) hs.2.1 rfl).trans hs.2.1, (grownBy_keeps hg' (fun r e => (hr r e).2) hs.2.2 rfl).trans hs.2.2⟩)
      (fun k A B row hs hg' hr => by
        obtain ⟨c, hc, hl, hk⟩ := hs
        exact ⟨c, hIx c k A B row hc hg' (hnw hr), (grownBy_keeps hg' (fun r e => (hr r e).2) hl rfl).trans hl, (grownBy_keeps hg' (fun r e => (hr r e).2) hk rfl).trans hk⟩)
      ?_ ⟨hI1, hL1, hK1⟩).mono ?_
    · -- one round
      rintro k hlen W ⟨hi', hl, hk⟩
      have hlt : w.heap.size + 1 < W.heap.size := (Array.getElem?_eq_some_iff.1 hl).1
      have hy := run_yield (P := P) (args := enc k) hl (by rw [hrec]; exact hps _)
      rw [hrec] at hy
      refine ⟨fn, _, assign, body, hy, roundIn_of_wpIn hfn ?_⟩
      clear hy
      refine wpIn_mono (hround _ k W hlen hi' (by omega) hlt (by omega)) ?_
      intro e a' Wa hpost
      cases e with
      | normal =>
        obtain ⟨hka, hbody⟩ := hpost
        have hla := hka.from_.same _ _ (by omega) hl rfl
        have hda := hka.from_.same _ _ (Nat.le_refl _) hk rfl
        have hlta : w.heap.size + 1 < Wa.heap.size := (Array.getElem?_eq_some_iff.1 hla).1
        refine ⟨_, run_beginRound hla (by rw [hrec]), ?_⟩
        have hl2 : (Wa.putObj (w.heap.size + 1) (.loop { rec .ready none with state := .busy })).heap[w.heap.size + 1]? = some (.loop { rec .ready none with state := .busy }) := World.putObj_heap_same hlta
        have hk2 : (Wa.putObj (w.heap.size + 1) (.loop { rec .ready none with state := .busy })).heap[w.heap.size]? = some (.deferred (some [])) := (World.putObj_heap_other (by omega)).trans hda
        have hw2 : Prot n₀ lo hi Wa (Wa.putObj (w.heap.size + 1) (.loop { rec .ready none with state := .busy })) := Prot.putObj _ _ _ (by omega)
        refine wpIn_mono (hbody _ (Turn.putObj hla rfl)) ?_
        have fin : ∀ (jump : Option Code) (W3 : World), KeepsFrom w.heap.size (Wa.putObj (w.heap.size + 1) (.loop { rec .ready none with state := .busy })) W3 →
            (Instr.endRound (w.heap.size + 1) jump).run P W3 = .ok (.bool jump.isNone) (W3.putObj (w.heap.size + 1) (.loop (rec (if jump.isNone then .ready else .done) jump))) ∧
            W3.heap[w.heap.size + 1]? = some (.loop { rec .ready none with state := .busy }) ∧
            (W3.putObj (w.heap.size + 1) (.loop (rec (if jump.isNone then .ready else .done) jump))).heap[w.heap.size + 1]? = some (.loop (rec (if jump.isNone then .ready else .done) jump)) ∧
            (W3.putObj (w.heap.size + 1) (.loop (rec (if jump.isNone then .ready else .done) jump))).heap[w.heap.size]? = some (.deferred (some [])) := fun jump W3 hk3 => by
          have hl3 := hk3.same _ _ (by omega) hl2 rfl
          have := run_endRound (P := P) jump hl3
          rw [hrec] at this ⊢
          exact ⟨this, by rw [hrec] at hl3; exact hl3, World.putObj_heap_same (Array.getElem?_eq_some_iff.1 hl3).1, (World.putObj_heap_other (by omega)).trans (hk3.same _ _ (Nat.le_refl _) hk2 rfl)⟩
        rintro e a3 W3 hp
        cases e with
        | normal =>
          obtain ⟨hk3, hi3⟩ := hp
          obtain ⟨hr, hl3, hl4, hk4⟩ := fin none W3 hk3.from_
          exact ⟨_, _, hr, .inl ⟨rfl, ⟨(hI _).putObj _ hi3 (by omega) hl3 rfl, hl4, hk4⟩, hka.prot.trans ((hw2.trans hk3.prot).trans (Prot.putObj _ _ _ (by omega)))⟩⟩
        | ret =>
          obtain ⟨hk3, hi3⟩ := hp
          obtain ⟨hr, hl3, hl4, hk4⟩ := fin (some .ret) W3 hk3.from_
          exact ⟨_, _, hr, .inr ⟨rfl, .ret, (hIx _ _).putObj _ hi3 (by omega) hl3 rfl, hl4, hk4⟩⟩
        | exit id =>
          obtain ⟨hk3, hi3⟩ := hp
          obtain ⟨hr, hl3, hl4, hk4⟩ := fin (some (.exit id)) W3 hk3.from_
          exact ⟨_, _, hr, .inr ⟨rfl, .exit id, (hIx _ _).putObj _ hi3 (by omega) hl3 rfl, hl4, hk4⟩⟩
        | goto t =>
          obtain ⟨hk3, hi3⟩ := hp
          obtain ⟨hr, hl3, hl4, hk4⟩ := fin (some (.goto t)) W3 hk3.from_
          exact ⟨_, _, hr, .inr ⟨rfl, .goto t, (hIx _ _).putObj _ hi3 (by omega) hl3 rfl, hl4, hk4⟩⟩
        | panic ch => exact hp.elim
        | outgrown => exact hp.elim
      | ret => exact hpost.elim
      | exit id => exact hpost.elim
      | goto t => exact hpost.elim
      | panic ch => exact hpost.elim
      | outgrown => exact hpost.elim
    · -- behind the iterator
      rintro e W2 ⟨⟨v, rfl⟩, (⟨hi', hl, hk⟩ | ⟨k, hkl, c, hi', hl, hk⟩)⟩
      · exact ⟨none, _, by have := run_endLoop (P := P) hl (by rw [hrec]; simp); rw [hrec] at this; exact this, hdone _ _ (Nat.le_refl _) ((hI _).putObj _ hi' (by omega) hl rfl) ((World.putObj_heap_other (by omega)).trans hk)⟩
      · exact ⟨some c, _, by have := run_endLoop (P := P) hl (by rw [hrec]; simp); rw [hrec] at this; exact this, wpIn_wide.2 (hstop _ c k _ (Nat.le_refl _) hkl ((hIx c k).putObj _ hi' (by omega) hl rfl) ((World.putObj_heap_other (by omega)).trans hk))⟩

/-- A function whose body holds a range over a function. -/
theorem calls_marks {P : Program} {f : FuncId} {fn : Func} {c : Code} {args : Array Value} {w : World} {R : Ending → World → Prop}
    (hf : P.funcs[f]? = some fn) (hb : fn.body = some c)
    (h : c.wp P (bodyPostM Fence.wide 10 P fn R) { tmps := args ++ Array.replicate (fn.ntmps - args.size) undef, defers := [] } w) : Calls P f args w R :=
  callsIn_wide.1 (callsIn_of_wp_marks (F := Fence.wide) (n := 10) hf hb trivial (wpIn_wide.2 h) rfl)

/-- Its return behind one such loop. -/
theorem ret_mark {P : Program} {fn : Func} {R : Ending → World → Prop} {tmps : Array Value} {w : World} {D : Nat} {e : Exit} (he : e = .ret ∨ e = .normal) (hK : w.heap[D]? = some (.deferred (some [])))
    (h : ∀ w', Turn D w w' → ∃ v, (results fn tmps).run P w' = .ok v w' ∧ R (.returned v) w') : bodyPostM Fence.wide 10 P fn R e { tmps, defers := [mark D] } w := by
  obtain ⟨v, hr, hR⟩ := h _ (Turn.putObj hK rfl)
  rcases he with rfl | rfl
  · exact ⟨by simp, .inl ⟨_, _, rfl, run_takeDeferred hK, ⟨v, hr, hR⟩⟩⟩
  · exact ⟨by simp, .inl ⟨_, _, rfl, run_takeDeferred hK, ⟨v, hr, hR⟩⟩⟩
/-- Its return on a way without such a loop. -/
theorem ret_plain {P : Program} {fn : Func} {R : Ending → World → Prop} {tmps : Array Value} {w : World} {v : Value} {e : Exit} (he : e = .ret ∨ e = .normal) (hr : (results fn tmps).run P w = .ok v w) (hR : R (.returned v) w) :
    bodyPostM Fence.wide 10 P fn R e { tmps, defers := [] } w := by
  rcases he with rfl | rfl
  · exact ⟨v, hr, hR⟩
  · exact ⟨v, hr, hR⟩
end Go.Proofs.YtdgeinipdphoeaaDoor
/- A range over a function whose iterator turns a box of its own between the rounds ('SeqW'), and the caller's law. -/
namespace Go.Proofs.YtdgeinipdphoeaaDoor
set_option linter.unusedVariables false
set_option linter.unusedSimpArgs false
open Go.RowKit

/-- It abides stores into the blocks from lo on, below hi. -/
def Own (lo hi : Nat) (p : World → Prop) : Prop := ∀ W b v, lo ≤ b → b < hi → p W → p (W.setCell ⟨b, 0, none⟩ v)

/-- As 'SeqI'; the iterator may store into its own blocks between the rounds. -/
def SeqW (P : Program) (g : Nat) (lb : Array Value) (enc : Nat → Array Value) (n₀ lo hi : Nat) (N : Nat) (w : World) : Prop :=
  ∀ (n l : Nat) (J Jx : Nat → World → Prop) (W : World), 1 ≤ n → Below w.heap.size w W → (∀ k, Abide W.heap.size (J k)) → (∀ k, Abide W.heap.size (Jx k)) → (∀ k, Own lo hi (J k)) →
    (∀ k, k < N → ∀ W1, J k W1 → YieldAt Fence.wide (n - 1) P l (enc k) W1 fun e W' =>
      (e = .returned (.bool true) ∧ J (k + 1) W' ∧ Prot n₀ lo hi W1 W') ∨ (e = .returned (.bool false) ∧ Jx k W')) →
    J 0 W →
    CallsIn Fence.wide n P g (#[.func (.yield l) #[] #[]] ++ lb) W fun e W' => (∃ v, e = .returned v) ∧ (J N W' ∨ ∃ k, k < N ∧ Jx k W')

set_option maxHeartbeats 1000000 in
/-- 'for .. := range g { body }', g a value of an iterator that gives xs. -/
theorem wp_rangeW {P : Program} {g : Operand} {ps : Array Tmp} {assign body : Code} {Q : Exit → Act → World → Prop} {a : Act} {w : World}
    {gf : Nat} {lb : Array Value} (hg : a.eval g = .func (.func gf) #[] lb) (eg : ∀ args w, (callFunc gf args).run P w = .ok (.enter gf args) w)
    {enc : Nat → Array Value} {n₀ lo hi : Nat} {N : Nat} (hseq : SeqW P gf lb enc n₀ lo hi N w) (hn : n₀ ≤ w.heap.size ∧ hi ≤ w.heap.size) (hps : ∀ k, (enc k).size = ps.size)
    (I : Nat → World → Prop) (Ix : Code → Nat → World → Prop) (hI : ∀ k, Stab w.heap.size (I k)) (hIx : ∀ c k, Stab w.heap.size (Ix c k)) (hIw : ∀ k, Own lo hi (I k)) (h0 : I 0 w)
    (hround : ∀ (l k : Nat) (W : World), k < N → I k W → w.heap.size ≤ l → l < W.heap.size → w.heap.size ≤ W.heap.size →
      assign.wpIn (Fence.wide.inRound l) 8 P (Exit.then (fun a₁ W1 => Kept w.heap.size n₀ lo hi W W1 ∧ ∀ W2, Turn l W1 W2 → body.wpIn (Fence.wide.inRound l) 8 P (roundQ w.heap.size n₀ lo hi I Ix k W2) a₁ W2) (fun _ _ _ => False))
        { tmps := (ps.zip (enc k)).foldl (fun t (p, v) => t.setIfInBounds p v) a.tmps, defers := [] } W)
    (hdone : ∀ (D : Nat) (W : World), w.heap.size ≤ D → I N W → W.heap[D]? = some (.deferred (some [])) → Q .normal { a with defers := mark D :: a.defers } W)
    (hstop : ∀ (D : Nat) (c : Code) (k : Nat) (W : World), w.heap.size ≤ D → k < N → Ix c k W → W.heap[D]? = some (.deferred (some [])) → c.wp P Q { a with defers := mark D :: a.defers } W) :
    (Code.rangeFunc g ps assign body).wp P Q a w := by
  rw [← wpIn_wide (n := 10)]
  refine wpIn_rangeFunc ?_
  intro fn hfn
  obtain ⟨rec, hrec⟩ : ∃ rec : LoopState → Option Code → Loop, rec = fun st pe => { state := st, pending := pe, fn, tmps := a.tmps, params := ps, assign, body, defers := w.heap.size } := ⟨_, rfl⟩
  obtain ⟨W1, hW1⟩ : ∃ W1, (w.alloc (.deferred (some []))).alloc (.loop (rec .ready none)) = W1 := ⟨_, rfl⟩
  have hL1 : W1.heap[w.heap.size + 1]? = some (.loop (rec .ready none)) := by
    rw [← hW1]; have := World.alloc_heap_new (w.alloc (.deferred (some []))) (.loop (rec .ready none)); rwa [World.size_alloc] at this
  have hK1 : W1.heap[w.heap.size]? = some (.deferred (some [])) := by
    rw [← hW1]; exact (Below.heap_alloc _ _ _ (by simp)).trans (World.alloc_heap_new w _)
  have hI1 : I 0 W1 := by rw [← hW1]; exact (hI 0).alloc _ ((hI 0).alloc _ h0)
  have hb1 : Below w.heap.size w W1 := by rw [← hW1]; exact ((Below.refl _ w).alloc (Nat.le_refl _) _).alloc (by simp) _
  have hs1 : W1.heap.size = w.heap.size + 1 + 1 := by rw [← hW1]; simp
  refine ⟨w.heap.size + 1, [mark w.heap.size], W1, { target := .fn (.func gf) lb, args := #[.func (.yield (w.heap.size + 1)) #[] #[]] }, W1, gf,
    #[.func (.yield (w.heap.size + 1)) #[] #[]] ++ lb, W1, ?_, ?_, ?_, ?_, fun _ => by omega, ?_⟩
  · rw [← hW1, hrec]; exact run_enterLoop_outer _ _ _ _ _
  · simp only [resolve, hg]
    simp [go_sem]
  · intro f' hf'; trivial
  · simp [invoke, go_sem, eg]
  · have hnw : ∀ {A : World} {row : Option Nat}, (∀ r, row = some r → W1.heap.size ≤ r ∧ ∃ o : Obj, A.heap[r]? = some o ∧ o.isWalk = true) → (∀ r, row = some r → w.heap.size ≤ r ∧ ∃ o : Obj, A.heap[r]? = some o ∧ o.isCells = false) :=
      fun hr r e => by obtain ⟨hB, o, ho, hw⟩ := hr r e; exact ⟨by omega, o, ho, Obj.not_cells_of_walk hw⟩
    refine (hseq (10 - 1) (w.heap.size + 1)
      (fun k W => I k W ∧ W.heap[w.heap.size + 1]? = some (.loop (rec .ready none)) ∧ W.heap[w.heap.size]? = some (.deferred (some [])))
      (fun k W => ∃ c, Ix c k W ∧ W.heap[w.heap.size + 1]? = some (.loop (rec .done (some c))) ∧ W.heap[w.heap.size]? = some (.deferred (some [])))
      W1 (by omega) hb1
      (fun k A B row hs hg' hr => ⟨hI k A B row hs.1 hg' (hnw hr), (grownBy_keeps hg' (fun r e => (hr r e).2) hs.2.1 rfl).trans hs.2.1, (grownBy_keeps hg' (fun r e => (hr r e).2) hs.2.2 rfl).trans hs.2.2⟩)
      (fun k A B row hs hg' hr => by
        obtain ⟨c, hc, hl, hk⟩ := hs
        exact ⟨c, hIx c k A B row hc hg' (hnw hr), (grownBy_keeps hg' (fun r e => (hr r e).2) hl rfl).trans hl, (grownBy_keeps hg' (fun r e => (hr r e).2) hk rfl).trans hk⟩)
      (fun k A b v h1 h2 hs => ⟨hIw k A b v h1 h2 hs.1, (heap_set_other (by omega)).trans hs.2.1, (heap_set_other (by omega)).trans hs.2.2⟩)
      ?_ ⟨hI1, hL1, hK1⟩).mono ?_
    · -- one round
      rintro k hlen W ⟨hi', hl, hk⟩
      have hlt : w.heap.size + 1 < W.heap.size := (Array.getElem?_eq_some_iff.1 hl).1
      have hy := run_yield (P := P) (args := enc k) hl (by rw [hrec]; exact hps _)
      rw [hrec] at hy
      refine ⟨fn, _, assign, body, hy, roundIn_of_wpIn hfn ?_⟩
      clear hy
      refine wpIn_mono (hround _ k W hlen hi' (by omega) hlt (by omega)) ?_
      intro e a' Wa hpost
      cases e with
      | normal =>
        obtain ⟨hka, hbody⟩ := hpost
        have hla := hka.from_.same _ _ (by omega) hl rfl
        have hda := hka.from_.same _ _ (Nat.le_refl _) hk rfl
        have hlta : w.heap.size + 1 < Wa.heap.size := (Array.getElem?_eq_some_iff.1 hla).1
        refine ⟨_, run_beginRound hla (by rw [hrec]), ?_⟩
        have hl2 : (Wa.putObj (w.heap.size + 1) (.loop { rec .ready none with state := .busy })).heap[w.heap.size + 1]? = some (.loop { rec .ready none with state := .busy }) := World.putObj_heap_same hlta
        have hk2 : (Wa.putObj (w.heap.size + 1) (.loop { rec .ready none with state := .busy })).heap[w.heap.size]? = some (.deferred (some [])) := (World.putObj_heap_other (by omega)).trans hda
        have hw2 : Prot n₀ lo hi Wa (Wa.putObj (w.heap.size + 1) (.loop { rec .ready none with state := .busy })) := Prot.putObj _ _ _ (by omega)
        refine wpIn_mono (hbody _ (Turn.putObj hla rfl)) ?_
        have fin : ∀ (jump : Option Code) (W3 : World), KeepsFrom w.heap.size (Wa.putObj (w.heap.size + 1) (.loop { rec .ready none with state := .busy })) W3 →
            (Instr.endRound (w.heap.size + 1) jump).run P W3 = .ok (.bool jump.isNone) (W3.putObj (w.heap.size + 1) (.loop (rec (if jump.isNone then .ready else .done) jump))) ∧
            W3.heap[w.heap.size + 1]? = some (.loop { rec .ready none with state := .busy }) ∧
            (W3.putObj (w.heap.size + 1) (.loop (rec (if jump.isNone then .ready else .done) jump))).heap[w.heap.size + 1]? = some (.loop (rec (if jump.isNone then .ready else .done) jump)) ∧
            (W3.putObj (w.heap.size + 1) (.loop (rec (if jump.isNone then .ready else .done) jump))).heap[w.heap.size]? = some (.deferred (some [])) := fun jump W3 hk3 => by
          have hl3 := hk3.same _ _ (by omega) hl2 rfl
          have := run_endRound (P := P) jump hl3
          rw [hrec] at this ⊢
          exact ⟨this, by rw [hrec] at hl3; exact hl3, World.putObj_heap_same (Array.getElem?_eq_some_iff.1 hl3).1, (World.putObj_heap_other (by omega)).trans (hk3.same _ _ (Nat.le_refl _) hk2 rfl)⟩
        rintro e a3 W3 hp
        cases e with
        | normal =>
          obtain ⟨hk3, hi3⟩ := hp
          obtain ⟨hr, hl3, hl4, hk4⟩ := fin none W3 hk3.from_
          exact ⟨_, _, hr, .inl ⟨rfl, ⟨(hI _).putObj _ hi3 (by omega) hl3 rfl, hl4, hk4⟩, hka.prot.trans ((hw2.trans hk3.prot).trans (Prot.putObj _ _ _ (by omega)))⟩⟩
        | ret =>
          obtain ⟨hk3, hi3⟩ := hp
          obtain ⟨hr, hl3, hl4, hk4⟩ := fin (some .ret) W3 hk3.from_
          exact ⟨_, _, hr, .inr ⟨rfl, .ret, (hIx _ _).putObj _ hi3 (by omega) hl3 rfl, hl4, hk4⟩⟩
        | exit id =>
          obtain ⟨hk3, hi3⟩ := hp
          obtain ⟨hr, hl3, hl4, hk4⟩ := fin (some (.exit id)) W3 hk3.from_
          exact ⟨_, _, hr, .inr ⟨rfl, .exit id, (hIx _ _).putObj _ hi3 (by omega) hl3 rfl, hl4, hk4⟩⟩
        | goto t =>
          obtain ⟨hk3, hi3⟩ := hp
          obtain ⟨hr, hl3, hl4, hk4⟩ := fin (some (.goto t)) W3 hk3.from_
          exact ⟨_, _, hr, .inr ⟨rfl, .goto t, (hIx _ _).putObj _ hi3 (by omega) hl3 rfl, hl4, hk4⟩⟩
        | panic ch => exact hp.elim
        | outgrown => exact hp.elim
      | ret => exact hpost.elim
      | exit id => exact hpost.elim
      | goto t => exact hpost.elim
      | panic ch => exact hpost.elim
      | outgrown => exact hpost.elim
    · -- behind the iterator
      rintro e W2 ⟨⟨v, rfl⟩, (⟨hi', hl, hk⟩ | ⟨k, hkl, c, hi', hl, hk⟩)⟩
      · exact ⟨none, _, by have := run_endLoop (P := P) hl (by rw [hrec]; simp); rw [hrec] at this; exact this, hdone _ _ (Nat.le_refl _) ((hI _).putObj _ hi' (by omega) hl rfl) ((World.putObj_heap_other (by omega)).trans hk)⟩
      · exact ⟨some c, _, by have := run_endLoop (P := P) hl (by rw [hrec]; simp); rw [hrec] at this; exact this, wpIn_wide.2 (hstop _ c k _ (Nat.le_refl _) hkl ((hIx c k).putObj _ hi' (by omega) hl rfl) ((World.putObj_heap_other (by omega)).trans hk))⟩

end Go.Proofs.YtdgeinipdphoeaaDoor
/- Varints: the program's iterator over a number's bytes. -/
namespace Go.Proofs.YtdgeinipdphoeaaDoor
set_option linter.unusedVariables false
set_option linter.unusedSimpArgs false
open Go.ChangeShapes Go.WideShapes Go.ChangeAt Go.RowKit Go.Shelf
attribute [local go_sem] Oper.semAt_some

theorem bytes_any (n : Int) (w : World) :
    Calls Tryd.prog 48 #[.int .u64 n] w fun e w' => e = .returned (.func (.func 57) #[] #[.pointer (some ⟨w.heap.size, 0, none⟩)]) ∧ w' = w.alloc (.cells #[.int .u64 n] 53) := by
  go_enter Tryd.func48, Tryd.ntmps48
  go_wp2
  go_ret
  exact ⟨rfl, rfl⟩

theorem putB_big {m : Nat} (h : 128 ≤ m) : putB m = UInt8.ofNat (128 + m % 128) :: putB (m / 128) := by rw [putB, if_neg (by omega)]
theorem putB_small {m : Nat} (h : m < 128) : putB m = [UInt8.ofNat m] := by rw [putB, if_pos h]
theorem putB_pos (m : Nat) : 0 < (putB m).length := by rw [putB]; split <;> simp
theorem bits_or_u8 (x : Nat) (hx : x < 256) : bits .or .u8 (x : Int) 128 = ((128 + x % 128 : Nat) : Int) := by
  have h : ∀ x : Fin 256, bits .or .u8 (x.val : Int) 128 = ((128 + x.val % 128 : Nat) : Int) := by decide +kernel
  exact h ⟨x, hx⟩

/-- What a box of one number holds. -/
def boxN (b : Nat) (w : World) : Nat := match w.cell? ⟨b, 0, none⟩ with | some (.int _ n) => n.toNat | _ => 0

/-- The k-th byte of a list, as a value. -/
abbrev byteV (l : List UInt8) (k : Nat) : Value := .int .u8 ((l[k]?.getD 0).toNat : Int)

set_option maxRecDepth 100000 in
set_option maxHeartbeats 1000000 in
theorem bytes_seq (n : Nat) (hn : n ≤ 18446744073709551615) (b1 n₀ lo hi : Nat) (w : World) (hb1 : lo ≤ b1 ∧ b1 < hi) (hw : hi ≤ w.heap.size)
    (c0 : w.heap[b1]? = some (.cells #[.int .u64 (n : Int)] 53 (0, 0))) :
    SeqW Tryd.prog 57 #[.pointer (some ⟨b1, 0, none⟩)] (fun k : Nat => #[byteV (putB n) k]) n₀ lo hi (putB n).length w := by
  intro m0 l J Jx W hm0 hW hJ hJx hO hY h0
  have d0 := (hW.block b1 (by omega)).trans c0
  obtain ⟨m1, rfl⟩ : ∃ m1, m0 = m1 + 1 := ⟨m0 - 1, by omega⟩
  obtain ⟨L, hL⟩ : ∃ L, putB n = L := ⟨_, rfl⟩
  rw [hL] at hY ⊢
  clear c0
  refine callsIn_of_wp Tryd.func57 rfl trivial ?_ rfl
  simp only [Tryd.ntmps57, List.size_toArray, List.length_cons, List.length_nil, Nat.reduceAdd, Nat.reduceSub, Array.replicate_succ, Array.replicate_zero, List.push_toArray, List.append_toArray, List.nil_append, List.cons_append]
  gi_wp2
  gi_loopw [] (fun wr => ∃ k m : Nat, m ≤ n ∧ putB m = L.drop k ∧ wr.heap[b1]? = some (.cells #[.int .u64 (m : Int)] 53 (0, 0)) ∧ J k wr ∧ W.heap.size ≤ wr.heap.size) (fun wr => boxN b1 wr)
  case atStart => exact ⟨0, n, Nat.le_refl _, by rw [hL]; rfl, d0, h0, Nat.le_refl _⟩
  case round =>
    obtain ⟨k, m, hm, hp, hbox, hJs, hsz⟩ := hrel
    have hc := cell_of_one hbox
    have hfz := free_of_one hbox
    have hmeas : boxN b1 wr = m := by simp [boxN, hc]
    by_cases hbig : 128 ≤ m
    · rw [putB_big hbig] at hp
      have hk : k < L.length := by
        rcases Nat.lt_or_ge k L.length with h | h
        · exact h
        · rw [List.drop_eq_nil_of_le h] at hp; cases hp
      have hcons := List.drop_eq_getElem_cons hk
      rw [hcons] at hp
      obtain ⟨hp1, hp2⟩ := List.cons.inj hp
      obtain ⟨fn, tmps, assign, body, hy, hR⟩ := hY k hk wr hJs
      have hb : byteV L k = .int .u8 ((128 + m % 128 : Nat) : Int) := by
        simp only [byteV, List.getElem?_eq_getElem hk, Option.getD_some, ← hp1]
        congr 1
        simp
        omega
      rw [hb] at hy
      obtain ⟨Y, hY1⟩ : ∃ Y : Int, ((128 + m % 128 : Nat) : Int) = Y := ⟨_, rfl⟩
      have hor : bits .or .u8 ((m : Int) % 256) 128 = Y := by
        rw [← hY1, show (m : Int) % 256 = ((m % 256 : Nat) : Int) by omega, bits_or_u8 _ (by omega)]
        omega
      rw [hY1] at hy
      have hdn := hid (show ((m : Int) / 128) = ((m / 128 : Nat) : Int) by omega)
      have hp3 := hid hp2
      have hms := hid hmeas
      clear hY hJ hJx hY1 hb hp hp1 hp2 hcons hmeas hL
      gi_wp2
      refine hR.mono ?_
      rintro e W3 (⟨rfl, hJ3, hP3⟩ | ⟨rfl, hJx3⟩)
      · have hbox3 := (hP3.mid b1 hb1.1 hb1.2).trans hbox
        have hc3 := cell_of_one hbox3
        have hfz3 := free_of_one hbox3
        have hz3 := hP3.size
        gi_wp2
        go_roundw
        case rel => exact ⟨k + 1, m / 128, by omega, hp3.out, by rw [heap_set_same hbox3, hdn.out], hO _ _ _ _ hb1.1 hb1.2 hJ3, by simp; omega⟩
        case measure =>
          have hq := cell_of_one (heap_set_same (u := .int .u64 ((m : Int) / 128)) hbox3)
          have hq2 : boxN b1 (W3.setCell ⟨b1, 0, none⟩ (.int .u64 ((m : Int) / 128))) = m / 128 := by simp only [boxN, hq]; omega
          rw [hms.out, hq2]
          omega
      · gi_wp2
        refine bodyPost_ret (results_none rfl _ _ _) rfl ?_
        exact ⟨⟨_, rfl⟩, .inr ⟨k, hk, hJx3⟩⟩
    · have hsm : m < 128 := by omega
      rw [putB_small hsm] at hp
      have hk : k < L.length := by
        rcases Nat.lt_or_ge k L.length with h | h
        · exact h
        · rw [List.drop_eq_nil_of_le h] at hp; cases hp
      have hcons := List.drop_eq_getElem_cons hk
      rw [hcons] at hp
      obtain ⟨hp1, hp2⟩ := List.cons.inj hp
      have hlast : k + 1 = L.length := by
        have := congrArg List.length hp2
        simp at this
        omega
      obtain ⟨fn, tmps, assign, body, hy, hR⟩ := hY k hk wr hJs
      have hb : byteV L k = .int .u8 (m : Int) := by
        simp only [byteV, List.getElem?_eq_getElem hk, Option.getD_some, ← hp1]
        congr 1
        simp
        omega
      rw [hb] at hy
      rw [hlast] at hR
      clear hY hJ hJx hb hp hp1 hp2 hcons hmeas hL hbig
      gi_wp2
      refine hR.mono ?_
      rintro e W3 (⟨rfl, hJ3, hP3⟩ | ⟨rfl, hJx3⟩)
      · gi_wp2
        go_end0
        exact ⟨⟨_, rfl⟩, .inl hJ3⟩
      · gi_wp2
        go_end0
        exact ⟨⟨_, rfl⟩, .inr ⟨k, hk, hJx3⟩⟩
end Go.Proofs.YtdgeinipdphoeaaDoor
