/- Wide numbers: the verifier's 'Mul', by binary digits. -/
import Derived.Test.YtekmcomddaoljaaWideE
namespace Go.Proofs.Ytekmcomddaoljaa
set_option linter.unusedVariables false
set_option linter.unusedSimpArgs false
open Go.ChangeShapes Go.WideShapes Go.ChangeAt Go.RowKit

/-- What the first k digits give. -/
def mulK (U : Nat) (n m : Int) (k : Nat) : Int := if k ≤ 63 then m * ((U % 2 ^ k : Nat) : Int) else n * m
theorem digits (U k : Nat) : U % 2 ^ (k + 1) = U % 2 ^ k + 2 ^ k * (U / 2 ^ k % 2) := Nat.mod_pow_succ
theorem mulK_zero (U : Nat) (n m : Int) (k : Nat) (hk : k < 63) (hb : U / 2 ^ k % 2 = 0) : mulK U n m (k + 1) = mulK U n m k := by
  rw [mulK, mulK, if_pos (by omega), if_pos (by omega), digits, hb]; simp
theorem mulK_one (U : Nat) (n m : Int) (k : Nat) (hk : k < 63) (hb : U / 2 ^ k % 2 = 1) : mulK U n m (k + 1) = mulK U n m k + m * 2 ^ k := by
  rw [mulK, mulK, if_pos (by omega), if_pos (by omega), digits, hb]
  rw [Int.natCast_add, Int.mul_add]
  simp
theorem mulK_last {U : Nat} {n m : Int} (hn : -9223372036854775808 ≤ n ∧ n ≤ 9223372036854775807) (hU : (U : Int) = n % 18446744073709551616) :
    (U / 2 ^ 63 % 2 = 0 → mulK U n m 64 = mulK U n m 63) ∧ (U / 2 ^ 63 % 2 = 1 → mulK U n m 64 = mulK U n m 63 + -(m * 2 ^ 63)) := by
  have a1 : mulK U n m 64 = n * m := by simp [mulK]
  have a2 : mulK U n m 63 = m * ((U % 9223372036854775808 : Nat) : Int) := by simp [mulK]
  have e : (2 : Nat) ^ 63 = 9223372036854775808 := by simp
  have e' : (2 : Int) ^ 63 = 9223372036854775808 := by simp
  rw [a1, a2, e, e']
  refine ⟨fun h => ?_, fun h => ?_⟩
  · have : ((U % 9223372036854775808 : Nat) : Int) = n := by omega
    rw [this, Int.mul_comm]
  · have : ((U % 9223372036854775808 : Nat) : Int) = n + 9223372036854775808 := by omega
    rw [this, Int.mul_add, Int.mul_comm m n]
    omega
theorem digit_int {U k : Nat} {d : Nat} (h : U / 2 ^ k % 2 = d) : ((U : Int) / 2 ^ k).tmod 2 = d := by
  rw [Int.tmod_eq_emod_of_nonneg (Int.ediv_nonneg (by omega) (Int.le_of_lt (Int.pow_pos (by decide))))]
  have := congrArg (Nat.cast : Nat → Int) h
  simpa using this

theorem refNeg_any (n : Int) (w : World) : Calls Try.prog 50 #[(Value.agg #[.int .i64 (hiW (n)), .int .u64 (loW (n))])] w fun e w' => e = .returned ((Value.agg #[.int .i64 (hiW (-n)), .int .u64 (loW (-n))])) ∧ Below w.heap.size w w' := by
  have h := refNeg_words (hiW n) (loW n) (hiW_is n) (loW_is n) w
  rw [wv_eq (n := -(hiW n * 18446744073709551616 + loW n)) (m := -n) (by have := words n; omega)] at h
  exact h
set_option maxHeartbeats 1000000 in
theorem refMul_any (n m : Int) (hn : -9223372036854775808 ≤ n ∧ n ≤ 9223372036854775807) (hm : -9223372036854775808 ≤ m ∧ m ≤ 9223372036854775807) (w : World) :
    Calls Try.prog 41 #[.int .i64 n, .int .i64 m] w fun e w' => e = .returned ((Value.agg #[.int .i64 (hiW (n * m)), .int .u64 (loW (n * m))])) ∧ Below w.heap.size w w' := by
  have bu : 0 ≤ n % 18446744073709551616 := by omega
  obtain ⟨U, hU⟩ := Int.eq_ofNat_of_zero_le bu
  have hw : IntKind.u64.wrap n = (U : Int) := by rw [IntKind.wrap_u64]; exact hU
  have HL := hid (mulK_last (m := m) hn hU.symm)
  have h64 : mulK U n m 64 = n * m := by simp [mulK]
  have h0 : mulK U n m 0 = 0 := by simp [mulK, Nat.mod_one]
  rw [← h64]
  have H0 := hid h0; have HU := hid hU
  clear h64 h0 hU bu
  go_enter Try.func41, Try.ntmps41
  go_wp2
  go_loopw [6] (fun i wr => ∃ k : Nat, k ≤ 64 ∧ i = .int .i64 k ∧ wr.heap[w.heap.size + 1]? = some (.cells #[.int .i64 (hiW (mulK U n m k)), .int .u64 (loW (mulK U n m k))] 39 (0, 0)) ∧ wr.heap[w.heap.size]? = some (.cells #[.int .i64 0, .int .u64 0] 39 (0, 0)) ∧ Below w.heap.size w wr) (fun i _ => 64 - (intOf i).toNat)
  case atStart => exact ⟨0, Nat.zero_le _, rfl, by rw [H0.out]; (simp (disch := first | omega | (simp only [World.size_alloc, World.size_setCell, World.size_drew]; done) | (simp only [World.size_alloc, World.size_setCell, World.size_drew]; omega)) only [heap_at, heap_past, heap_set_other, heap_set_same]); rfl, by (simp (disch := first | omega | (simp only [World.size_alloc, World.size_setCell, World.size_drew]; done) | (simp only [World.size_alloc, World.size_setCell, World.size_drew]; omega)) only [heap_at, heap_past, heap_set_other, heap_set_same]), by (repeat' (first | (with_reducible exact Below.refl _ _) | (with_reducible assumption) | (with_reducible refine Below.new ?_ _) | (with_reducible refine Below.alloc ?_ ?_ _) | (with_reducible refine Below.drew ?_) | (with_reducible refine Below.setCell ?_ ?_ _) | (refine Below.step ?_ (by assumption)) | go_size))⟩
  case round =>
    obtain ⟨k, hk, rfl, hA, hR, hbel⟩ := hrel
    obtain ⟨c0, c1, g0, g1, b1⟩ := two_is hA
    by_cases hlt : k < 64
    · have hbit : U / 2 ^ k % 2 = 0 ∨ U / 2 ^ k % 2 = 1 := by omega
      have HZ := hid (fun h => mulK_zero U n m k h); have HO := hid (fun h => mulK_one U n m k h)
      rcases hbit with hbit | hbit
      · have ht : ((U : Int) / 2 ^ k).tmod 2 = 0 := digit_int hbit
        have hnext : mulK U n m (k + 1) = mulK U n m k := by
          by_cases h63 : k < 63
          · exact mulK_zero U n m k h63 hbit
          · obtain rfl : k = 63 := by omega
            exact HL.out.1 hbit
        have HX := hid hnext
        clear hbit hnext
        go_wp2
        go_roundw
        case rel => exact ⟨k + 1, hlt, by go_num, by rw [HX.out]; exact hA, hR, hbel⟩
        case measure => simp [intOf]; omega
      · have ht : ((U : Int) / 2 ^ k).tmod 2 = 1 := digit_int hbit
        have hsh : shiftV m (k : Int) = m * 2 ^ k := by rw [shiftV, if_pos (by omega)]; simp
        have HS := hid hsh
        by_cases h63 : k < 63
        · have HX := hid (mulK_one U n m k h63 hbit)
          have hk63 : ((k : Int) == 63) = false := by simp; omega
          clear hbit hsh
          go_wp2_with (first
            | (go_at_call 44; refine (refOf_any m hm _).mono ?_; rintro e w1 ⟨rfl, hb1⟩; obtain ⟨hc1, hf1, hk1, hz1⟩ := bcell3 hb1; (try simp only [World.size_alloc] at hz1); have hA1 := (hb1.block _ b1).trans hA; have hR1 := (hb1.block _ (lt_of_block hR)).trans hR)
            | (go_at_call 43; refine (refShift_any m _ _).mono ?_; rintro e w2 ⟨rfl, hb2⟩; rw [HS.out]; obtain ⟨hc2, hf2, hk2, hz2⟩ := bcell3 hb2; (try simp only [World.size_alloc] at hz2); have hA2 := (hb2.block _ (lt_of_block hA1)).trans hA1; have hR2 := (hb2.block _ (lt_of_block hR1)).trans hR1; obtain ⟨c0', c1', g0', g1', b1'⟩ := two_is hA2)
            | (go_at_call 48; (with_reducible refine (refAdd_any _ _ _).mono ?_); rintro e w3 ⟨rfl, hb3⟩; have hA3 := (hb3.block (w.heap.size + 1) (by simp; omega)).trans ((heap_past b1').trans hA2); have hR3 := (hb3.block w.heap.size (by simp; omega)).trans ((heap_past (by omega)).trans hR2); obtain ⟨d0, d1, f0, f1, b3⟩ := two_is hA3))
          go_roundw
          case rel => exact ⟨k + 1, hlt, by go_num, by rw [HX.out]; exact two_set hA3, by rw [heap_set_other (by simp), heap_set_other (by simp)]; exact hR3, by (repeat' (first | (with_reducible exact Below.refl _ _) | (with_reducible assumption) | (with_reducible refine Below.new ?_ _) | (with_reducible refine Below.alloc ?_ ?_ _) | (with_reducible refine Below.drew ?_) | (with_reducible refine Below.setCell ?_ ?_ _) | (refine Below.step ?_ (by assumption)) | go_size))⟩
          case measure => simp [intOf]; omega
        · have HX : Hid (mulK U n m (k + 1) = mulK U n m k + -(m * 2 ^ k)) := by
            obtain rfl : k = 63 := by omega
            exact hid (HL.out.2 hbit)
          have hk63 : ((k : Int) == 63) = true := by simp; omega
          clear hbit hsh
          go_wp2_with (first
            | (go_at_call 44; refine (refOf_any m hm _).mono ?_; rintro e w1 ⟨rfl, hb1⟩; obtain ⟨hc1, hf1, hk1, hz1⟩ := bcell3 hb1; (try simp only [World.size_alloc] at hz1); have hA1 := (hb1.block _ b1).trans hA; have hR1 := (hb1.block _ (lt_of_block hR)).trans hR)
            | (go_at_call 43; refine (refShift_any m _ _).mono ?_; rintro e w2 ⟨rfl, hb2⟩; rw [HS.out]; obtain ⟨hc2, hf2, hk2, hz2⟩ := bcell3 hb2; (try simp only [World.size_alloc] at hz2); have hA2 := (hb2.block _ (lt_of_block hA1)).trans hA1; have hR2 := (hb2.block _ (lt_of_block hR1)).trans hR1; obtain ⟨c0', c1', g0', g1', b1'⟩ := two_is hA2)
            | (go_at_call 50; (with_reducible refine (refNeg_any _ _).mono ?_); rintro e w3 ⟨rfl, hb3⟩; have hA3 := (hb3.block (w.heap.size + 1) (by simp; omega)).trans ((heap_past b1').trans hA2); have hR3 := (hb3.block w.heap.size (by simp; omega)).trans ((heap_past (by omega)).trans hR2); have hT3 := (hb3.block w2.heap.size (by simp)).trans (heap_at rfl); obtain ⟨d0, d1, f0, f1, b3⟩ := two_is hA3; obtain ⟨t0, t1, y0, y1, b3'⟩ := two_is hT3)
            | (go_at_call 48; (with_reducible refine (refAdd_any _ _ _).mono ?_); rintro e w4 ⟨rfl, hb4⟩; have hA4 := (hb4.block (w.heap.size + 1) (by simp; omega)).trans ((heap_set_other (by omega)).trans ((heap_set_other (by omega)).trans hA3)); have hR4 := (hb4.block w.heap.size (by simp; omega)).trans ((heap_set_other (by omega)).trans ((heap_set_other (by omega)).trans hR3)); obtain ⟨x0, x1, z0, z1, b4⟩ := two_is hA4))
          go_roundw
          case rel => exact ⟨k + 1, hlt, by go_num, by rw [HX.out]; exact two_set hA4, by rw [heap_set_other (by simp), heap_set_other (by simp)]; exact hR4, by (repeat' (first | (with_reducible exact Below.refl _ _) | (with_reducible assumption) | (with_reducible refine Below.new ?_ _) | (with_reducible refine Below.alloc ?_ ?_ _) | (with_reducible refine Below.drew ?_) | (with_reducible refine Below.setCell ?_ ?_ _) | (refine Below.step ?_ (by assumption)) | go_size))⟩
          case measure => simp [intOf]; omega
    · obtain rfl : k = 64 := by omega
      obtain ⟨r0, r1, q0, q1, b3⟩ := two_is hR
      go_wp2
      ((show bodyPost _ _ _ _ _ _); refine bodyPost_ret (by simp only [results, Try.results41]; go_simp; try rfl) rfl ?_)
      exact ⟨rfl, by (repeat' (first | (with_reducible exact Below.refl _ _) | (with_reducible assumption) | (with_reducible refine Below.new ?_ _) | (with_reducible refine Below.alloc ?_ ?_ _) | (with_reducible refine Below.drew ?_) | (with_reducible refine Below.setCell ?_ ?_ _) | (refine Below.step ?_ (by assumption)) | go_size))⟩
end Go.Proofs.Ytekmcomddaoljaa
