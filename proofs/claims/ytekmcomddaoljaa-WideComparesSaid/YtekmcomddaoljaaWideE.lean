/- Wide numbers: the program's 'Shift'. -/
import Derived.Test.YtekmcomddaoljaaWideD
namespace Go.Proofs.Ytekmcomddaoljaa
set_option linter.unusedVariables false
set_option linter.unusedSimpArgs false
open Go.ChangeShapes Go.WideShapes Go.ChangeAt Go.RowKit

theorem shift_low (a b : Int) (N : Nat) (hN : N < 64) (w : World) :
    Calls Try.prog 42 #[.agg #[.int .i64 a, .int .u64 b], .int .i64 (N : Int)] w fun e w' => e = .returned (.agg #[.int .i64 (bits .or .i64 (wrap64 (a * 2 ^ N)) (wrap64 (b / 2 ^ (64 - N)))), .int .u64 (IntKind.u64.wrap (b * 2 ^ N))]) ∧ Below w.heap.size w w' := by
  go_enter Try.func42, Try.ntmps42
  go_wp2
  have s0 : ((w.alloc (.cells #[.int .i64 a, .int .u64 b] 39)).alloc (.cells #[.int .i64 0, .int .u64 0] 39)).cell? ⟨w.heap.size, 0, none⟩ = some (.int .i64 a) := by go_simp
  have s1 : ((w.alloc (.cells #[.int .i64 a, .int .u64 b] 39)).alloc (.cells #[.int .i64 0, .int .u64 0] 39)).cell? ⟨w.heap.size, 1, none⟩ = some (.int .u64 b) := by go_simp
  have s2 : ((w.alloc (.cells #[.int .i64 a, .int .u64 b] 39)).alloc (.cells #[.int .i64 0, .int .u64 0] 39)).heap[w.heap.size + 1]? = some (.cells #[.int .i64 0, .int .u64 0] 39 (0, 0)) := by (simp (disch := first | omega | (simp only [World.size_alloc, World.size_setCell, World.size_drew]; done) | (simp only [World.size_alloc, World.size_setCell, World.size_drew]; omega)) only [heap_at, heap_past, heap_set_other, heap_set_same])
  have p0 := World.plus_cell s0; have p1 := World.plus_cell s1
  clear s0 s1
  refine wp_region_plus_tail (16) (by kernel_rfl) (by kernel_rfl) ?_
  simp only [List.take_succ_cons, List.take_zero, List.drop_succ_cons, List.drop_zero]
  repeat (first | go_big_quiet_skip | (go_big_quiet_want; go_big_quiet_op; first | go_big_quiet_on | go_big_quiet_call (((fail)))))
  refine wpQuiet_nil ?_
  rintro _ ⟨xq, rfl⟩
  have kB := World.plus_below ((w.alloc (.cells #[.int .i64 a, .int .u64 b] 39)).alloc (.cells #[.int .i64 0, .int .u64 0] 39)) xq
  obtain ⟨r0, r1, q0, q1, b3⟩ := two_is ((kB.block _ (by simp)).trans s2)
  clear s2
  go_wp2
  ((show bodyPost _ _ _ _ _ _); refine bodyPost_ret (by simp only [results, Try.results42]; go_simp; try rfl) rfl ?_)
  exact ⟨rfl, by (repeat' (first | (with_reducible exact Below.refl _ _) | (with_reducible assumption) | (with_reducible refine Below.new ?_ _) | (with_reducible refine Below.alloc ?_ ?_ _) | (with_reducible refine Below.drew ?_) | (with_reducible refine Below.setCell ?_ ?_ _) | (refine Below.step ?_ (by assumption)) | go_size))⟩
theorem shift_high (a b : Int) (N : Nat) (hN : 64 ≤ N) (hN2 : N ≤ 127) (w : World) :
    Calls Try.prog 42 #[.agg #[.int .i64 a, .int .u64 b], .int .i64 (N : Int)] w fun e w' => e = .returned (.agg #[.int .i64 (wrap64 (IntKind.u64.wrap (b * 2 ^ (N - 64)))), .int .u64 0]) ∧ Below w.heap.size w w' := by
  go_enter Try.func42, Try.ntmps42
  go_wp2
  ((show bodyPost _ _ _ _ _ _); refine bodyPost_ret (by simp only [results, Try.results42]; go_simp; try rfl) rfl ?_)
  exact ⟨rfl, by (repeat' (first | (with_reducible exact Below.refl _ _) | (with_reducible assumption) | (with_reducible refine Below.new ?_ _) | (with_reducible refine Below.alloc ?_ ?_ _) | (with_reducible refine Below.drew ?_) | (with_reducible refine Below.setCell ?_ ?_ _) | (refine Below.step ?_ (by assumption)) | go_size))⟩
theorem shift_out (a b s : Int) (h : ¬ (0 ≤ s ∧ s ≤ 127)) (w : World) :
    Calls Try.prog 42 #[.agg #[.int .i64 a, .int .u64 b], .int .i64 s] w fun e w' => e = .returned (.agg #[.int .i64 0, .int .u64 0]) ∧ Below w.heap.size w w' := by
  by_cases hq : s < 0
  · clear h
    go_enter Try.func42, Try.ntmps42
    go_wp2
    ((show bodyPost _ _ _ _ _ _); refine bodyPost_ret (by simp only [results, Try.results42]; go_simp; try rfl) rfl ?_)
    exact ⟨rfl, by (repeat' (first | (with_reducible exact Below.refl _ _) | (with_reducible assumption) | (with_reducible refine Below.new ?_ _) | (with_reducible refine Below.alloc ?_ ?_ _) | (with_reducible refine Below.drew ?_) | (with_reducible refine Below.setCell ?_ ?_ _) | (refine Below.step ?_ (by assumption)) | go_size))⟩
  · have hq' : 0 ≤ s := by omega
    have hq2 : 127 < s := by omega
    clear h hq
    go_enter Try.func42, Try.ntmps42
    go_wp2
    ((show bodyPost _ _ _ _ _ _); refine bodyPost_ret (by simp only [results, Try.results42]; go_simp; try rfl) rfl ?_)
    exact ⟨rfl, by (repeat' (first | (with_reducible exact Below.refl _ _) | (with_reducible assumption) | (with_reducible refine Below.new ?_ _) | (with_reducible refine Below.alloc ?_ ?_ _) | (with_reducible refine Below.drew ?_) | (with_reducible refine Below.setCell ?_ ?_ _) | (refine Below.step ?_ (by assumption)) | go_size))⟩

theorem bits_or_i64 (x y : Int) : bits .or .i64 x y = IntKind.i64.wrap (((BitVec.ofInt 64 x).toNat ||| (BitVec.ofInt 64 y).toNat : Nat) : Int) := by
  show IntKind.i64.wrap ((BitVec.ofInt 64 x ||| BitVec.ofInt 64 y).toNat : Int) = _
  rw [BitVec.toNat_or]
theorem ofInt_nat (x : Int) (X : Nat) (h : x % 18446744073709551616 = (X : Int)) : (BitVec.ofInt 64 x).toNat = X := by
  rw [BitVec.toNat_ofInt]
  have e : ((2 ^ 64 : Nat) : Int) = 18446744073709551616 := by simp
  rw [e, h, Int.toNat_natCast]

theorem wrap_mod (x : Int) : wrap64 x % 18446744073709551616 = x % 18446744073709551616 := by unfold wrap64; omega
theorem wrap_mod_add (x y : Int) : x % 18446744073709551616 + y + 9223372036854775808 = x % 18446744073709551616 + y + 9223372036854775808 ∧ wrap64 (x % 18446744073709551616 + y) = wrap64 (x + y) := by refine ⟨rfl, ?_⟩; unfold wrap64; omega

theorem or_words (a y : Int) (N : Nat) (hN : N < 64) (h0 : 0 ≤ y) (h1 : y < 2 ^ N) : bits .or .i64 (wrap64 (a * 2 ^ N)) (wrap64 y) = wrap64 (a * 2 ^ N + y) := by
  have hP : (0 : Int) < 2 ^ N := Int.pow_pos (by decide)
  have hPQ : (2 : Int) ^ (64 - N) * 2 ^ N = 18446744073709551616 := by
    rw [← Int.pow_add, Nat.sub_add_cancel (by omega)]; simp
  have hle : (2 : Int) ^ N ≤ 18446744073709551616 := by
    rw [← hPQ]
    have h2 : (0 : Int) < 2 ^ (64 - N) := Int.pow_pos (by decide)
    have h3 : (1 : Int) ≤ 2 ^ (64 - N) := h2
    have := Int.mul_le_mul_of_nonneg_right h3 (Int.le_of_lt hP)
    omega
  have hx : a * 2 ^ N % 18446744073709551616 = a % 2 ^ (64 - N) * 2 ^ N := by
    rw [← hPQ, Int.mul_comm a, Int.mul_comm (2 ^ (64 - N)) (2 ^ N), Int.mul_emod_mul_of_pos _ _ hP, Int.mul_comm]
  have hc : 0 ≤ a % 2 ^ (64 - N) := Int.emod_nonneg _ (by have : (0 : Int) < 2 ^ (64 - N) := Int.pow_pos (by decide); omega)
  obtain ⟨c, hc'⟩ := Int.eq_ofNat_of_zero_le hc
  obtain ⟨Y, rfl⟩ := Int.eq_ofNat_of_zero_le h0
  have hY : Y < 2 ^ N := by
    have : ((2 ^ N : Nat) : Int) = 2 ^ N := by simp
    omega
  have e1 : (BitVec.ofInt 64 (wrap64 (a * 2 ^ N))).toNat = 2 ^ N * c := by
    refine ofInt_nat _ _ ?_
    rw [wrap_mod, hx, hc', Int.natCast_mul, Int.mul_comm]
    simp
  have e2 : (BitVec.ofInt 64 (wrap64 (Y : Int))).toNat = Y := by
    refine ofInt_nat _ _ ?_
    rw [wrap_mod]
    exact Int.emod_eq_of_lt h0 (Int.lt_of_lt_of_le h1 hle)
  rw [bits_or_i64, e1, e2, ← Nat.two_pow_add_eq_or_of_lt hY, IntKind.wrap_i64, ← (wrap_mod_add _ _).2, hx, hc']
  have e3 : ((2 ^ N * c + Y : Nat) : Int) = (c : Int) * 2 ^ N + Y := by
    rw [Int.natCast_add, Int.natCast_mul, Int.mul_comm]; simp
  rw [e3, wrap64]

theorem shift_any (n s : Int) (w : World) : Calls Try.prog 42 #[(Value.agg #[.int .i64 (hiW (n)), .int .u64 (loW (n))]), .int .i64 s] w fun e w' => e = .returned ((Value.agg #[.int .i64 (hiW (shiftV n s)), .int .u64 (loW (shiftV n s))])) ∧ Below w.heap.size w w' := by
  have ha := hiW_is n; have hb := loW_is n; have hn := words n
  by_cases hs : 0 ≤ s ∧ s ≤ 127
  · obtain ⟨N, rfl⟩ := Int.eq_ofNat_of_zero_le hs.1
    have hv : shiftV n (N : Int) = n * 2 ^ N := by rw [shiftV, if_pos hs]; simp
    rw [hv]
    have hD : ∃ k, n = hiW n * 18446744073709551616 + loW n + k * 340282366920938463463374607431768211456 := ⟨(n - (hiW n * 18446744073709551616 + loW n)) / 340282366920938463463374607431768211456, by omega⟩
    obtain ⟨k, hk⟩ := hD
    have hW : (Value.agg #[.int .i64 (hiW (n * 2 ^ N)), .int .u64 (loW (n * 2 ^ N))]) = (Value.agg #[.int .i64 (hiW (hiW n * 2 ^ N * 18446744073709551616 + loW n * 2 ^ N)), .int .u64 (loW (hiW n * 2 ^ N * 18446744073709551616 + loW n * 2 ^ N))]) := by
      refine wv_eq ?_
      have : n * 2 ^ N = hiW n * 2 ^ N * 18446744073709551616 + loW n * 2 ^ N + k * 2 ^ N * 340282366920938463463374607431768211456 := by
        rw [Int.mul_right_comm (hiW n) (2 ^ N), Int.mul_right_comm k (2 ^ N), ← Int.add_mul, ← Int.add_mul, ← hk]
      omega
    rw [hW]
    clear hW hk hv
    by_cases hN : N < 64
    · refine (shift_low _ _ N hN w).mono ?_
      rintro e w' ⟨rfl, hB⟩
      refine ⟨ret_wide ?_ ?_, hB⟩
      · have hP : (0 : Int) < 2 ^ N := Int.pow_pos (by decide)
        have hR : (0 : Int) < 2 ^ (64 - N) := Int.pow_pos (by decide)
        have hPQ : (2 : Int) ^ (64 - N) * 2 ^ N = 18446744073709551616 := by
          rw [← Int.pow_add, Nat.sub_add_cancel (by omega)]; simp
        have hd : loW n * 2 ^ N / 18446744073709551616 = loW n / 2 ^ (64 - N) := by
          rw [← hPQ, Int.mul_ediv_mul_of_pos_left _ _ hP]
        have hy0 : 0 ≤ loW n / 2 ^ (64 - N) := Int.ediv_nonneg hb.1 (Int.le_of_lt hR)
        have hy1 : loW n / 2 ^ (64 - N) < 2 ^ N := Int.ediv_lt_of_lt_mul hR (by rw [Int.mul_comm, hPQ]; omega)
        rw [or_words _ _ N hN hy0 hy1, ← hd]
        unfold wrap64
        simp only [hiW.eq_1 (hiW n * 2 ^ N * 18446744073709551616 + loW n * 2 ^ N)]
        omega
      · rw [IntKind.wrap_u64]
        simp only [loW.eq_1 (hiW n * 2 ^ N * 18446744073709551616 + loW n * 2 ^ N)]
        omega
    · refine (shift_high _ _ N (by omega) (by omega) w).mono ?_
      rintro e w' ⟨rfl, hB⟩
      obtain ⟨M, rfl⟩ : ∃ M, N = M + 64 := ⟨N - 64, by omega⟩
      have e1 : ∀ x : Int, x * 2 ^ (M + 64) = x * 2 ^ M * 18446744073709551616 := fun x => by rw [Int.pow_add, ← Int.mul_assoc]; rfl
      refine ⟨ret_wide ?_ ?_, hB⟩
      · rw [Nat.add_sub_cancel, e1, e1, IntKind.wrap_u64]
        unfold wrap64
        simp only [hiW.eq_1 (hiW n * 2 ^ M * 18446744073709551616 * 18446744073709551616 + loW n * 2 ^ M * 18446744073709551616)]
        omega
      · rw [e1, e1]
        simp only [loW.eq_1 (hiW n * 2 ^ M * 18446744073709551616 * 18446744073709551616 + loW n * 2 ^ M * 18446744073709551616)]
        omega
  · have hv : shiftV n s = 0 := by rw [shiftV, if_neg hs]
    have h0 : hiW 0 = 0 := by decide
    have h1 : loW 0 = 0 := by decide
    rw [hv, h0, h1]
    exact shift_out _ _ s hs w
end Go.Proofs.Ytekmcomddaoljaa
