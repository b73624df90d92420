/- Wide numbers: 'Compare' and 'Shift' of either. -/
import Derived.Test.YtekmcomddaoljaaWideC
namespace Go.Proofs.Ytekmcomddaoljaa
set_option linter.unusedVariables false
set_option linter.unusedSimpArgs false
open Go.ChangeShapes Go.WideShapes Go.ChangeAt Go.RowKit

def cmpW (a b c d : Int) : Int := if a = c then sgnI b d else sgnI a c
theorem sgn_zero {a b : Int} : sgnI a b = 0 ↔ a = b := by unfold sgnI; split; · omega
                                                          split <;> omega
theorem cmp_words (a b c d : Int) (w : World) :
    Calls Try.prog 45 #[.agg #[.int .i64 a, .int .u64 b], .agg #[.int .i64 c, .int .u64 d]] w fun e w' => e = .returned (.int .i64 (cmpW a b c d)) ∧ Below w.heap.size w w' := by
  have hz : (if sgnI a c = 0 then sgnI b d else sgnI a c) = cmpW a b c d := by simp only [sgn_zero, cmpW]
  rw [← hz]
  clear hz
  obtain ⟨p, hp⟩ : ∃ p, sgnI a c = p := ⟨_, rfl⟩
  obtain ⟨q, hq⟩ : ∃ q, sgnI b d = q := ⟨_, rfl⟩
  rw [hp, hq]
  have c1 := hid (fun w => cmp_i a c w); have c2 := hid (fun w => cmp_u b d w)
  rw [hp] at c1; rw [hq] at c2
  clear hp hq
  go_enter Try.func45, Try.ntmps45
  go_wp2
  have s0 : ((w.alloc (.cells #[.int .i64 a, .int .u64 b] 39)).alloc (.cells #[.int .i64 c, .int .u64 d] 39)).cell? ⟨w.heap.size, 0, none⟩ = some (.int .i64 a) := by go_simp
  have s1 : ((w.alloc (.cells #[.int .i64 a, .int .u64 b] 39)).alloc (.cells #[.int .i64 c, .int .u64 d] 39)).cell? ⟨w.heap.size, 1, none⟩ = some (.int .u64 b) := by go_simp
  have s2 : ((w.alloc (.cells #[.int .i64 a, .int .u64 b] 39)).alloc (.cells #[.int .i64 c, .int .u64 d] 39)).cell? ⟨w.heap.size + 1, 0, none⟩ = some (.int .i64 c) := by go_simp
  have s3 : ((w.alloc (.cells #[.int .i64 a, .int .u64 b] 39)).alloc (.cells #[.int .i64 c, .int .u64 d] 39)).cell? ⟨w.heap.size + 1, 1, none⟩ = some (.int .u64 d) := by go_simp
  have p0 := World.plus_cell s0; have p1 := World.plus_cell s1; have p2 := World.plus_cell s2; have p3 := World.plus_cell s3
  clear s0 s1 s2 s3
  refine wp_region_plus_tail (10) (by kernel_rfl) (by kernel_rfl) ?_
  simp only [List.take_succ_cons, List.take_zero, List.drop_succ_cons, List.drop_zero]
  repeat (first | go_big_quiet_skip | (go_big_quiet_want; go_big_quiet_op; first | go_big_quiet_on | go_big_quiet_call (((first | (go_at_call 62; exact Calls.plus_of_same (c1.out _)) | (go_at_call 63; exact Calls.plus_of_same (c2.out _)))))))
  refine wpQuiet_nil ?_
  rintro _ ⟨xq, rfl⟩
  have kB := World.plus_below ((w.alloc (.cells #[.int .i64 a, .int .u64 b] 39)).alloc (.cells #[.int .i64 c, .int .u64 d] 39)) xq
  go_wp2_with (go_at_call 61; refine (or_two p q _ _ _ (by go_simp) (by go_simp)).mono ?_; rintro e w1 ⟨rfl, rfl⟩)
  all_goals
    go_ret
    exact ⟨rfl, by (repeat' (first | (with_reducible exact Below.refl _ _) | (with_reducible assumption) | (with_reducible refine Below.new ?_ _) | (with_reducible refine Below.alloc ?_ ?_ _) | (with_reducible refine Below.drew ?_) | (with_reducible refine Below.setCell ?_ ?_ _) | (refine Below.step ?_ (by assumption)) | go_size))⟩
theorem refCmp_words (a b c d : Int) (w : World) :
    Calls Try.prog 51 #[.agg #[.int .i64 a, .int .u64 b], .agg #[.int .i64 c, .int .u64 d]] w fun e w' => e = .returned (.int .i64 (cmpW a b c d)) ∧ Below w.heap.size w w' := by
  rcases Int.lt_trichotomy a c with h | h | h
  · have hv : cmpW a b c d = -1 := by rw [cmpW, if_neg (by omega), sgn_lt h]
    have hne : (a == c) = false := by simp; omega
    rw [hv]
    clear hv
    go_enter Try.func51, Try.ntmps51
    go_wp2
    go_ret
    exact ⟨rfl, by (repeat' (first | (with_reducible exact Below.refl _ _) | (with_reducible assumption) | (with_reducible refine Below.new ?_ _) | (with_reducible refine Below.alloc ?_ ?_ _) | (with_reducible refine Below.drew ?_) | (with_reducible refine Below.setCell ?_ ?_ _) | (refine Below.step ?_ (by assumption)) | go_size))⟩
  · subst h
    rcases Int.lt_trichotomy b d with h | h | h
    · have hv : cmpW a b a d = -1 := by rw [cmpW, if_pos rfl, sgn_lt h]
      have hne : (b == d) = false := by simp; omega
      rw [hv]
      clear hv
      go_enter Try.func51, Try.ntmps51
      go_wp2
      go_ret
      exact ⟨rfl, by (repeat' (first | (with_reducible exact Below.refl _ _) | (with_reducible assumption) | (with_reducible refine Below.new ?_ _) | (with_reducible refine Below.alloc ?_ ?_ _) | (with_reducible refine Below.drew ?_) | (with_reducible refine Below.setCell ?_ ?_ _) | (refine Below.step ?_ (by assumption)) | go_size))⟩
    · have hv : cmpW a b a d = 0 := by rw [cmpW, if_pos rfl, sgn_eq h]
      rw [hv]
      subst h
      clear hv
      go_enter Try.func51, Try.ntmps51
      go_wp2
      go_ret
      exact ⟨rfl, by (repeat' (first | (with_reducible exact Below.refl _ _) | (with_reducible assumption) | (with_reducible refine Below.new ?_ _) | (with_reducible refine Below.alloc ?_ ?_ _) | (with_reducible refine Below.drew ?_) | (with_reducible refine Below.setCell ?_ ?_ _) | (refine Below.step ?_ (by assumption)) | go_size))⟩
    · have hv : cmpW a b a d = 1 := by rw [cmpW, if_pos rfl, sgn_gt h]
      have hne : (b == d) = false := by simp; omega
      have hle : d ≤ b := by omega
      rw [hv]
      clear hv
      go_enter Try.func51, Try.ntmps51
      go_wp2
      go_ret
      exact ⟨rfl, by (repeat' (first | (with_reducible exact Below.refl _ _) | (with_reducible assumption) | (with_reducible refine Below.new ?_ _) | (with_reducible refine Below.alloc ?_ ?_ _) | (with_reducible refine Below.drew ?_) | (with_reducible refine Below.setCell ?_ ?_ _) | (refine Below.step ?_ (by assumption)) | go_size))⟩
  · have hv : cmpW a b c d = 1 := by rw [cmpW, if_neg (by omega), sgn_gt h]
    have hne : (a == c) = false := by simp; omega
    have hle : c ≤ a := by omega
    rw [hv]
    clear hv
    go_enter Try.func51, Try.ntmps51
    go_wp2
    go_ret
    exact ⟨rfl, by (repeat' (first | (with_reducible exact Below.refl _ _) | (with_reducible assumption) | (with_reducible refine Below.new ?_ _) | (with_reducible refine Below.alloc ?_ ?_ _) | (with_reducible refine Below.drew ?_) | (with_reducible refine Below.setCell ?_ ?_ _) | (refine Below.step ?_ (by assumption)) | go_size))⟩

/-- A shift's number. -/
def shiftV (n s : Int) : Int := if 0 ≤ s ∧ s ≤ 127 then n * 2 ^ s.toNat else 0

theorem refShift_any (n s : Int) (w : World) : Calls Try.prog 43 #[(Value.agg #[.int .i64 (hiW (n)), .int .u64 (loW (n))]), .int .i64 s] w fun e w' => e = .returned ((Value.agg #[.int .i64 (hiW (shiftV n s)), .int .u64 (loW (shiftV n s))])) ∧ Below w.heap.size w w' := by
  by_cases hs : 0 ≤ s ∧ s ≤ 127
  · obtain ⟨N, rfl⟩ := Int.eq_ofNat_of_zero_le hs.1
    have hv : shiftV n (N : Int) = n * 2 ^ N := by rw [shiftV, if_pos hs]; simp
    rw [hv]
    have hN : N ≤ 127 := by omega
    clear hs hv
    go_enter Try.func43, Try.ntmps43
    go_wp2
    go_loopw [5] (fun i wr => ∃ k : Nat, k ≤ N ∧ i = .int .i64 k ∧ wr.heap[w.heap.size]? = some (.cells #[.int .i64 (hiW (n * 2 ^ k)), .int .u64 (loW (n * 2 ^ k))] 39 (0, 0)) ∧ wr.heap[w.heap.size + 1]? = some (.cells #[.int .i64 0, .int .u64 0] 39 (0, 0)) ∧ Below w.heap.size w wr) (fun i _ => N - (intOf i).toNat)
    case atStart => exact ⟨0, Nat.zero_le _, rfl, by simp only [Int.pow_zero, Int.mul_one]; (simp (disch := first | omega | (simp only [World.size_alloc, World.size_setCell, World.size_drew]; done) | (simp only [World.size_alloc, World.size_setCell, World.size_drew]; omega)) only [heap_at, heap_past, heap_set_other, heap_set_same]), by (simp (disch := first | omega | (simp only [World.size_alloc, World.size_setCell, World.size_drew]; done) | (simp only [World.size_alloc, World.size_setCell, World.size_drew]; omega)) only [heap_at, heap_past, heap_set_other, heap_set_same]), by (repeat' (first | (with_reducible exact Below.refl _ _) | (with_reducible assumption) | (with_reducible refine Below.new ?_ _) | (with_reducible refine Below.alloc ?_ ?_ _) | (with_reducible refine Below.drew ?_) | (with_reducible refine Below.setCell ?_ ?_ _) | (refine Below.step ?_ (by assumption)) | go_size))⟩
    case round =>
      obtain ⟨k, hk, rfl, hA, hR, hbel⟩ := hrel
      obtain ⟨c0, c1, g0, g1, b1⟩ := two_is hA
      by_cases hlt : k < N
      · go_wp2_with (go_at_call 48; (with_reducible refine (refAdd_any _ _ _).mono ?_); rintro e w2 ⟨rfl, hb2⟩; have hA2 := (hb2.block _ b1).trans hA; obtain ⟨d0, d1, f0, f1, b2⟩ := two_is hA2)
        have hR2 := (hb2.block _ (lt_of_block hR)).trans hR
        have hp : n * 2 ^ k + n * 2 ^ k = n * 2 ^ (k + 1) := by rw [Int.pow_succ, ← Int.mul_assoc]; omega
        go_roundw
        case rel => exact ⟨k + 1, hlt, by go_num, by rw [← hp]; exact two_set hA2, by rw [heap_set_other (by simp), heap_set_other (by simp)]; exact hR2, by (repeat' (first | (with_reducible exact Below.refl _ _) | (with_reducible assumption) | (with_reducible refine Below.new ?_ _) | (with_reducible refine Below.alloc ?_ ?_ _) | (with_reducible refine Below.drew ?_) | (with_reducible refine Below.setCell ?_ ?_ _) | (refine Below.step ?_ (by assumption)) | go_size))⟩
        case measure => simp [intOf]; omega
      · obtain rfl : k = N := by omega
        obtain ⟨r0, r1, q0, q1, b3⟩ := two_is hR
        go_wp2
        ((show bodyPost _ _ _ _ _ _); refine bodyPost_ret (by simp only [results, Try.results43]; go_simp; try rfl) rfl ?_)
        exact ⟨rfl, by (repeat' (first | (with_reducible exact Below.refl _ _) | (with_reducible assumption) | (with_reducible refine Below.new ?_ _) | (with_reducible refine Below.alloc ?_ ?_ _) | (with_reducible refine Below.drew ?_) | (with_reducible refine Below.setCell ?_ ?_ _) | (refine Below.step ?_ (by assumption)) | go_size))⟩
  · have hv : shiftV n s = 0 := by rw [shiftV, if_neg hs]
    have h0 : hiW 0 = 0 := by decide
    have h1 : loW 0 = 0 := by decide
    rw [hv, h0, h1]
    by_cases hq : s < 0
    · clear hs hv h0 h1
      go_enter Try.func43, Try.ntmps43
      go_wp2
      ((show bodyPost _ _ _ _ _ _); refine bodyPost_ret (by simp only [results, Try.results43]; go_simp; try rfl) rfl ?_)
      exact ⟨rfl, by (repeat' (first | (with_reducible exact Below.refl _ _) | (with_reducible assumption) | (with_reducible refine Below.new ?_ _) | (with_reducible refine Below.alloc ?_ ?_ _) | (with_reducible refine Below.drew ?_) | (with_reducible refine Below.setCell ?_ ?_ _) | (refine Below.step ?_ (by assumption)) | go_size))⟩
    · have hq' : 0 ≤ s := by omega
      have hq2 : 127 < s := by omega
      clear hs hv h0 h1 hq
      go_enter Try.func43, Try.ntmps43
      go_wp2
      ((show bodyPost _ _ _ _ _ _); refine bodyPost_ret (by simp only [results, Try.results43]; go_simp; try rfl) rfl ?_)
      exact ⟨rfl, by (repeat' (first | (with_reducible exact Below.refl _ _) | (with_reducible assumption) | (with_reducible refine Below.new ?_ _) | (with_reducible refine Below.alloc ?_ ?_ _) | (with_reducible refine Below.drew ?_) | (with_reducible refine Below.setCell ?_ ?_ _) | (refine Below.step ?_ (by assumption)) | go_size))⟩
end Go.Proofs.Ytekmcomddaoljaa
