/- Wide numbers: blocks of two cells; 'To' and 'Compare' of either. -/
import Derived.Test.YtekmcomddaoljaaWideB
namespace Go.RowKit
theorem two_is {w : World} {b : Nat} {x y : Value} {t : TypeId} (h : w.heap[b]? = some (.cells #[x, y] t (0, 0))) : w.cell? ⟨b, 0, none⟩ = some x ∧ w.cell? ⟨b, 1, none⟩ = some y ∧ w.frozen? ⟨b, 0, none⟩ = false ∧ w.frozen? ⟨b, 1, none⟩ = false ∧ b < w.heap.size := by
  refine ⟨by simp [World.cell?, h], by simp [World.cell?, h], by simp [World.frozen?, h], by simp [World.frozen?, h], lt_of_block h⟩
theorem two_set0 {w : World} {b : Nat} {x y u : Value} {t : TypeId} (h : w.heap[b]? = some (.cells #[x, y] t (0, 0))) : (w.setCell ⟨b, 0, none⟩ u).heap[b]? = some (.cells #[u, y] t (0, 0)) := by
  have hlt := lt_of_block h
  have h' : w.heap[b] = .cells #[x, y] t (0, 0) := by simpa [Array.getElem?_eq_getElem hlt] using h
  show (w.heap.modify b _)[b]? = _
  rw [Array.getElem?_eq_getElem (by simpa using hlt), Array.getElem_modify_self, h']
  rfl
theorem two_set1 {w : World} {b : Nat} {x y u : Value} {t : TypeId} (h : w.heap[b]? = some (.cells #[x, y] t (0, 0))) : (w.setCell ⟨b, 1, none⟩ u).heap[b]? = some (.cells #[x, u] t (0, 0)) := by
  have hlt := lt_of_block h
  have h' : w.heap[b] = .cells #[x, y] t (0, 0) := by simpa [Array.getElem?_eq_getElem hlt] using h
  show (w.heap.modify b _)[b]? = _
  rw [Array.getElem?_eq_getElem (by simpa using hlt), Array.getElem_modify_self, h']
  rfl
theorem two_set {w : World} {b : Nat} {x y u v : Value} {t : TypeId} (h : w.heap[b]? = some (.cells #[x, y] t (0, 0))) : ((w.setCell ⟨b, 0, none⟩ u).setCell ⟨b, 1, none⟩ v).heap[b]? = some (.cells #[u, v] t (0, 0)) := two_set1 (two_set0 h)
end Go.RowKit
namespace Go.Proofs.Ytekmcomddaoljaa
set_option linter.unusedVariables false
set_option linter.unusedSimpArgs false
open Go.ChangeShapes Go.WideShapes Go.ChangeAt Go.RowKit

/-- Whether a wide number is one of 64 bits; that one, else 0. -/
def fitsW (n : Int) : Bool := decide (hiW n = wrap64 (loW n) / 9223372036854775808)
def toV (n : Int) : Int := if fitsW n = true then wrap64 (loW n) else 0
def toE (n : Int) : Int := if fitsW n = true then 0 else 10

theorem hiW_low {b : Int} (hb : 0 ≤ b ∧ b ≤ 18446744073709551615) : hiW (wrap64 b) = wrap64 b / 9223372036854775808 ∧ loW (wrap64 b) = b := by unfold hiW loW wrap64; omega

theorem to_core (a b T p : Int) (hw : IntKind.i64.wrap b = T) (hb : 0 ≤ b ∧ b ≤ 18446744073709551615) (hr : -9223372036854775808 ≤ T ∧ T ≤ 9223372036854775807) (h1 : hiW T = p) (h2 : loW T = b) (w : World) :
    Calls Try.prog 46 #[.agg #[.int .i64 a, .int .u64 b]] w fun e w' => e = .returned (if a = p then .tuple #[.int .i64 T, .int .i64 0] else .tuple #[.int .i64 0, .int .i64 10]) ∧ Below w.heap.size w w' := by
  have hO : ∀ w, Calls Try.prog 39 #[.int .i64 T] w fun e w' => e = .returned (.agg #[.int .i64 p, .int .u64 b]) ∧ Below w.heap.size w w' := fun w => by
    have h := of_any T hr w
    rw [h1, h2] at h
    exact h
  have HO := hid hO; clear hO h1 h2
  have s0 : (w.alloc (.cells #[.int .i64 a, .int .u64 b] 39)).cell? ⟨w.heap.size, 0, none⟩ = some (.int .i64 a) := by go_simp
  have s1 : (w.alloc (.cells #[.int .i64 a, .int .u64 b] 39)).cell? ⟨w.heap.size, 1, none⟩ = some (.int .u64 b) := by go_simp
  have p0 := World.plus_cell s0; have p1 := World.plus_cell s1
  clear s0 s1
  by_cases hp : a = p
  · subst hp
    rw [if_pos rfl]
    go_enter Try.func46, Try.ntmps46
    go_wp2
    refine wp_scope_fwd ?_
    go_wp2
    refine wp_region_plus (by kernel_rfl) (by kernel_rfl) ?_
    repeat (first | go_big_quiet_skip | (go_big_quiet_want; go_big_quiet_op; first | go_big_quiet_on | go_big_quiet_call (((go_at_call 39; exact Calls.plus_of (HO.out _))))))
    refine wpQuiet_nil ?_
    rintro _ ⟨xq, rfl⟩
    have kB := World.plus_below (w.alloc (.cells #[.int .i64 a, .int .u64 b] 39)) xq
    go_wp2
    (first | rw [jumpFwd_ret] | rw [Exit.noGoto_ret] | skip); ((show bodyPost _ _ _ _ _ _); refine bodyPost_ret (by simp only [results, Try.results46]; go_simp; try rfl) rfl ?_)
    exact ⟨rfl, by (repeat' (first | (with_reducible exact Below.refl _ _) | (with_reducible assumption) | (with_reducible refine Below.new ?_ _) | (with_reducible refine Below.alloc ?_ ?_ _) | (with_reducible refine Below.drew ?_) | (with_reducible refine Below.setCell ?_ ?_ _) | (refine Below.step ?_ (by assumption)) | go_size))⟩
  · rw [if_neg hp]
    have hq : (p == a) = false := by simpa using fun h => hp h.symm
    have hq2 : (p != a) = true := by simpa using fun h => hp h.symm
    have hq3 : decide (p = a) = false := by simpa using fun h => hp h.symm
    clear hp
    go_enter Try.func46, Try.ntmps46
    go_wp2
    refine wp_scope_fwd ?_
    go_wp2
    refine wp_region_plus (by kernel_rfl) (by kernel_rfl) ?_
    repeat (first | go_big_quiet_skip | (go_big_quiet_want; go_big_quiet_op; first | go_big_quiet_on | go_big_quiet_call (((go_at_call 39; exact Calls.plus_of (HO.out _))))))
    refine wpQuiet_nil ?_
    rintro _ ⟨xq, rfl⟩
    have kB := World.plus_below (w.alloc (.cells #[.int .i64 a, .int .u64 b] 39)) xq
    go_wp2
    (refine wp_goto ?_; go_step; refine jumpFwd_goto rfl ?_; go_wp2)
    (first | rw [jumpFwd_ret] | rw [Exit.noGoto_ret] | skip); ((show bodyPost _ _ _ _ _ _); refine bodyPost_ret (by simp only [results, Try.results46]; go_simp; try rfl) rfl ?_)
    exact ⟨rfl, by (repeat' (first | (with_reducible exact Below.refl _ _) | (with_reducible assumption) | (with_reducible refine Below.new ?_ _) | (with_reducible refine Below.alloc ?_ ?_ _) | (with_reducible refine Below.drew ?_) | (with_reducible refine Below.setCell ?_ ?_ _) | (refine Below.step ?_ (by assumption)) | go_size))⟩
theorem to_any (n : Int) (w : World) : Calls Try.prog 46 #[(Value.agg #[.int .i64 (hiW (n)), .int .u64 (loW (n))])] w fun e w' => e = .returned (.tuple #[.int .i64 (toV n), .int .i64 (toE n)]) ∧ Below w.heap.size w w' := by
  have hb := loW_is n
  have hr : -9223372036854775808 ≤ wrap64 (loW n) ∧ wrap64 (loW n) ≤ 9223372036854775807 := by unfold wrap64; omega
  obtain ⟨e1, e2⟩ := hiW_low hb
  have h := to_core (hiW n) (loW n) (wrap64 (loW n)) (wrap64 (loW n) / 9223372036854775808) (by rw [IntKind.wrap_i64, wrap64]) hb hr e1 e2 w
  refine h.mono ?_
  rintro e w' ⟨rfl, hb⟩
  refine ⟨?_, hb⟩
  by_cases hf : hiW n = wrap64 (loW n) / 9223372036854775808
  · simp [toV, toE, fitsW, hf]
  · simp [toV, toE, fitsW, hf]

theorem refTo_core (a b T p : Int) (hw : IntKind.i64.wrap b = T) (hb : 0 ≤ b ∧ b ≤ 18446744073709551615) (hr : -9223372036854775808 ≤ T ∧ T ≤ 9223372036854775807) (h1 : hiW T = p) (h2 : loW T = b) (w : World) :
    Calls Try.prog 47 #[.agg #[.int .i64 a, .int .u64 b]] w fun e w' => e = .returned (if a = p then .tuple #[.int .i64 T, .int .i64 0] else .tuple #[.int .i64 0, .int .i64 10]) ∧ Below w.heap.size w w' := by
  have hO : ∀ w, Calls Try.prog 44 #[.int .i64 T] w fun e w' => e = .returned (.agg #[.int .i64 p, .int .u64 b]) ∧ Below w.heap.size w w' := fun w => by
    have h := refOf_any T hr w
    rw [h1, h2] at h
    exact h
  have HO := hid hO; clear hO h1 h2
  have s0 : (w.alloc (.cells #[.int .i64 a, .int .u64 b] 39)).cell? ⟨w.heap.size, 0, none⟩ = some (.int .i64 a) := by go_simp
  have s1 : (w.alloc (.cells #[.int .i64 a, .int .u64 b] 39)).cell? ⟨w.heap.size, 1, none⟩ = some (.int .u64 b) := by go_simp
  have p0 := World.plus_cell s0; have p1 := World.plus_cell s1
  clear s0 s1
  by_cases hp : a = p
  · subst hp
    rw [if_pos rfl]
    go_enter Try.func47, Try.ntmps47
    go_wp2
    refine wp_region_plus (by kernel_rfl) (by kernel_rfl) ?_
    repeat (first | go_big_quiet_skip | (go_big_quiet_want; go_big_quiet_op; first | go_big_quiet_on | go_big_quiet_call (((go_at_call 44; exact Calls.plus_of (HO.out _))))))
    refine wpQuiet_nil ?_
    rintro _ ⟨xq, rfl⟩
    have kB := World.plus_below (w.alloc (.cells #[.int .i64 a, .int .u64 b] 39)) xq
    go_wp2
    go_ret2
    exact ⟨rfl, by (repeat' (first | (with_reducible exact Below.refl _ _) | (with_reducible assumption) | (with_reducible refine Below.new ?_ _) | (with_reducible refine Below.alloc ?_ ?_ _) | (with_reducible refine Below.drew ?_) | (with_reducible refine Below.setCell ?_ ?_ _) | (refine Below.step ?_ (by assumption)) | go_size))⟩
  · rw [if_neg hp]
    have hq : (p == a) = false := by simpa using fun h => hp h.symm
    have hq2 : (p != a) = true := by simpa using fun h => hp h.symm
    have hq3 : decide (p = a) = false := by simpa using fun h => hp h.symm
    clear hp
    go_enter Try.func47, Try.ntmps47
    go_wp2
    refine wp_region_plus (by kernel_rfl) (by kernel_rfl) ?_
    repeat (first | go_big_quiet_skip | (go_big_quiet_want; go_big_quiet_op; first | go_big_quiet_on | go_big_quiet_call (((go_at_call 44; exact Calls.plus_of (HO.out _))))))
    refine wpQuiet_nil ?_
    rintro _ ⟨xq, rfl⟩
    have kB := World.plus_below (w.alloc (.cells #[.int .i64 a, .int .u64 b] 39)) xq
    go_wp2
    go_ret2
    exact ⟨rfl, by (repeat' (first | (with_reducible exact Below.refl _ _) | (with_reducible assumption) | (with_reducible refine Below.new ?_ _) | (with_reducible refine Below.alloc ?_ ?_ _) | (with_reducible refine Below.drew ?_) | (with_reducible refine Below.setCell ?_ ?_ _) | (refine Below.step ?_ (by assumption)) | go_size))⟩
theorem refTo_any (n : Int) (w : World) : Calls Try.prog 47 #[(Value.agg #[.int .i64 (hiW (n)), .int .u64 (loW (n))])] w fun e w' => e = .returned (.tuple #[.int .i64 (toV n), .int .i64 (toE n)]) ∧ Below w.heap.size w w' := by
  have hb := loW_is n
  have hr : -9223372036854775808 ≤ wrap64 (loW n) ∧ wrap64 (loW n) ≤ 9223372036854775807 := by unfold wrap64; omega
  obtain ⟨e1, e2⟩ := hiW_low hb
  have h := refTo_core (hiW n) (loW n) (wrap64 (loW n)) (wrap64 (loW n) / 9223372036854775808) (by rw [IntKind.wrap_i64, wrap64]) hb hr e1 e2 w
  refine h.mono ?_
  rintro e w' ⟨rfl, hb⟩
  refine ⟨?_, hb⟩
  by_cases hf : hiW n = wrap64 (loW n) / 9223372036854775808
  · simp [toV, toE, fitsW, hf]
  · simp [toV, toE, fitsW, hf]

/-- -1, 0, 1. -/
def sgnI (a b : Int) : Int := if a < b then -1 else if a > b then 1 else 0
theorem sgn_lt {a b : Int} (h : a < b) : sgnI a b = -1 := by simp [sgnI, h]
theorem sgn_gt {a b : Int} (h : b < a) : sgnI a b = 1 := by unfold sgnI; rw [if_neg (by omega), if_pos h]
theorem sgn_eq {a b : Int} (h : a = b) : sgnI a b = 0 := by subst h; simp [sgnI]

theorem nan_i (a : Int) (w : World) : Calls Try.prog 69 #[.int .i64 a] w fun e w' => e = .returned (.bool false) ∧ w = w' := by
  go_enter Try.func69, Try.ntmps69
  go_wp2
  go_ret
  exact ⟨ret_bool (by simp), rfl⟩
theorem nan_u (a : Int) (w : World) : Calls Try.prog 70 #[.int .u64 a] w fun e w' => e = .returned (.bool false) ∧ w = w' := by
  go_enter Try.func70, Try.ntmps70
  go_wp2
  go_ret
  exact ⟨ret_bool (by simp), rfl⟩
theorem cmp_i (a b : Int) (w : World) : Calls Try.prog 62 #[.int .i64 a, .int .i64 b] w fun e w' => e = .returned (.int .i64 (sgnI a b)) ∧ w = w' := by
  rcases Int.lt_trichotomy a b with h | h | h
  · rw [sgn_lt h]
    go_enter Try.func62, Try.ntmps62
    go_wp2_with (go_at_call 69; (with_reducible refine (nan_i _ _).mono ?_); rintro e w1 ⟨rfl, rfl⟩)
    go_ret
    exact ⟨rfl, rfl⟩
  · rw [sgn_eq h]
    subst h
    go_enter Try.func62, Try.ntmps62
    go_wp2_with (go_at_call 69; (with_reducible refine (nan_i _ _).mono ?_); rintro e w1 ⟨rfl, rfl⟩)
    go_ret
    exact ⟨rfl, rfl⟩
  · rw [sgn_gt h]
    go_enter Try.func62, Try.ntmps62
    go_wp2_with (go_at_call 69; (with_reducible refine (nan_i _ _).mono ?_); rintro e w1 ⟨rfl, rfl⟩)
    go_ret
    exact ⟨rfl, rfl⟩
theorem cmp_u (a b : Int) (w : World) : Calls Try.prog 63 #[.int .u64 a, .int .u64 b] w fun e w' => e = .returned (.int .i64 (sgnI a b)) ∧ w = w' := by
  rcases Int.lt_trichotomy a b with h | h | h
  · rw [sgn_lt h]
    go_enter Try.func63, Try.ntmps63
    go_wp2_with (go_at_call 70; (with_reducible refine (nan_u _ _).mono ?_); rintro e w1 ⟨rfl, rfl⟩)
    go_ret
    exact ⟨rfl, rfl⟩
  · rw [sgn_eq h]
    subst h
    go_enter Try.func63, Try.ntmps63
    go_wp2_with (go_at_call 70; (with_reducible refine (nan_u _ _).mono ?_); rintro e w1 ⟨rfl, rfl⟩)
    go_ret
    exact ⟨rfl, rfl⟩
  · rw [sgn_gt h]
    go_enter Try.func63, Try.ntmps63
    go_wp2_with (go_at_call 70; (with_reducible refine (nan_u _ _).mono ?_); rintro e w1 ⟨rfl, rfl⟩)
    go_ret
    exact ⟨rfl, rfl⟩
theorem or_two (p q : Int) (b cap : Nat) (w : World) (h0 : w.cell? ⟨b, 0, none⟩ = some (.int .i64 p)) (h1 : w.cell? ⟨b, 1, none⟩ = some (.int .i64 q)) :
    Calls Try.prog 61 #[.slice (some ⟨b, 0, none⟩) 2 cap] w fun e w' => e = .returned (.int .i64 (if p = 0 then q else p)) ∧ w = w' := by
  by_cases hp : p = 0
  · rw [if_pos hp]
    subst hp
    by_cases hq : q = 0
    · subst hq
      go_enter Try.func61, Try.ntmps61
      go_wp2
      refine wp_loop_rounds 3 ?_
      rw [rounds_succ]
      go_wp2
      rw [rounds_succ]
      go_wp2
      rw [rounds_succ]
      go_wp2
      go_ret
      exact ⟨rfl, rfl⟩
    · have hn : (q != 0) = true := by simpa using hq
      have hn2 : (q == 0) = false := by simpa using hq
      clear hq
      go_enter Try.func61, Try.ntmps61
      go_wp2
      refine wp_loop_rounds 3 ?_
      rw [rounds_succ]
      go_wp2
      rw [rounds_succ]
      go_wp2
      go_ret
      exact ⟨rfl, rfl⟩
  · rw [if_neg hp]
    have hn : (p != 0) = true := by simpa using hp
    have hn2 : (p == 0) = false := by simpa using hp
    clear hp
    go_enter Try.func61, Try.ntmps61
    go_wp2
    refine wp_loop_rounds 3 ?_
    rw [rounds_succ]
    go_wp2
    go_ret
    exact ⟨rfl, rfl⟩
end Go.Proofs.Ytekmcomddaoljaa
