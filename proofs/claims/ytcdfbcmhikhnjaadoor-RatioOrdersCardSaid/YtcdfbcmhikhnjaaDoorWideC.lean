/- Wide numbers: blocks of two cells; 'To' and 'Compare' of either. -/
import Derived.Test.YtcdfbcmhikhnjaaDoorWideB
namespace Go.RowKit
theorem two_is {w : World} {b : Nat} {x y : Value} {t : TypeId} (h : w.heap[b]? = some (.cells #[x, y] t (0, 0))) : w.cell? ⟨b, 0, none⟩ = some x ∧ w.cell? ⟨b, 1, none⟩ = some y ∧ w.frozen? ⟨b, 0, none⟩ = false ∧ w.frozen? ⟨b, 1, none⟩ = false ∧ b < w.heap.size := by
  refine ⟨by simp [World.cell?, h], by simp [World.cell?, h], by simp [World.frozen?, h], by simp [World.frozen?, h], lt_of_block h⟩
theorem two_set0 {w : World} {b : Nat} {x y u : Value} {t : TypeId} (h : w.heap[b]? = some (.cells #[x, y] t (0, 0))) : (w.setCell ⟨b, 0, none⟩ u).heap[b]? = some (.cells #[u, y] t (0, 0)) := by
  have hlt := lt_of_block h
  have h' : w.heap[b] = .cells #[x, y] t (0, 0) := by simpa [Array.getElem?_eq_getElem hlt] using h
  show (w.heap.modify b _)[b]? = _
  rw [Array.getElem?_eq_getElem (by simpa using hlt), Array.getElem_modify_self, h']
  rfl
theorem two_set1 {w : World} {b : Nat} {x y u : Value} {t : TypeId} (h : w.heap[b]? = some (.cells #[x, y] t (0, 0))) : (w.setCell ⟨b, 1, none⟩ u).heap[b]? = some (.cells #[x, u] t (0, 0)) := by
  have hlt := lt_of_block h
  have h' : w.heap[b] = .cells #[x, y] t (0, 0) := by simpa [Array.getElem?_eq_getElem hlt] using h
  show (w.heap.modify b _)[b]? = _
  rw [Array.getElem?_eq_getElem (by simpa using hlt), Array.getElem_modify_self, h']
  rfl
theorem two_set {w : World} {b : Nat} {x y u v : Value} {t : TypeId} (h : w.heap[b]? = some (.cells #[x, y] t (0, 0))) : ((w.setCell ⟨b, 0, none⟩ u).setCell ⟨b, 1, none⟩ v).heap[b]? = some (.cells #[u, v] t (0, 0)) := two_set1 (two_set0 h)
end Go.RowKit
namespace Go.Proofs.YtcdfbcmhikhnjaaDoor
set_option linter.unusedVariables false
set_option linter.unusedSimpArgs false
open Go.ChangeShapes Go.WideShapes Go.ChangeAt Go.RowKit

/-- Whether a wide number is one of 64 bits; that one, else 0. -/
def fitsW (n : Int) : Bool := decide (hiW n = wrap64 (loW n) / 9223372036854775808)
def toV (n : Int) : Int := if fitsW n = true then wrap64 (loW n) else 0
def toE (n : Int) : Int := if fitsW n = true then 0 else 10

theorem hiW_low {b : Int} (hb : 0 ≤ b ∧ b ≤ 18446744073709551615) : hiW (wrap64 b) = wrap64 b / 9223372036854775808 ∧ loW (wrap64 b) = b := by unfold hiW loW wrap64; omega

/-- -1, 0, 1. -/
def sgnI (a b : Int) : Int := if a < b then -1 else if a > b then 1 else 0
theorem sgn_lt {a b : Int} (h : a < b) : sgnI a b = -1 := by simp [sgnI, h]
theorem sgn_gt {a b : Int} (h : b < a) : sgnI a b = 1 := by unfold sgnI; rw [if_neg (by omega), if_pos h]
theorem sgn_eq {a b : Int} (h : a = b) : sgnI a b = 0 := by subst h; simp [sgnI]

theorem nan_i (a : Int) (w : World) : Calls Tryd.prog 83 #[.int .i64 a] w fun e w' => e = .returned (.bool false) ∧ w = w' := by
  go_enter Tryd.func83, Tryd.ntmps83
  go_wp2
  go_ret
  exact ⟨ret_bool (by simp), rfl⟩
theorem nan_u (a : Int) (w : World) : Calls Tryd.prog 84 #[.int .u64 a] w fun e w' => e = .returned (.bool false) ∧ w = w' := by
  go_enter Tryd.func84, Tryd.ntmps84
  go_wp2
  go_ret
  exact ⟨ret_bool (by simp), rfl⟩
theorem cmp_i (a b : Int) (w : World) : Calls Tryd.prog 66 #[.int .i64 a, .int .i64 b] w fun e w' => e = .returned (.int .i64 (sgnI a b)) ∧ w = w' := by
  rcases Int.lt_trichotomy a b with h | h | h
  · rw [sgn_lt h]
    go_enter Tryd.func66, Tryd.ntmps66
    go_wp2_with (go_at_call 83; (with_reducible refine (nan_i _ _).mono ?_); rintro e w1 ⟨rfl, rfl⟩)
    go_ret
    exact ⟨rfl, rfl⟩
  · rw [sgn_eq h]
    subst h
    go_enter Tryd.func66, Tryd.ntmps66
    go_wp2_with (go_at_call 83; (with_reducible refine (nan_i _ _).mono ?_); rintro e w1 ⟨rfl, rfl⟩)
    go_ret
    exact ⟨rfl, rfl⟩
  · rw [sgn_gt h]
    go_enter Tryd.func66, Tryd.ntmps66
    go_wp2_with (go_at_call 83; (with_reducible refine (nan_i _ _).mono ?_); rintro e w1 ⟨rfl, rfl⟩)
    go_ret
    exact ⟨rfl, rfl⟩
theorem cmp_u (a b : Int) (w : World) : Calls Tryd.prog 67 #[.int .u64 a, .int .u64 b] w fun e w' => e = .returned (.int .i64 (sgnI a b)) ∧ w = w' := by
  rcases Int.lt_trichotomy a b with h | h | h
  · rw [sgn_lt h]
    go_enter Tryd.func67, Tryd.ntmps67
    go_wp2_with (go_at_call 84; (with_reducible refine (nan_u _ _).mono ?_); rintro e w1 ⟨rfl, rfl⟩)
    go_ret
    exact ⟨rfl, rfl⟩
  · rw [sgn_eq h]
    subst h
    go_enter Tryd.func67, Tryd.ntmps67
    go_wp2_with (go_at_call 84; (with_reducible refine (nan_u _ _).mono ?_); rintro e w1 ⟨rfl, rfl⟩)
    go_ret
    exact ⟨rfl, rfl⟩
  · rw [sgn_gt h]
    go_enter Tryd.func67, Tryd.ntmps67
    go_wp2_with (go_at_call 84; (with_reducible refine (nan_u _ _).mono ?_); rintro e w1 ⟨rfl, rfl⟩)
    go_ret
    exact ⟨rfl, rfl⟩
theorem or_two (p q : Int) (b cap : Nat) (w : World) (h0 : w.cell? ⟨b, 0, none⟩ = some (.int .i64 p)) (h1 : w.cell? ⟨b, 1, none⟩ = some (.int .i64 q)) :
    Calls Tryd.prog 31 #[.slice (some ⟨b, 0, none⟩) 2 cap] w fun e w' => e = .returned (.int .i64 (if p = 0 then q else p)) ∧ w = w' := by
  by_cases hp : p = 0
  · rw [if_pos hp]
    subst hp
    by_cases hq : q = 0
    · subst hq
      go_enter Tryd.func31, Tryd.ntmps31
      go_wp2
      refine wp_loop_rounds 3 ?_
      rw [rounds_succ]
      go_wp2
      rw [rounds_succ]
      go_wp2
      rw [rounds_succ]
      go_wp2
      go_ret
      exact ⟨rfl, rfl⟩
    · have hn : (q != 0) = true := by simpa using hq
      have hn2 : (q == 0) = false := by simpa using hq
      clear hq
      go_enter Tryd.func31, Tryd.ntmps31
      go_wp2
      refine wp_loop_rounds 3 ?_
      rw [rounds_succ]
      go_wp2
      rw [rounds_succ]
      go_wp2
      go_ret
      exact ⟨rfl, rfl⟩
  · rw [if_neg hp]
    have hn : (p != 0) = true := by simpa using hp
    have hn2 : (p == 0) = false := by simpa using hp
    clear hp
    go_enter Tryd.func31, Tryd.ntmps31
    go_wp2
    refine wp_loop_rounds 3 ?_
    rw [rounds_succ]
    go_wp2
    go_ret
    exact ⟨rfl, rfl⟩
end Go.Proofs.YtcdfbcmhikhnjaaDoor
