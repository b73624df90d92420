/- Texts joined: WideA, WideB, WideC, WideD, WideE, WideF, WideG, WideH. -/
import Derived.Test.YtdgeinipdphoeaaGa
import Derived.Laws.Externs
import Derived.BigQuiet
import Derived.Lib.Mul64
import Derived.Laws.Bits64b
/- Wide numbers: their words, and what package wide's small functions give. -/
namespace Go.Proofs.Ytdgeinipdphoeaa
set_option linter.unusedVariables false
set_option linter.unusedSimpArgs false
open Go.ChangeShapes Go.WideShapes Go.ChangeAt Go.RowKit

/-- The words of a whole number, of which what is beyond 128 bits is left out. -/
def loW (n : Int) : Int := n % 18446744073709551616
def hiW (n : Int) : Int := (n / 18446744073709551616 + 9223372036854775808) % 18446744073709551616 - 9223372036854775808
theorem loW_is (n : Int) : 0 ≤ loW n ∧ loW n ≤ 18446744073709551615 := by unfold loW; omega
theorem hiW_is (n : Int) : -9223372036854775808 ≤ hiW n ∧ hiW n ≤ 9223372036854775807 := by unfold hiW; omega
theorem wv_words {a b : Int} (ha : -9223372036854775808 ≤ a ∧ a ≤ 9223372036854775807) (hb : 0 ≤ b ∧ b ≤ 18446744073709551615) : Value.agg #[.int .i64 a, .int .u64 b] = (Value.agg #[.int .i64 (hiW (a * 18446744073709551616 + b)), .int .u64 (loW (a * 18446744073709551616 + b))]) := by
  have h1 : hiW (a * 18446744073709551616 + b) = a := by unfold hiW; omega
  have h2 : loW (a * 18446744073709551616 + b) = b := by unfold loW; omega
  rw [h1, h2]
theorem wv_eq {n m : Int} (h : (n - m) % 340282366920938463463374607431768211456 = 0) : (Value.agg #[.int .i64 (hiW (n)), .int .u64 (loW (n))]) = (Value.agg #[.int .i64 (hiW (m)), .int .u64 (loW (m))]) := by
  have h1 : hiW n = hiW m := by unfold hiW; omega
  have h2 : loW n = loW m := by unfold loW; omega
  rw [h1, h2]

theorem add64 (x y c : Int) (hx : 0 ≤ x) (hy : 0 ≤ y) (hc0 : 0 ≤ c) (hc : c ≤ 1) (w : World) : (callFunc 109 #[.int .u64 x, .int .u64 y, .int .u64 c]).run Try.prog w =
    .ok (.value (.tuple #[.int .u64 ((x + y + c) % 18446744073709551616), .int .u64 ((x + y + c) / 18446744073709551616)])) w := by
  rw [run_callFunc_extern Try.func109 (by kernel_rfl) (by kernel_rfl) (by kernel_rfl) (e := add64Entry) (by kernel_rfl), run_add64 x y c hx hy hc0 hc]
  rfl
theorem add64_0 (x y : Int) (hx : 0 ≤ x) (hy : 0 ≤ y) (w : World) : (callFunc 109 #[.int .u64 x, .int .u64 y, .int .u64 0]).run Try.prog w =
    .ok (.value (.tuple #[.int .u64 ((x + y) % 18446744073709551616), .int .u64 ((x + y) / 18446744073709551616)])) w := by
  simpa using add64 x y 0 hx hy (Int.le_refl 0) (by decide) w

theorem wrap_pos (n : Int) : 0 ≤ IntKind.u64.wrap n := by rw [IntKind.wrap_u64]; omega
theorem wrap_lt (n : Int) : IntKind.u64.wrap n ≤ 18446744073709551615 := by rw [IntKind.wrap_u64]; omega
theorem ret_wide {a b n : Int} (h1 : a = hiW n) (h2 : b = loW n) : Ending.returned (.agg #[.int .i64 a, .int .u64 b]) = .returned ((Value.agg #[.int .i64 (hiW (n)), .int .u64 (loW (n))])) := by rw [h1, h2]

theorem of_any (n : Int) (hn : -9223372036854775808 ≤ n ∧ n ≤ 9223372036854775807) (w : World) :
    Calls Try.prog 55 #[.int .i64 n] w fun e w' => e = .returned ((Value.agg #[.int .i64 (hiW (n)), .int .u64 (loW (n))])) ∧ Below w.heap.size w w' := by
  go_enter Try.func55, Try.ntmps55
  go_wp2
  ((show bodyPost _ _ _ _ _ _); refine bodyPost_ret (by simp only [results, Try.results55]; go_simp; try rfl) rfl ?_)
  exact ⟨ret_wide (by unfold hiW; omega) (by rw [IntKind.wrap_u64]; rfl), by (repeat' (first | (with_reducible exact Below.refl _ _) | (with_reducible assumption) | (with_reducible refine Below.new ?_ _) | (with_reducible refine Below.alloc ?_ ?_ _) | (with_reducible refine Below.drew ?_) | (with_reducible refine Below.drewN ?_ _) | (with_reducible refine Below.setCell ?_ ?_ _) | (refine Below.step ?_ (by assumption)) | go_size))⟩

theorem add_words (a b c d : Int) (ha : -9223372036854775808 ≤ a ∧ a ≤ 9223372036854775807) (hb : 0 ≤ b ∧ b ≤ 18446744073709551615) (hc : -9223372036854775808 ≤ c ∧ c ≤ 9223372036854775807) (hd : 0 ≤ d ∧ d ≤ 18446744073709551615) (w : World) :
    Calls Try.prog 98 #[.agg #[.int .i64 a, .int .u64 b], .agg #[.int .i64 c, .int .u64 d]] w fun e w' => e = .returned ((Value.agg #[.int .i64 (hiW (a * 18446744073709551616 + b + (c * 18446744073709551616 + d))), .int .u64 (loW (a * 18446744073709551616 + b + (c * 18446744073709551616 + d)))])) ∧ Below w.heap.size w w' := by
  have k0 : 0 ≤ (b + d) / 18446744073709551616 := by omega
  have k1 : (b + d) / 18446744073709551616 ≤ 1 := by omega
  go_enter Try.func98, Try.ntmps98
  go_wp2_with (first | simp only [add64_0 b d hb.1 hd.1] | simp only [add64 (IntKind.u64.wrap a) (IntKind.u64.wrap c) _ (wrap_pos a) (wrap_pos c) k0 k1])
  ((show bodyPost _ _ _ _ _ _); refine bodyPost_ret (by simp only [results, Try.results98]; go_simp; try rfl) rfl ?_)
  exact ⟨ret_wide (by simp only [IntKind.wrap_u64, IntKind.wrap_i64, wrap64]; unfold hiW; omega) (by unfold loW; omega), by (repeat' (first | (with_reducible exact Below.refl _ _) | (with_reducible assumption) | (with_reducible refine Below.new ?_ _) | (with_reducible refine Below.alloc ?_ ?_ _) | (with_reducible refine Below.drew ?_) | (with_reducible refine Below.drewN ?_ _) | (with_reducible refine Below.setCell ?_ ?_ _) | (refine Below.step ?_ (by assumption)) | go_size))⟩
theorem words (n : Int) : (hiW n * 18446744073709551616 + loW n - n) % 340282366920938463463374607431768211456 = 0 := by unfold hiW loW; omega
theorem add_any (n m : Int) (w : World) : Calls Try.prog 98 #[(Value.agg #[.int .i64 (hiW (n)), .int .u64 (loW (n))]), (Value.agg #[.int .i64 (hiW (m)), .int .u64 (loW (m))])] w fun e w' => e = .returned ((Value.agg #[.int .i64 (hiW (n + m)), .int .u64 (loW (n + m))])) ∧ Below w.heap.size w w' := by
  have h := add_words (hiW n) (loW n) (hiW m) (loW m) (hiW_is n) (loW_is n) (hiW_is m) (loW_is m) w
  rw [wv_eq (n := hiW n * 18446744073709551616 + loW n + (hiW m * 18446744073709551616 + loW m)) (m := n + m) (by have := words n; have := words m; omega)] at h
  exact h

def bor (x y : Int) : Int := if x < y then 1 else 0
theorem bor_is (x y : Int) : 0 ≤ bor x y ∧ bor x y ≤ 1 := by unfold bor; split <;> decide
def subEntry : Array Value → Sem Value := fun args => do
  let (x, y, b) ← Extern.MathBitsCarry.three "Sub64" args
  pure (Extern.MathBitsCarry.pair ((x + Extern.MathBitsCarry.m64 - y - b) % Extern.MathBitsCarry.m64) (if x < y + b then 1 else 0))
theorem run_subEntry (x y b : Nat) (hb : b ≤ 1) (w : World) :
    (subEntry #[.int .u64 x, .int .u64 y, .int .u64 b]).run Try.prog w =
      .ok (.tuple #[.int .u64 (((x + 18446744073709551616 - y - b) % 18446744073709551616 : Nat) : Int), .int .u64 ((if x < y + b then 1 else 0 : Nat) : Int)]) w := by
  have : b = 0 ∨ b = 1 := by omega
  rcases this with rfl | rfl <;> rfl
end Go.Proofs.Ytdgeinipdphoeaa
/- Wide numbers: the verifier's reference, its small functions; 'To' of either. -/
namespace Go.Proofs.Ytdgeinipdphoeaa
set_option linter.unusedVariables false
set_option linter.unusedSimpArgs false
open Go.ChangeShapes Go.WideShapes Go.ChangeAt Go.RowKit

theorem refOf_any (n : Int) (hn : -9223372036854775808 ≤ n ∧ n ≤ 9223372036854775807) (w : World) :
    Calls Try.prog 63 #[.int .i64 n] w fun e w' => e = .returned ((Value.agg #[.int .i64 (hiW (n)), .int .u64 (loW (n))])) ∧ Below w.heap.size w w' := by
  by_cases h : n < 0
  · go_enter Try.func63, Try.ntmps63
    go_wp2
    ((show bodyPost _ _ _ _ _ _); refine bodyPost_ret (by simp only [results, Try.results63]; go_simp; try rfl) rfl ?_)
    exact ⟨ret_wide (by unfold hiW; omega) (by rw [IntKind.wrap_u64]; rfl), by (repeat' (first | (with_reducible exact Below.refl _ _) | (with_reducible assumption) | (with_reducible refine Below.new ?_ _) | (with_reducible refine Below.alloc ?_ ?_ _) | (with_reducible refine Below.drew ?_) | (with_reducible refine Below.drewN ?_ _) | (with_reducible refine Below.setCell ?_ ?_ _) | (refine Below.step ?_ (by assumption)) | go_size))⟩
  · have h' : 0 ≤ n := by omega
    clear h
    go_enter Try.func63, Try.ntmps63
    go_wp2
    ((show bodyPost _ _ _ _ _ _); refine bodyPost_ret (by simp only [results, Try.results63]; go_simp; try rfl) rfl ?_)
    exact ⟨ret_wide (by unfold hiW; omega) (by first | (rw [IntKind.wrap_u64]; rfl) | (unfold loW; omega)), by (repeat' (first | (with_reducible exact Below.refl _ _) | (with_reducible assumption) | (with_reducible refine Below.new ?_ _) | (with_reducible refine Below.alloc ?_ ?_ _) | (with_reducible refine Below.drew ?_) | (with_reducible refine Below.drewN ?_ _) | (with_reducible refine Below.setCell ?_ ?_ _) | (refine Below.step ?_ (by assumption)) | go_size))⟩

theorem ret_two {a b c d : Int} {k : IntKind} (h1 : a = b) (h2 : c = d) : Ending.returned (.tuple #[.int k a, .int k c]) = .returned (.tuple #[.int k b, .int k d]) := by rw [h1, h2]

theorem half_any (x y : Int) (hx : 0 ≤ x ∧ x ≤ 18446744073709551615) (hy : 0 ≤ y ∧ y ≤ 18446744073709551615) (w : World) :
    Calls Try.prog 120 #[.int .u64 x, .int .u64 y] w fun e w' => e = .returned (.tuple #[.int .u64 ((x + y) % 18446744073709551616), .int .u64 ((x + y) / 18446744073709551616)]) ∧ w = w' := by
  go_enter Try.func120, Try.ntmps120
  go_wp2
  go_ret2
  exact ⟨ret_two (by omega) (by omega), rfl⟩

theorem refAdd_words (a b c d : Int) (ha : -9223372036854775808 ≤ a ∧ a ≤ 9223372036854775807) (hb : 0 ≤ b ∧ b ≤ 18446744073709551615) (hc : -9223372036854775808 ≤ c ∧ c ≤ 9223372036854775807) (hd : 0 ≤ d ∧ d ≤ 18446744073709551615) (w : World) :
    Calls Try.prog 107 #[.agg #[.int .i64 a, .int .u64 b], .agg #[.int .i64 c, .int .u64 d]] w fun e w' => e = .returned ((Value.agg #[.int .i64 (hiW (a * 18446744073709551616 + b + (c * 18446744073709551616 + d))), .int .u64 (loW (a * 18446744073709551616 + b + (c * 18446744073709551616 + d)))])) ∧ Below w.heap.size w w' := by
  have wa := wrap_pos a; have wa' := wrap_lt a; have wc := wrap_pos c; have wc' := wrap_lt c
  go_enter Try.func107, Try.ntmps107
  go_wp2_with (go_at_call 120; refine (half_any _ _ (by omega) (by omega) _).mono ?_; rintro e w1 ⟨rfl, rfl⟩)
  ((show bodyPost _ _ _ _ _ _); refine bodyPost_ret (by simp only [results, Try.results107]; go_simp; try rfl) rfl ?_)
  exact ⟨ret_wide (by simp only [IntKind.wrap_u64, IntKind.wrap_i64, wrap64]; unfold hiW; omega) (by unfold loW; omega), by (repeat' (first | (with_reducible exact Below.refl _ _) | (with_reducible assumption) | (with_reducible refine Below.new ?_ _) | (with_reducible refine Below.alloc ?_ ?_ _) | (with_reducible refine Below.drew ?_) | (with_reducible refine Below.drewN ?_ _) | (with_reducible refine Below.setCell ?_ ?_ _) | (refine Below.step ?_ (by assumption)) | go_size))⟩
theorem refAdd_any (n m : Int) (w : World) : Calls Try.prog 107 #[(Value.agg #[.int .i64 (hiW (n)), .int .u64 (loW (n))]), (Value.agg #[.int .i64 (hiW (m)), .int .u64 (loW (m))])] w fun e w' => e = .returned ((Value.agg #[.int .i64 (hiW (n + m)), .int .u64 (loW (n + m))])) ∧ Below w.heap.size w w' := by
  have h := refAdd_words (hiW n) (loW n) (hiW m) (loW m) (hiW_is n) (loW_is n) (hiW_is m) (loW_is m) w
  rw [wv_eq (n := hiW n * 18446744073709551616 + loW n + (hiW m * 18446744073709551616 + loW m)) (m := n + m) (by have := words n; have := words m; omega)] at h
  exact h

theorem refNeg_words (a b : Int) (ha : -9223372036854775808 ≤ a ∧ a ≤ 9223372036854775807) (hb : 0 ≤ b ∧ b ≤ 18446744073709551615) (w : World) :
    Calls Try.prog 127 #[.agg #[.int .i64 a, .int .u64 b]] w fun e w' => e = .returned ((Value.agg #[.int .i64 (hiW (-(a * 18446744073709551616 + b))), .int .u64 (loW (-(a * 18446744073709551616 + b)))])) ∧ Below w.heap.size w w' := by
  have e1 : (Value.agg #[.int .i64 (-1 - a), .int .u64 (18446744073709551615 - b)]) = (Value.agg #[.int .i64 (hiW ((-1 - a) * 18446744073709551616 + (18446744073709551615 - b))), .int .u64 (loW ((-1 - a) * 18446744073709551616 + (18446744073709551615 - b)))]) := wv_words (by omega) (by omega)
  have e2 : (Value.agg #[.int .i64 (hiW ((-1 - a) * 18446744073709551616 + (18446744073709551615 - b) + 1)), .int .u64 (loW ((-1 - a) * 18446744073709551616 + (18446744073709551615 - b) + 1))]) = (Value.agg #[.int .i64 (hiW (-(a * 18446744073709551616 + b))), .int .u64 (loW (-(a * 18446744073709551616 + b)))]) := wv_eq (by omega)
  rw [← e2]
  clear e2
  go_enter Try.func127, Try.ntmps127
  go_wp2
  have s0 : ((w.alloc (.cells #[.int .i64 a, .int .u64 b] 58)).alloc (.cells #[.int .i64 0, .int .u64 0] 58)).cell? ⟨w.heap.size, 0, none⟩ = some (.int .i64 a) := by go_simp
  have s1 : ((w.alloc (.cells #[.int .i64 a, .int .u64 b] 58)).alloc (.cells #[.int .i64 0, .int .u64 0] 58)).cell? ⟨w.heap.size, 1, none⟩ = some (.int .u64 b) := by go_simp
  have s2 : ((w.alloc (.cells #[.int .i64 a, .int .u64 b] 58)).alloc (.cells #[.int .i64 0, .int .u64 0] 58)).cell? ⟨w.heap.size + 1, 0, none⟩ = some (.int .i64 0) := by go_simp
  have s3 : ((w.alloc (.cells #[.int .i64 a, .int .u64 b] 58)).alloc (.cells #[.int .i64 0, .int .u64 0] 58)).cell? ⟨w.heap.size + 1, 1, none⟩ = some (.int .u64 0) := by go_simp
  have p0 := World.plus_cell s0; have p1 := World.plus_cell s1; have p2 := World.plus_cell s2; have p3 := World.plus_cell s3
  clear s0 s1 s2 s3
  refine wp_region_plus_tail (8) (by kernel_rfl) (by kernel_rfl) ?_
  simp only [List.take_succ_cons, List.take_zero, List.drop_succ_cons, List.drop_zero]
  repeat (first | go_big_quiet_skip | (go_big_quiet_want; go_big_quiet_op; first | go_big_quiet_on | go_big_quiet_call (((go_at_call 63; exact Calls.plus_of (refOf_any 1 (by omega) _))))))
  refine wpQuiet_nil ?_
  rintro _ ⟨xq, rfl⟩
  have kB := World.plus_below ((w.alloc (.cells #[.int .i64 a, .int .u64 b] 58)).alloc (.cells #[.int .i64 0, .int .u64 0] 58)) xq
  obtain ⟨hcq, hfq, hkq, hzq⟩ := bcell3 kB
  simp only [World.size_alloc] at hzq
  go_wp2_with (go_at_call 107; (try rw [e1]); (with_reducible refine (refAdd_any _ _ _).mono ?_); rintro e w2 ⟨rfl, hb2⟩; obtain ⟨hc2, hf2, hk2, hz2⟩ := bcell3 hb2; (try simp only [World.size_alloc, World.size_drew] at hz2); have : w.heap.size < w2.heap.size := (by omega); have : w.heap.size + 1 < w2.heap.size := (by omega); have r2 := cell_step (p2 xq) hb2; have r3 := cell_step (p3 xq) hb2)
  ((show bodyPost _ _ _ _ _ _); refine bodyPost_ret (by simp only [results, Try.results127]; go_simp; try rfl) rfl ?_)
  exact ⟨rfl, by (repeat' (first | (with_reducible exact Below.refl _ _) | (with_reducible assumption) | (with_reducible refine Below.new ?_ _) | (with_reducible refine Below.alloc ?_ ?_ _) | (with_reducible refine Below.drew ?_) | (with_reducible refine Below.drewN ?_ _) | (with_reducible refine Below.setCell ?_ ?_ _) | (refine Below.step ?_ (by assumption)) | go_size))⟩
end Go.Proofs.Ytdgeinipdphoeaa
/- Wide numbers: blocks of two cells; 'To' and 'Compare' of either. -/
namespace Go.RowKit
theorem two_is {w : World} {b : Nat} {x y : Value} {t : TypeId} (h : w.heap[b]? = some (.cells #[x, y] t (0, 0))) : w.cell? ⟨b, 0, none⟩ = some x ∧ w.cell? ⟨b, 1, none⟩ = some y ∧ w.frozen? ⟨b, 0, none⟩ = false ∧ w.frozen? ⟨b, 1, none⟩ = false ∧ b < w.heap.size := by
  refine ⟨by simp [World.cell?, h], by simp [World.cell?, h], by simp [World.frozen?, h], by simp [World.frozen?, h], lt_of_block h⟩
theorem two_set0 {w : World} {b : Nat} {x y u : Value} {t : TypeId} (h : w.heap[b]? = some (.cells #[x, y] t (0, 0))) : (w.setCell ⟨b, 0, none⟩ u).heap[b]? = some (.cells #[u, y] t (0, 0)) := by
  have hlt := lt_of_block h
  have h' : w.heap[b] = .cells #[x, y] t (0, 0) := by simpa [Array.getElem?_eq_getElem hlt] using h
  show (w.heap.modify b _)[b]? = _
  rw [Array.getElem?_eq_getElem (by simpa using hlt), Array.getElem_modify_self, h']
  rfl
theorem two_set1 {w : World} {b : Nat} {x y u : Value} {t : TypeId} (h : w.heap[b]? = some (.cells #[x, y] t (0, 0))) : (w.setCell ⟨b, 1, none⟩ u).heap[b]? = some (.cells #[x, u] t (0, 0)) := by
  have hlt := lt_of_block h
  have h' : w.heap[b] = .cells #[x, y] t (0, 0) := by simpa [Array.getElem?_eq_getElem hlt] using h
  show (w.heap.modify b _)[b]? = _
  rw [Array.getElem?_eq_getElem (by simpa using hlt), Array.getElem_modify_self, h']
  rfl
theorem two_set {w : World} {b : Nat} {x y u v : Value} {t : TypeId} (h : w.heap[b]? = some (.cells #[x, y] t (0, 0))) : ((w.setCell ⟨b, 0, none⟩ u).setCell ⟨b, 1, none⟩ v).heap[b]? = some (.cells #[u, v] t (0, 0)) := two_set1 (two_set0 h)
end Go.RowKit
namespace Go.Proofs.Ytdgeinipdphoeaa
set_option linter.unusedVariables false
set_option linter.unusedSimpArgs false
open Go.ChangeShapes Go.WideShapes Go.ChangeAt Go.RowKit

/-- Whether a wide number is one of 64 bits; that one, else 0. -/
def fitsW (n : Int) : Bool := decide (hiW n = wrap64 (loW n) / 9223372036854775808)
def toV (n : Int) : Int := if fitsW n = true then wrap64 (loW n) else 0
def toE (n : Int) : Int := if fitsW n = true then 0 else 10

theorem hiW_low {b : Int} (hb : 0 ≤ b ∧ b ≤ 18446744073709551615) : hiW (wrap64 b) = wrap64 b / 9223372036854775808 ∧ loW (wrap64 b) = b := by unfold hiW loW wrap64; omega

/-- -1, 0, 1. -/
def sgnI (a b : Int) : Int := if a < b then -1 else if a > b then 1 else 0
theorem sgn_lt {a b : Int} (h : a < b) : sgnI a b = -1 := by simp [sgnI, h]
theorem sgn_gt {a b : Int} (h : b < a) : sgnI a b = 1 := by unfold sgnI; rw [if_neg (by omega), if_pos h]
theorem sgn_eq {a b : Int} (h : a = b) : sgnI a b = 0 := by subst h; simp [sgnI]

theorem nan_i (a : Int) (w : World) : Calls Try.prog 130 #[.int .i64 a] w fun e w' => e = .returned (.bool false) ∧ w = w' := by
  go_enter Try.func130, Try.ntmps130
  go_wp2
  go_ret
  exact ⟨ret_bool (by simp), rfl⟩
theorem nan_u (a : Int) (w : World) : Calls Try.prog 131 #[.int .u64 a] w fun e w' => e = .returned (.bool false) ∧ w = w' := by
  go_enter Try.func131, Try.ntmps131
  go_wp2
  go_ret
  exact ⟨ret_bool (by simp), rfl⟩
theorem cmp_i (a b : Int) (w : World) : Calls Try.prog 123 #[.int .i64 a, .int .i64 b] w fun e w' => e = .returned (.int .i64 (sgnI a b)) ∧ w = w' := by
  rcases Int.lt_trichotomy a b with h | h | h
  · rw [sgn_lt h]
    go_enter Try.func123, Try.ntmps123
    go_wp2_with (go_at_call 130; (with_reducible refine (nan_i _ _).mono ?_); rintro e w1 ⟨rfl, rfl⟩)
    go_ret
    exact ⟨rfl, rfl⟩
  · rw [sgn_eq h]
    subst h
    go_enter Try.func123, Try.ntmps123
    go_wp2_with (go_at_call 130; (with_reducible refine (nan_i _ _).mono ?_); rintro e w1 ⟨rfl, rfl⟩)
    go_ret
    exact ⟨rfl, rfl⟩
  · rw [sgn_gt h]
    go_enter Try.func123, Try.ntmps123
    go_wp2_with (go_at_call 130; (with_reducible refine (nan_i _ _).mono ?_); rintro e w1 ⟨rfl, rfl⟩)
    go_ret
    exact ⟨rfl, rfl⟩
theorem cmp_u (a b : Int) (w : World) : Calls Try.prog 124 #[.int .u64 a, .int .u64 b] w fun e w' => e = .returned (.int .i64 (sgnI a b)) ∧ w = w' := by
  rcases Int.lt_trichotomy a b with h | h | h
  · rw [sgn_lt h]
    go_enter Try.func124, Try.ntmps124
    go_wp2_with (go_at_call 131; (with_reducible refine (nan_u _ _).mono ?_); rintro e w1 ⟨rfl, rfl⟩)
    go_ret
    exact ⟨rfl, rfl⟩
  · rw [sgn_eq h]
    subst h
    go_enter Try.func124, Try.ntmps124
    go_wp2_with (go_at_call 131; (with_reducible refine (nan_u _ _).mono ?_); rintro e w1 ⟨rfl, rfl⟩)
    go_ret
    exact ⟨rfl, rfl⟩
  · rw [sgn_gt h]
    go_enter Try.func124, Try.ntmps124
    go_wp2_with (go_at_call 131; (with_reducible refine (nan_u _ _).mono ?_); rintro e w1 ⟨rfl, rfl⟩)
    go_ret
    exact ⟨rfl, rfl⟩
theorem or_two (p q : Int) (b cap : Nat) (w : World) (h0 : w.cell? ⟨b, 0, none⟩ = some (.int .i64 p)) (h1 : w.cell? ⟨b, 1, none⟩ = some (.int .i64 q)) :
    Calls Try.prog 122 #[.slice (some ⟨b, 0, none⟩) 2 cap] w fun e w' => e = .returned (.int .i64 (if p = 0 then q else p)) ∧ w = w' := by
  by_cases hp : p = 0
  · rw [if_pos hp]
    subst hp
    by_cases hq : q = 0
    · subst hq
      go_enter Try.func122, Try.ntmps122
      go_wp2
      refine wp_loop_rounds 3 ?_
      rw [rounds_succ]
      go_wp2
      rw [rounds_succ]
      go_wp2
      rw [rounds_succ]
      go_wp2
      go_ret
      exact ⟨rfl, rfl⟩
    · have hn : (q != 0) = true := by simpa using hq
      have hn2 : (q == 0) = false := by simpa using hq
      clear hq
      go_enter Try.func122, Try.ntmps122
      go_wp2
      refine wp_loop_rounds 3 ?_
      rw [rounds_succ]
      go_wp2
      rw [rounds_succ]
      go_wp2
      go_ret
      exact ⟨rfl, rfl⟩
  · rw [if_neg hp]
    have hn : (p != 0) = true := by simpa using hp
    have hn2 : (p == 0) = false := by simpa using hp
    clear hp
    go_enter Try.func122, Try.ntmps122
    go_wp2
    refine wp_loop_rounds 3 ?_
    rw [rounds_succ]
    go_wp2
    go_ret
    exact ⟨rfl, rfl⟩
end Go.Proofs.Ytdgeinipdphoeaa
/- Wide numbers: 'Compare' and 'Shift' of either. -/
namespace Go.Proofs.Ytdgeinipdphoeaa
set_option linter.unusedVariables false
set_option linter.unusedSimpArgs false
open Go.ChangeShapes Go.WideShapes Go.ChangeAt Go.RowKit

def cmpW (a b c d : Int) : Int := if a = c then sgnI b d else sgnI a c
theorem sgn_zero {a b : Int} : sgnI a b = 0 ↔ a = b := by unfold sgnI; split; · omega
                                                          split <;> omega
theorem cmp_words (a b c d : Int) (w : World) :
    Calls Try.prog 111 #[.agg #[.int .i64 a, .int .u64 b], .agg #[.int .i64 c, .int .u64 d]] w fun e w' => e = .returned (.int .i64 (cmpW a b c d)) ∧ Below w.heap.size w w' := by
  have hz : (if sgnI a c = 0 then sgnI b d else sgnI a c) = cmpW a b c d := by simp only [sgn_zero, cmpW]
  rw [← hz]
  clear hz
  obtain ⟨p, hp⟩ : ∃ p, sgnI a c = p := ⟨_, rfl⟩
  obtain ⟨q, hq⟩ : ∃ q, sgnI b d = q := ⟨_, rfl⟩
  rw [hp, hq]
  have c1 := hid (fun w => cmp_i a c w); have c2 := hid (fun w => cmp_u b d w)
  rw [hp] at c1; rw [hq] at c2
  clear hp hq
  go_enter Try.func111, Try.ntmps111
  go_wp2
  have s0 : ((w.alloc (.cells #[.int .i64 a, .int .u64 b] 58)).alloc (.cells #[.int .i64 c, .int .u64 d] 58)).cell? ⟨w.heap.size, 0, none⟩ = some (.int .i64 a) := by go_simp
  have s1 : ((w.alloc (.cells #[.int .i64 a, .int .u64 b] 58)).alloc (.cells #[.int .i64 c, .int .u64 d] 58)).cell? ⟨w.heap.size, 1, none⟩ = some (.int .u64 b) := by go_simp
  have s2 : ((w.alloc (.cells #[.int .i64 a, .int .u64 b] 58)).alloc (.cells #[.int .i64 c, .int .u64 d] 58)).cell? ⟨w.heap.size + 1, 0, none⟩ = some (.int .i64 c) := by go_simp
  have s3 : ((w.alloc (.cells #[.int .i64 a, .int .u64 b] 58)).alloc (.cells #[.int .i64 c, .int .u64 d] 58)).cell? ⟨w.heap.size + 1, 1, none⟩ = some (.int .u64 d) := by go_simp
  have p0 := World.plus_cell s0; have p1 := World.plus_cell s1; have p2 := World.plus_cell s2; have p3 := World.plus_cell s3
  clear s0 s1 s2 s3
  refine wp_region_plus_tail (10) (by kernel_rfl) (by kernel_rfl) ?_
  simp only [List.take_succ_cons, List.take_zero, List.drop_succ_cons, List.drop_zero]
  repeat (first | go_big_quiet_skip | (go_big_quiet_want; go_big_quiet_op; first | go_big_quiet_on | go_big_quiet_call (((first | (go_at_call 123; exact Calls.plus_of_same (c1.out _)) | (go_at_call 124; exact Calls.plus_of_same (c2.out _)))))))
  refine wpQuiet_nil ?_
  rintro _ ⟨xq, rfl⟩
  have kB := World.plus_below ((w.alloc (.cells #[.int .i64 a, .int .u64 b] 58)).alloc (.cells #[.int .i64 c, .int .u64 d] 58)) xq
  go_wp2_with (go_at_call 122; refine (or_two p q _ _ _ (by go_simp) (by go_simp)).mono ?_; rintro e w1 ⟨rfl, rfl⟩)
  all_goals
    go_ret
    exact ⟨rfl, by (repeat' (first | (with_reducible exact Below.refl _ _) | (with_reducible assumption) | (with_reducible refine Below.new ?_ _) | (with_reducible refine Below.alloc ?_ ?_ _) | (with_reducible refine Below.drew ?_) | (with_reducible refine Below.drewN ?_ _) | (with_reducible refine Below.setCell ?_ ?_ _) | (refine Below.step ?_ (by assumption)) | go_size))⟩
theorem refCmp_words (a b c d : Int) (w : World) :
    Calls Try.prog 115 #[.agg #[.int .i64 a, .int .u64 b], .agg #[.int .i64 c, .int .u64 d]] w fun e w' => e = .returned (.int .i64 (cmpW a b c d)) ∧ Below w.heap.size w w' := by
  rcases Int.lt_trichotomy a c with h | h | h
  · have hv : cmpW a b c d = -1 := by rw [cmpW, if_neg (by omega), sgn_lt h]
    have hne : (a == c) = false := by simp; omega
    rw [hv]
    clear hv
    go_enter Try.func115, Try.ntmps115
    go_wp2
    go_ret
    exact ⟨rfl, by (repeat' (first | (with_reducible exact Below.refl _ _) | (with_reducible assumption) | (with_reducible refine Below.new ?_ _) | (with_reducible refine Below.alloc ?_ ?_ _) | (with_reducible refine Below.drew ?_) | (with_reducible refine Below.drewN ?_ _) | (with_reducible refine Below.setCell ?_ ?_ _) | (refine Below.step ?_ (by assumption)) | go_size))⟩
  · subst h
    rcases Int.lt_trichotomy b d with h | h | h
    · have hv : cmpW a b a d = -1 := by rw [cmpW, if_pos rfl, sgn_lt h]
      have hne : (b == d) = false := by simp; omega
      rw [hv]
      clear hv
      go_enter Try.func115, Try.ntmps115
      go_wp2
      go_ret
      exact ⟨rfl, by (repeat' (first | (with_reducible exact Below.refl _ _) | (with_reducible assumption) | (with_reducible refine Below.new ?_ _) | (with_reducible refine Below.alloc ?_ ?_ _) | (with_reducible refine Below.drew ?_) | (with_reducible refine Below.drewN ?_ _) | (with_reducible refine Below.setCell ?_ ?_ _) | (refine Below.step ?_ (by assumption)) | go_size))⟩
    · have hv : cmpW a b a d = 0 := by rw [cmpW, if_pos rfl, sgn_eq h]
      rw [hv]
      subst h
      clear hv
      go_enter Try.func115, Try.ntmps115
      go_wp2
      go_ret
      exact ⟨rfl, by (repeat' (first | (with_reducible exact Below.refl _ _) | (with_reducible assumption) | (with_reducible refine Below.new ?_ _) | (with_reducible refine Below.alloc ?_ ?_ _) | (with_reducible refine Below.drew ?_) | (with_reducible refine Below.drewN ?_ _) | (with_reducible refine Below.setCell ?_ ?_ _) | (refine Below.step ?_ (by assumption)) | go_size))⟩
    · have hv : cmpW a b a d = 1 := by rw [cmpW, if_pos rfl, sgn_gt h]
      have hne : (b == d) = false := by simp; omega
      have hle : d ≤ b := by omega
      rw [hv]
      clear hv
      go_enter Try.func115, Try.ntmps115
      go_wp2
      go_ret
      exact ⟨rfl, by (repeat' (first | (with_reducible exact Below.refl _ _) | (with_reducible assumption) | (with_reducible refine Below.new ?_ _) | (with_reducible refine Below.alloc ?_ ?_ _) | (with_reducible refine Below.drew ?_) | (with_reducible refine Below.drewN ?_ _) | (with_reducible refine Below.setCell ?_ ?_ _) | (refine Below.step ?_ (by assumption)) | go_size))⟩
  · have hv : cmpW a b c d = 1 := by rw [cmpW, if_neg (by omega), sgn_gt h]
    have hne : (a == c) = false := by simp; omega
    have hle : c ≤ a := by omega
    rw [hv]
    clear hv
    go_enter Try.func115, Try.ntmps115
    go_wp2
    go_ret
    exact ⟨rfl, by (repeat' (first | (with_reducible exact Below.refl _ _) | (with_reducible assumption) | (with_reducible refine Below.new ?_ _) | (with_reducible refine Below.alloc ?_ ?_ _) | (with_reducible refine Below.drew ?_) | (with_reducible refine Below.drewN ?_ _) | (with_reducible refine Below.setCell ?_ ?_ _) | (refine Below.step ?_ (by assumption)) | go_size))⟩

/-- A shift's number. -/
def shiftV (n s : Int) : Int := if 0 ≤ s ∧ s ≤ 127 then n * 2 ^ s.toNat else 0

theorem refShift_any (n s : Int) (w : World) : Calls Try.prog 126 #[(Value.agg #[.int .i64 (hiW (n)), .int .u64 (loW (n))]), .int .i64 s] w fun e w' => e = .returned ((Value.agg #[.int .i64 (hiW (shiftV n s)), .int .u64 (loW (shiftV n s))])) ∧ Below w.heap.size w w' := by
  by_cases hs : 0 ≤ s ∧ s ≤ 127
  · obtain ⟨N, rfl⟩ := Int.eq_ofNat_of_zero_le hs.1
    have hv : shiftV n (N : Int) = n * 2 ^ N := by rw [shiftV, if_pos hs]; simp
    rw [hv]
    have hN : N ≤ 127 := by omega
    clear hs hv
    go_enter Try.func126, Try.ntmps126
    go_wp2
    go_loopw [5] (fun i wr => ∃ k : Nat, k ≤ N ∧ i = .int .i64 k ∧ wr.heap[w.heap.size]? = some (.cells #[.int .i64 (hiW (n * 2 ^ k)), .int .u64 (loW (n * 2 ^ k))] 58 (0, 0)) ∧ wr.heap[w.heap.size + 1]? = some (.cells #[.int .i64 0, .int .u64 0] 58 (0, 0)) ∧ Below w.heap.size w wr) (fun i _ => N - (intOf i).toNat)
    case atStart => exact ⟨0, Nat.zero_le _, rfl, by simp only [Int.pow_zero, Int.mul_one]; (simp (disch := first | omega | (simp only [World.size_alloc, World.size_setCell, World.size_drew]; done) | (simp only [World.size_alloc, World.size_setCell, World.size_drew]; omega)) only [heap_at, heap_past, heap_set_other, heap_set_same]), by (simp (disch := first | omega | (simp only [World.size_alloc, World.size_setCell, World.size_drew]; done) | (simp only [World.size_alloc, World.size_setCell, World.size_drew]; omega)) only [heap_at, heap_past, heap_set_other, heap_set_same]), by (repeat' (first | (with_reducible exact Below.refl _ _) | (with_reducible assumption) | (with_reducible refine Below.new ?_ _) | (with_reducible refine Below.alloc ?_ ?_ _) | (with_reducible refine Below.drew ?_) | (with_reducible refine Below.drewN ?_ _) | (with_reducible refine Below.setCell ?_ ?_ _) | (refine Below.step ?_ (by assumption)) | go_size))⟩
    case round =>
      obtain ⟨k, hk, rfl, hA, hR, hbel⟩ := hrel
      obtain ⟨c0, c1, g0, g1, b1⟩ := two_is hA
      by_cases hlt : k < N
      · go_wp2_with (go_at_call 107; (with_reducible refine (refAdd_any _ _ _).mono ?_); rintro e w2 ⟨rfl, hb2⟩; have hA2 := (hb2.block _ b1).trans hA; obtain ⟨d0, d1, f0, f1, b2⟩ := two_is hA2)
        have hR2 := (hb2.block _ (lt_of_block hR)).trans hR
        have hp : n * 2 ^ k + n * 2 ^ k = n * 2 ^ (k + 1) := by rw [Int.pow_succ, ← Int.mul_assoc]; omega
        go_roundw
        case rel => exact ⟨k + 1, hlt, by go_num, by rw [← hp]; exact two_set hA2, by rw [heap_set_other (by simp), heap_set_other (by simp)]; exact hR2, by (repeat' (first | (with_reducible exact Below.refl _ _) | (with_reducible assumption) | (with_reducible refine Below.new ?_ _) | (with_reducible refine Below.alloc ?_ ?_ _) | (with_reducible refine Below.drew ?_) | (with_reducible refine Below.drewN ?_ _) | (with_reducible refine Below.setCell ?_ ?_ _) | (refine Below.step ?_ (by assumption)) | go_size))⟩
        case measure => simp [intOf]; omega
      · obtain rfl : k = N := by omega
        obtain ⟨r0, r1, q0, q1, b3⟩ := two_is hR
        go_wp2
        ((show bodyPost _ _ _ _ _ _); refine bodyPost_ret (by simp only [results, Try.results126]; go_simp; try rfl) rfl ?_)
        exact ⟨rfl, by (repeat' (first | (with_reducible exact Below.refl _ _) | (with_reducible assumption) | (with_reducible refine Below.new ?_ _) | (with_reducible refine Below.alloc ?_ ?_ _) | (with_reducible refine Below.drew ?_) | (with_reducible refine Below.drewN ?_ _) | (with_reducible refine Below.setCell ?_ ?_ _) | (refine Below.step ?_ (by assumption)) | go_size))⟩
  · have hv : shiftV n s = 0 := by rw [shiftV, if_neg hs]
    have h0 : hiW 0 = 0 := by decide
    have h1 : loW 0 = 0 := by decide
    rw [hv, h0, h1]
    by_cases hq : s < 0
    · clear hs hv h0 h1
      go_enter Try.func126, Try.ntmps126
      go_wp2
      ((show bodyPost _ _ _ _ _ _); refine bodyPost_ret (by simp only [results, Try.results126]; go_simp; try rfl) rfl ?_)
      exact ⟨rfl, by (repeat' (first | (with_reducible exact Below.refl _ _) | (with_reducible assumption) | (with_reducible refine Below.new ?_ _) | (with_reducible refine Below.alloc ?_ ?_ _) | (with_reducible refine Below.drew ?_) | (with_reducible refine Below.drewN ?_ _) | (with_reducible refine Below.setCell ?_ ?_ _) | (refine Below.step ?_ (by assumption)) | go_size))⟩
    · have hq' : 0 ≤ s := by omega
      have hq2 : 127 < s := by omega
      clear hs hv h0 h1 hq
      go_enter Try.func126, Try.ntmps126
      go_wp2
      ((show bodyPost _ _ _ _ _ _); refine bodyPost_ret (by simp only [results, Try.results126]; go_simp; try rfl) rfl ?_)
      exact ⟨rfl, by (repeat' (first | (with_reducible exact Below.refl _ _) | (with_reducible assumption) | (with_reducible refine Below.new ?_ _) | (with_reducible refine Below.alloc ?_ ?_ _) | (with_reducible refine Below.drew ?_) | (with_reducible refine Below.drewN ?_ _) | (with_reducible refine Below.setCell ?_ ?_ _) | (refine Below.step ?_ (by assumption)) | go_size))⟩
end Go.Proofs.Ytdgeinipdphoeaa
/- Wide numbers: the program's 'Shift'. -/
namespace Go.Proofs.Ytdgeinipdphoeaa
set_option linter.unusedVariables false
set_option linter.unusedSimpArgs false
open Go.ChangeShapes Go.WideShapes Go.ChangeAt Go.RowKit

theorem bits_or_i64 (x y : Int) : bits .or .i64 x y = IntKind.i64.wrap (((BitVec.ofInt 64 x).toNat ||| (BitVec.ofInt 64 y).toNat : Nat) : Int) := by
  show IntKind.i64.wrap ((BitVec.ofInt 64 x ||| BitVec.ofInt 64 y).toNat : Int) = _
  rw [BitVec.toNat_or]
theorem ofInt_nat (x : Int) (X : Nat) (h : x % 18446744073709551616 = (X : Int)) : (BitVec.ofInt 64 x).toNat = X := by
  rw [BitVec.toNat_ofInt]
  have e : ((2 ^ 64 : Nat) : Int) = 18446744073709551616 := by simp
  rw [e, h, Int.toNat_natCast]

theorem wrap_mod (x : Int) : wrap64 x % 18446744073709551616 = x % 18446744073709551616 := by unfold wrap64; omega
theorem wrap_mod_add (x y : Int) : x % 18446744073709551616 + y + 9223372036854775808 = x % 18446744073709551616 + y + 9223372036854775808 ∧ wrap64 (x % 18446744073709551616 + y) = wrap64 (x + y) := by refine ⟨rfl, ?_⟩; unfold wrap64; omega

theorem or_words (a y : Int) (N : Nat) (hN : N < 64) (h0 : 0 ≤ y) (h1 : y < 2 ^ N) : bits .or .i64 (wrap64 (a * 2 ^ N)) (wrap64 y) = wrap64 (a * 2 ^ N + y) := by
  have hP : (0 : Int) < 2 ^ N := Int.pow_pos (by decide)
  have hPQ : (2 : Int) ^ (64 - N) * 2 ^ N = 18446744073709551616 := by
    rw [← Int.pow_add, Nat.sub_add_cancel (by omega)]; simp
  have hle : (2 : Int) ^ N ≤ 18446744073709551616 := by
    rw [← hPQ]
    have h2 : (0 : Int) < 2 ^ (64 - N) := Int.pow_pos (by decide)
    have h3 : (1 : Int) ≤ 2 ^ (64 - N) := h2
    have := Int.mul_le_mul_of_nonneg_right h3 (Int.le_of_lt hP)
    omega
  have hx : a * 2 ^ N % 18446744073709551616 = a % 2 ^ (64 - N) * 2 ^ N := by
    rw [← hPQ, Int.mul_comm a, Int.mul_comm (2 ^ (64 - N)) (2 ^ N), Int.mul_emod_mul_of_pos _ _ hP, Int.mul_comm]
  have hc : 0 ≤ a % 2 ^ (64 - N) := Int.emod_nonneg _ (by have : (0 : Int) < 2 ^ (64 - N) := Int.pow_pos (by decide); omega)
  obtain ⟨c, hc'⟩ := Int.eq_ofNat_of_zero_le hc
  obtain ⟨Y, rfl⟩ := Int.eq_ofNat_of_zero_le h0
  have hY : Y < 2 ^ N := by
    have : ((2 ^ N : Nat) : Int) = 2 ^ N := by simp
    omega
  have e1 : (BitVec.ofInt 64 (wrap64 (a * 2 ^ N))).toNat = 2 ^ N * c := by
    refine ofInt_nat _ _ ?_
    rw [wrap_mod, hx, hc', Int.natCast_mul, Int.mul_comm]
    simp
  have e2 : (BitVec.ofInt 64 (wrap64 (Y : Int))).toNat = Y := by
    refine ofInt_nat _ _ ?_
    rw [wrap_mod]
    exact Int.emod_eq_of_lt h0 (Int.lt_of_lt_of_le h1 hle)
  rw [bits_or_i64, e1, e2, ← Nat.two_pow_add_eq_or_of_lt hY, IntKind.wrap_i64, ← (wrap_mod_add _ _).2, hx, hc']
  have e3 : ((2 ^ N * c + Y : Nat) : Int) = (c : Int) * 2 ^ N + Y := by
    rw [Int.natCast_add, Int.natCast_mul, Int.mul_comm]; simp
  rw [e3, wrap64]

end Go.Proofs.Ytdgeinipdphoeaa
/- Wide numbers: 'Mul' of either. -/
namespace Go.Proofs.Ytdgeinipdphoeaa
set_option linter.unusedVariables false
set_option linter.unusedSimpArgs false
open Go.ChangeShapes Go.WideShapes Go.ChangeAt Go.RowKit

theorem mask_nat (a : Nat) (ha : a < 18446744073709551616) : bits .and .u64 (a : Int) 4294967295 = ((a % 4294967296 : Nat) : Int) := by
  have h := bits_and_u64_nat a 4294967295 ha (by omega)
  have e : a &&& 4294967295 = a % 4294967296 := Nat.and_two_pow_sub_one_eq_mod a 32
  rw [e] at h
  exact h
theorem div_nat (a : Nat) : (a : Int) / 4294967296 = ((a / 4294967296 : Nat) : Int) := by omega
theorem mul_nat (a b : Nat) : (a : Int) * (b : Int) = ((a * b : Nat) : Int) := (Int.natCast_mul a b).symm
theorem add_nat (a b : Nat) : (a : Int) + (b : Int) = ((a + b : Nat) : Int) := (Int.natCast_add a b).symm
theorem wrap_nat (a : Nat) (ha : a < 18446744073709551616) : IntKind.u64.wrap (a : Int) = (a : Int) := by rw [IntKind.wrap_u64]; omega
theorem wrap_natM (a : Nat) : IntKind.u64.wrap (a : Int) = ((a % 18446744073709551616 : Nat) : Int) := by rw [IntKind.wrap_u64]; omega

set_option maxHeartbeats 1000000 in
theorem mul64_nat (x y : Nat) (hx : x < 18446744073709551616) (hy : y < 18446744073709551616) (w : World) :
    Calls Try.prog 121 #[.int .u64 x, .int .u64 y] w fun e w' => e = .returned (.tuple #[.int .u64 ((x * y / 18446744073709551616 : Nat) : Int), .int .u64 ((x * y % 18446744073709551616 : Nat) : Int)]) ∧ w = w' := by
  obtain ⟨bd, bt, bw, hhi⟩ := Lib.mul64_hi x y hx hy
  have ba := Lib.half_mul_le (a := x / 4294967296) (b := y / 4294967296) (by omega) (by omega)
  have bb := Lib.half_mul_le (a := x / 4294967296) (b := y % 4294967296) (by omega) (by omega)
  have bc := Lib.half_mul_le (a := x % 4294967296) (b := y / 4294967296) (by omega) (by omega)
  have ba' : x / 4294967296 * (y / 4294967296) < 18446744073709551616 := by omega
  have bb' : x / 4294967296 * (y % 4294967296) < 18446744073709551616 := by omega
  have bc' : x % 4294967296 * (y / 4294967296) < 18446744073709551616 := by omega
  have bh1 : x / 4294967296 * (y / 4294967296) + (x / 4294967296 * (y % 4294967296) + x % 4294967296 * (y % 4294967296) / 4294967296) / 4294967296 < 18446744073709551616 := by omega
  have bh : x / 4294967296 * (y / 4294967296) + (x / 4294967296 * (y % 4294967296) + x % 4294967296 * (y % 4294967296) / 4294967296) / 4294967296 + ((x / 4294967296 * (y % 4294967296) + x % 4294967296 * (y % 4294967296) / 4294967296) % 4294967296 + x % 4294967296 * (y / 4294967296)) / 4294967296 < 18446744073709551616 := by omega
  go_enter Try.func121, Try.ntmps121
  go_wp2
  simp only [mask_nat x hx, mask_nat y hy, div_nat, mul_nat, add_nat, wrap_nat _ bd, wrap_nat _ bb', wrap_nat _ bt, mask_nat _ bt, wrap_nat _ bc', wrap_nat _ bw, wrap_nat _ ba', wrap_nat _ bh1, wrap_nat _ bh, wrap_natM (x * y)]
  rw [hhi]
  go_ret2
  exact ⟨rfl, rfl⟩
theorem mul64_any (x y : Int) (hx : 0 ≤ x ∧ x ≤ 18446744073709551615) (hy : 0 ≤ y ∧ y ≤ 18446744073709551615) (w : World) :
    Calls Try.prog 121 #[.int .u64 x, .int .u64 y] w fun e w' => e = .returned (.tuple #[.int .u64 (x * y / 18446744073709551616), .int .u64 (x * y % 18446744073709551616)]) ∧ w = w' := by
  obtain ⟨x, rfl⟩ := Int.eq_ofNat_of_zero_le hx.1
  obtain ⟨y, rfl⟩ := Int.eq_ofNat_of_zero_le hy.1
  have h := mul64_nat x y (by omega) (by omega) w
  rw [show ((x * y / 18446744073709551616 : Nat) : Int) = (x : Int) * y / 18446744073709551616 by simp, show ((x * y % 18446744073709551616 : Nat) : Int) = (x : Int) * y % 18446744073709551616 by simp] at h
  exact h

theorem mul_any (n m : Int) (hn : -9223372036854775808 ≤ n ∧ n ≤ 9223372036854775807) (hm : -9223372036854775808 ≤ m ∧ m ≤ 9223372036854775807) (w : World) :
    Calls Try.prog 110 #[.int .i64 n, .int .i64 m] w fun e w' => e = .returned ((Value.agg #[.int .i64 (hiW (n * m)), .int .u64 (loW (n * m))])) ∧ Below w.heap.size w w' := by
  obtain ⟨u, hu⟩ : ∃ u, IntKind.u64.wrap n = u := ⟨_, rfl⟩
  obtain ⟨v, hv⟩ : ∃ v, IntKind.u64.wrap m = v := ⟨_, rfl⟩
  have bu : 0 ≤ u ∧ u ≤ 18446744073709551615 := by rw [IntKind.wrap_u64] at hu; omega
  have bv : 0 ≤ v ∧ v ≤ 18446744073709551615 := by rw [IntKind.wrap_u64] at hv; omega
  have eu : u = if n < 0 then n + 18446744073709551616 else n := by rw [IntKind.wrap_u64] at hu; split <;> omega
  have ev : v = if m < 0 then m + 18446744073709551616 else m := by rw [IntKind.wrap_u64] at hv; split <;> omega
  obtain ⟨p, hp⟩ : ∃ p, n * m = p := ⟨_, rfl⟩
  rw [hp]
  have EU := hid eu; have EV := hid ev; have HP := hid hp
  clear eu ev hp
  have hc : ∀ q, u * v = q → u * v / 18446744073709551616 = q / 18446744073709551616 ∧ u * v % 18446744073709551616 = q % 18446744073709551616 := fun q h => by rw [h]; exact ⟨rfl, rfl⟩
  have HC := hid hc; clear hc
  have hM := hid (mul64_any u v bu bv)
  obtain ⟨Q, hQ⟩ : ∃ Q, u * v = Q := ⟨_, rfl⟩
  rw [hQ] at hM HC
  have HQ := hid hQ
  clear hQ
  by_cases h1 : n < 0 <;> by_cases h2 : m < 0
  all_goals
    first | (have h1' : 0 ≤ n := by omega) | skip
    first | (have h2' : 0 ≤ m := by omega) | skip
    go_enter Try.func110, Try.ntmps110
    go_wp2_with (go_at_call 121; refine (hM.out _).mono ?_; rintro e w1 ⟨rfl, rfl⟩)
    ((show bodyPost _ _ _ _ _ _); refine bodyPost_ret (by simp only [results, Try.results110]; go_simp; try rfl) rfl ?_)
    refine ⟨ret_wide ?_ ?_, by (repeat' (first | (with_reducible exact Below.refl _ _) | (with_reducible assumption) | (with_reducible refine Below.new ?_ _) | (with_reducible refine Below.alloc ?_ ?_ _) | (with_reducible refine Below.drew ?_) | (with_reducible refine Below.drewN ?_ _) | (with_reducible refine Below.setCell ?_ ?_ _) | (refine Below.step ?_ (by assumption)) | go_size))⟩
    · have e1 := EU.out; have e2 := EV.out; have e3 := HQ.out; have e4 := HP.out
      first | rw [if_pos h1] at e1 | rw [if_neg (by omega)] at e1
      first | rw [if_pos h2] at e2 | rw [if_neg (by omega)] at e2
      rw [e1, e2] at e3
      (try simp only [Int.add_mul, Int.mul_add] at e3)
      rw [e4] at e3
      clear e1 e2 e4 hu hv EU EV HQ HP HC hM
      unfold hiW wrap64
      omega
    · have e1 := EU.out; have e2 := EV.out; have e3 := HQ.out; have e4 := HP.out
      first | rw [if_pos h1] at e1 | rw [if_neg (by omega)] at e1
      first | rw [if_pos h2] at e2 | rw [if_neg (by omega)] at e2
      rw [e1, e2] at e3
      (try simp only [Int.add_mul, Int.mul_add] at e3)
      rw [e4] at e3
      clear e1 e2 e4 hu hv EU EV HQ HP HC hM
      unfold loW
      omega
end Go.Proofs.Ytdgeinipdphoeaa
/- Wide numbers: the verifier's 'Mul', by binary digits. -/
namespace Go.Proofs.Ytdgeinipdphoeaa
set_option linter.unusedVariables false
set_option linter.unusedSimpArgs false
open Go.ChangeShapes Go.WideShapes Go.ChangeAt Go.RowKit

/-- What the first k digits give. -/
def mulK (U : Nat) (n m : Int) (k : Nat) : Int := if k ≤ 63 then m * ((U % 2 ^ k : Nat) : Int) else n * m
theorem digits (U k : Nat) : U % 2 ^ (k + 1) = U % 2 ^ k + 2 ^ k * (U / 2 ^ k % 2) := Nat.mod_pow_succ
theorem mulK_zero (U : Nat) (n m : Int) (k : Nat) (hk : k < 63) (hb : U / 2 ^ k % 2 = 0) : mulK U n m (k + 1) = mulK U n m k := by
  rw [mulK, mulK, if_pos (by omega), if_pos (by omega), digits, hb]; simp
theorem mulK_one (U : Nat) (n m : Int) (k : Nat) (hk : k < 63) (hb : U / 2 ^ k % 2 = 1) : mulK U n m (k + 1) = mulK U n m k + m * 2 ^ k := by
  rw [mulK, mulK, if_pos (by omega), if_pos (by omega), digits, hb]
  rw [Int.natCast_add, Int.mul_add]
  simp
theorem mulK_last {U : Nat} {n m : Int} (hn : -9223372036854775808 ≤ n ∧ n ≤ 9223372036854775807) (hU : (U : Int) = n % 18446744073709551616) :
    (U / 2 ^ 63 % 2 = 0 → mulK U n m 64 = mulK U n m 63) ∧ (U / 2 ^ 63 % 2 = 1 → mulK U n m 64 = mulK U n m 63 + -(m * 2 ^ 63)) := by
  have a1 : mulK U n m 64 = n * m := by simp [mulK]
  have a2 : mulK U n m 63 = m * ((U % 9223372036854775808 : Nat) : Int) := by simp [mulK]
  have e : (2 : Nat) ^ 63 = 9223372036854775808 := by simp
  have e' : (2 : Int) ^ 63 = 9223372036854775808 := by simp
  rw [a1, a2, e, e']
  refine ⟨fun h => ?_, fun h => ?_⟩
  · have : ((U % 9223372036854775808 : Nat) : Int) = n := by omega
    rw [this, Int.mul_comm]
  · have : ((U % 9223372036854775808 : Nat) : Int) = n + 9223372036854775808 := by omega
    rw [this, Int.mul_add, Int.mul_comm m n]
    omega
theorem digit_int {U k : Nat} {d : Nat} (h : U / 2 ^ k % 2 = d) : ((U : Int) / 2 ^ k).tmod 2 = d := by
  rw [Int.tmod_eq_emod_of_nonneg (Int.ediv_nonneg (by omega) (Int.le_of_lt (Int.pow_pos (by decide))))]
  have := congrArg (Nat.cast : Nat → Int) h
  simpa using this

theorem refNeg_any (n : Int) (w : World) : Calls Try.prog 127 #[(Value.agg #[.int .i64 (hiW (n)), .int .u64 (loW (n))])] w fun e w' => e = .returned ((Value.agg #[.int .i64 (hiW (-n)), .int .u64 (loW (-n))])) ∧ Below w.heap.size w w' := by
  have h := refNeg_words (hiW n) (loW n) (hiW_is n) (loW_is n) w
  rw [wv_eq (n := -(hiW n * 18446744073709551616 + loW n)) (m := -n) (by have := words n; omega)] at h
  exact h
set_option maxHeartbeats 1000000 in
theorem refMul_any (n m : Int) (hn : -9223372036854775808 ≤ n ∧ n ≤ 9223372036854775807) (hm : -9223372036854775808 ≤ m ∧ m ≤ 9223372036854775807) (w : World) :
    Calls Try.prog 114 #[.int .i64 n, .int .i64 m] w fun e w' => e = .returned ((Value.agg #[.int .i64 (hiW (n * m)), .int .u64 (loW (n * m))])) ∧ Below w.heap.size w w' := by
  have bu : 0 ≤ n % 18446744073709551616 := by omega
  obtain ⟨U, hU⟩ := Int.eq_ofNat_of_zero_le bu
  have hw : IntKind.u64.wrap n = (U : Int) := by rw [IntKind.wrap_u64]; exact hU
  have HL := hid (mulK_last (m := m) hn hU.symm)
  have h64 : mulK U n m 64 = n * m := by simp [mulK]
  have h0 : mulK U n m 0 = 0 := by simp [mulK, Nat.mod_one]
  rw [← h64]
  have H0 := hid h0; have HU := hid hU
  clear h64 h0 hU bu
  go_enter Try.func114, Try.ntmps114
  go_wp2
  go_loopw [6] (fun i wr => ∃ k : Nat, k ≤ 64 ∧ i = .int .i64 k ∧ wr.heap[w.heap.size + 1]? = some (.cells #[.int .i64 (hiW (mulK U n m k)), .int .u64 (loW (mulK U n m k))] 58 (0, 0)) ∧ wr.heap[w.heap.size]? = some (.cells #[.int .i64 0, .int .u64 0] 58 (0, 0)) ∧ Below w.heap.size w wr) (fun i _ => 64 - (intOf i).toNat)
  case atStart => exact ⟨0, Nat.zero_le _, rfl, by rw [H0.out]; (simp (disch := first | omega | (simp only [World.size_alloc, World.size_setCell, World.size_drew]; done) | (simp only [World.size_alloc, World.size_setCell, World.size_drew]; omega)) only [heap_at, heap_past, heap_set_other, heap_set_same]); rfl, by (simp (disch := first | omega | (simp only [World.size_alloc, World.size_setCell, World.size_drew]; done) | (simp only [World.size_alloc, World.size_setCell, World.size_drew]; omega)) only [heap_at, heap_past, heap_set_other, heap_set_same]), by (repeat' (first | (with_reducible exact Below.refl _ _) | (with_reducible assumption) | (with_reducible refine Below.new ?_ _) | (with_reducible refine Below.alloc ?_ ?_ _) | (with_reducible refine Below.drew ?_) | (with_reducible refine Below.drewN ?_ _) | (with_reducible refine Below.setCell ?_ ?_ _) | (refine Below.step ?_ (by assumption)) | go_size))⟩
  case round =>
    obtain ⟨k, hk, rfl, hA, hR, hbel⟩ := hrel
    obtain ⟨c0, c1, g0, g1, b1⟩ := two_is hA
    by_cases hlt : k < 64
    · have hbit : U / 2 ^ k % 2 = 0 ∨ U / 2 ^ k % 2 = 1 := by omega
      have HZ := hid (fun h => mulK_zero U n m k h); have HO := hid (fun h => mulK_one U n m k h)
      rcases hbit with hbit | hbit
      · have ht : ((U : Int) / 2 ^ k).tmod 2 = 0 := digit_int hbit
        have hnext : mulK U n m (k + 1) = mulK U n m k := by
          by_cases h63 : k < 63
          · exact mulK_zero U n m k h63 hbit
          · obtain rfl : k = 63 := by omega
            exact HL.out.1 hbit
        have HX := hid hnext
        clear hbit hnext
        go_wp2
        go_roundw
        case rel => exact ⟨k + 1, hlt, by go_num, by rw [HX.out]; exact hA, hR, hbel⟩
        case measure => simp [intOf]; omega
      · have ht : ((U : Int) / 2 ^ k).tmod 2 = 1 := digit_int hbit
        have hsh : shiftV m (k : Int) = m * 2 ^ k := by rw [shiftV, if_pos (by omega)]; simp
        have HS := hid hsh
        by_cases h63 : k < 63
        · have HX := hid (mulK_one U n m k h63 hbit)
          have hk63 : ((k : Int) == 63) = false := by simp; omega
          clear hbit hsh
          go_wp2_with (first
            | (go_at_call 63; refine (refOf_any m hm _).mono ?_; rintro e w1 ⟨rfl, hb1⟩; obtain ⟨hc1, hf1, hk1, hz1⟩ := bcell3 hb1; (try simp only [World.size_alloc, World.size_drew] at hz1); have hA1 := (hb1.block _ b1).trans hA; have hR1 := (hb1.block _ (lt_of_block hR)).trans hR)
            | (go_at_call 126; refine (refShift_any m _ _).mono ?_; rintro e w2 ⟨rfl, hb2⟩; rw [HS.out]; obtain ⟨hc2, hf2, hk2, hz2⟩ := bcell3 hb2; (try simp only [World.size_alloc, World.size_drew] at hz2); have hA2 := (hb2.block _ (lt_of_block hA1)).trans hA1; have hR2 := (hb2.block _ (lt_of_block hR1)).trans hR1; obtain ⟨c0', c1', g0', g1', b1'⟩ := two_is hA2)
            | (go_at_call 107; (with_reducible refine (refAdd_any _ _ _).mono ?_); rintro e w3 ⟨rfl, hb3⟩; have hA3 := (hb3.block (w.heap.size + 1) (by simp; omega)).trans ((heap_past b1').trans hA2); have hR3 := (hb3.block w.heap.size (by simp; omega)).trans ((heap_past (by omega)).trans hR2); obtain ⟨d0, d1, f0, f1, b3⟩ := two_is hA3))
          go_roundw
          case rel => exact ⟨k + 1, hlt, by go_num, by rw [HX.out]; exact two_set hA3, by rw [heap_set_other (by simp), heap_set_other (by simp)]; exact hR3, by (repeat' (first | (with_reducible exact Below.refl _ _) | (with_reducible assumption) | (with_reducible refine Below.new ?_ _) | (with_reducible refine Below.alloc ?_ ?_ _) | (with_reducible refine Below.drew ?_) | (with_reducible refine Below.drewN ?_ _) | (with_reducible refine Below.setCell ?_ ?_ _) | (refine Below.step ?_ (by assumption)) | go_size))⟩
          case measure => simp [intOf]; omega
        · have HX : Hid (mulK U n m (k + 1) = mulK U n m k + -(m * 2 ^ k)) := by
            obtain rfl : k = 63 := by omega
            exact hid (HL.out.2 hbit)
          have hk63 : ((k : Int) == 63) = true := by simp; omega
          clear hbit hsh
          go_wp2_with (first
            | (go_at_call 63; refine (refOf_any m hm _).mono ?_; rintro e w1 ⟨rfl, hb1⟩; obtain ⟨hc1, hf1, hk1, hz1⟩ := bcell3 hb1; (try simp only [World.size_alloc, World.size_drew] at hz1); have hA1 := (hb1.block _ b1).trans hA; have hR1 := (hb1.block _ (lt_of_block hR)).trans hR)
            | (go_at_call 126; refine (refShift_any m _ _).mono ?_; rintro e w2 ⟨rfl, hb2⟩; rw [HS.out]; obtain ⟨hc2, hf2, hk2, hz2⟩ := bcell3 hb2; (try simp only [World.size_alloc, World.size_drew] at hz2); have hA2 := (hb2.block _ (lt_of_block hA1)).trans hA1; have hR2 := (hb2.block _ (lt_of_block hR1)).trans hR1; obtain ⟨c0', c1', g0', g1', b1'⟩ := two_is hA2)
            | (go_at_call 127; (with_reducible refine (refNeg_any _ _).mono ?_); rintro e w3 ⟨rfl, hb3⟩; have hA3 := (hb3.block (w.heap.size + 1) (by simp; omega)).trans ((heap_past b1').trans hA2); have hR3 := (hb3.block w.heap.size (by simp; omega)).trans ((heap_past (by omega)).trans hR2); have hT3 := (hb3.block w2.heap.size (by simp)).trans (heap_at rfl); obtain ⟨d0, d1, f0, f1, b3⟩ := two_is hA3; obtain ⟨t0, t1, y0, y1, b3'⟩ := two_is hT3)
            | (go_at_call 107; (with_reducible refine (refAdd_any _ _ _).mono ?_); rintro e w4 ⟨rfl, hb4⟩; have hA4 := (hb4.block (w.heap.size + 1) (by simp; omega)).trans ((heap_set_other (by omega)).trans ((heap_set_other (by omega)).trans hA3)); have hR4 := (hb4.block w.heap.size (by simp; omega)).trans ((heap_set_other (by omega)).trans ((heap_set_other (by omega)).trans hR3)); obtain ⟨x0, x1, z0, z1, b4⟩ := two_is hA4))
          go_roundw
          case rel => exact ⟨k + 1, hlt, by go_num, by rw [HX.out]; exact two_set hA4, by rw [heap_set_other (by simp), heap_set_other (by simp)]; exact hR4, by (repeat' (first | (with_reducible exact Below.refl _ _) | (with_reducible assumption) | (with_reducible refine Below.new ?_ _) | (with_reducible refine Below.alloc ?_ ?_ _) | (with_reducible refine Below.drew ?_) | (with_reducible refine Below.drewN ?_ _) | (with_reducible refine Below.setCell ?_ ?_ _) | (refine Below.step ?_ (by assumption)) | go_size))⟩
          case measure => simp [intOf]; omega
    · obtain rfl : k = 64 := by omega
      obtain ⟨r0, r1, q0, q1, b3⟩ := two_is hR
      go_wp2
      ((show bodyPost _ _ _ _ _ _); refine bodyPost_ret (by simp only [results, Try.results114]; go_simp; try rfl) rfl ?_)
      exact ⟨rfl, by (repeat' (first | (with_reducible exact Below.refl _ _) | (with_reducible assumption) | (with_reducible refine Below.new ?_ _) | (with_reducible refine Below.alloc ?_ ?_ _) | (with_reducible refine Below.drew ?_) | (with_reducible refine Below.drewN ?_ _) | (with_reducible refine Below.setCell ?_ ?_ _) | (refine Below.step ?_ (by assumption)) | go_size))⟩
end Go.Proofs.Ytdgeinipdphoeaa
/- Wide numbers: the verifier's 'Sum'; the program's 'all'. -/
namespace Go
theorem World.heap_mid (w : World) (o1 o2 o3 : Obj) : (((w.alloc o1).alloc o2).alloc o3).heap[w.heap.size + 1]? = some o2 := by
  show (((w.heap.push o1).push o2).push o3)[w.heap.size + 1]? = some o2
  rw [Array.getElem?_push, if_neg (by simp), Array.getElem?_push, if_pos (by simp)]
theorem World.heap_low (w : World) (o1 o2 o3 : Obj) : (((w.alloc o1).alloc o2).alloc o3).heap[w.heap.size]? = some o1 := by
  show (((w.heap.push o1).push o2).push o3)[w.heap.size]? = some o1
  rw [Array.getElem?_push, if_neg (by simp; omega), Array.getElem?_push, if_neg (by simp), Array.getElem?_push, if_pos rfl]
end Go
namespace Go.Proofs.Ytdgeinipdphoeaa
set_option linter.unusedVariables false
set_option linter.unusedSimpArgs false
open Go.ChangeShapes Go.WideShapes Go.ChangeAt Go.RowKit

def sumI : List Int → Int
  | [] => 0
  | x :: l => x + sumI l
theorem sumI_append (l m : List Int) : sumI (l ++ m) = sumI l + sumI m := by
  induction l with
  | nil => simp [sumI]
  | cons x l ih => simp only [List.cons_append, sumI, ih]; omega
theorem sumI_take {xs : List Int} {k : Nat} (h : k < xs.length) : sumI (xs.take (k + 1)) = sumI (xs.take k) + xs[k]?.getD 0 := by
  rw [List.take_succ_eq_append_getElem h, sumI_append]
  simp [sumI, h]
abbrev Ints64 (xs : List Int) : Prop := ∀ k, k < xs.length → -9223372036854775808 ≤ xs[k]?.getD 0 ∧ xs[k]?.getD 0 ≤ 9223372036854775807

/-- 'all' of two, the slice of which lies in one block. -/
theorem all_two (n m : Int) (b cap : Nat) (w : World) (h0 : w.cell? ⟨b, 0, none⟩ = some (.int .i64 (hiW n))) (h1 : w.cell? ⟨b, 1, none⟩ = some (.int .u64 (loW n)))
    (h2 : w.cell? ⟨b, 2, none⟩ = some (.int .i64 (hiW m))) (h3 : w.cell? ⟨b, 3, none⟩ = some (.int .u64 (loW m))) :
    Calls Try.prog 68 #[.slice (some ⟨b, 0, none⟩) 2 cap] w fun e w' => e = .returned ((Value.agg #[.int .i64 (hiW (n + m)), .int .u64 (loW (n + m))])) ∧ Below w.heap.size w w' := by
  have hbl : b < w.heap.size := World.block_lt_of_cell? _ _ h0
  have hz : ∀ x : Int, 0 + x = x := fun x => by omega
  have A1 := hid (fun w => add_any 0 n w)
  rw [hz] at A1
  have A2 := hid (fun w => add_any n m w)
  have z0 : hiW 0 = 0 := by decide
  have z1 : loW 0 = 0 := by decide
  rw [z0, z1] at A1
  clear hz z0 z1
  go_enter Try.func68, Try.ntmps68
  go_wp2
  refine wp_loop_rounds 3 ?_
  rw [rounds_succ]
  go_wp2_with (go_at_call 98; refine (A1.out _).mono ?_; rintro e w1 ⟨rfl, hb1⟩; obtain ⟨hc1, hf1, hk1, hz1⟩ := bcell3 hb1; (try simp only [World.size_alloc, World.size_drew] at hz1); have : w.heap.size < w1.heap.size := (by omega); have : w.heap.size + 1 < w1.heap.size := (by omega); have : w.heap.size + 1 + 1 < w1.heap.size := (by omega); have hbl1 : b < w1.heap.size := (by omega); have hBB : Below w.heap.size w w1 := (by (repeat' (first | (with_reducible exact Below.refl _ _) | (with_reducible assumption) | (with_reducible refine Below.new ?_ _) | (with_reducible refine Below.alloc ?_ ?_ _) | (with_reducible refine Below.drew ?_) | (with_reducible refine Below.drewN ?_ _) | (with_reducible refine Below.setCell ?_ ?_ _) | (refine Below.step ?_ (by assumption)) | go_size))); have h2' := cell_step h2 hBB; have h3' := cell_step h3 hBB; have hO1 := (hb1.block (w.heap.size + 1) (by simp)).trans (World.heap_mid w _ _ _); have hR1 := (hb1.block w.heap.size (by simp; omega)).trans (World.heap_low w _ _ _); obtain ⟨c0, c1, g0, g1, b1⟩ := two_is hO1; clear hc1 hf1 hk1)
  rw [rounds_succ]
  go_wp2_with (go_at_call 98; refine (A2.out _).mono ?_; rintro e w2 ⟨rfl, hb2⟩; have hO2 := (hb2.block (w.heap.size + 1) (by simp; omega)).trans ((heap_past (by simp; omega)).trans (two_set hO1)); have hR2 := (hb2.block w.heap.size (by simp; omega)).trans ((heap_past (by simp; omega)).trans ((heap_set_other (by simp)).trans ((heap_set_other (by simp)).trans hR1))); obtain ⟨d0, d1, f0, f1, b2⟩ := two_is hO2; obtain ⟨x0, x1, y0, y1, b3⟩ := two_is hR2)
  rw [rounds_succ]
  go_wp2
  ((show bodyPost _ _ _ _ _ _); refine bodyPost_ret (by simp only [results, Try.results68]; go_simp; try rfl) rfl ?_)
  exact ⟨rfl, by (repeat' (first | (with_reducible exact Below.refl _ _) | (with_reducible assumption) | (with_reducible refine Below.new ?_ _) | (with_reducible refine Below.alloc ?_ ?_ _) | (with_reducible refine Below.drew ?_) | (with_reducible refine Below.drewN ?_ _) | (with_reducible refine Below.setCell ?_ ?_ _) | (refine Below.step ?_ (by assumption)) | go_size))⟩
end Go.Proofs.Ytdgeinipdphoeaa
