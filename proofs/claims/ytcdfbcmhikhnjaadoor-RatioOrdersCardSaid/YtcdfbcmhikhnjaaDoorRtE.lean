/- Ratio: the program's 'Of' and 'Float'. -/
import Derived.Test.YtcdfbcmhikhnjaaDoorRtD
import Derived.Test.YtcdfbcmhikhnjaaDoorWideD
namespace Go.Proofs.YtcdfbcmhikhnjaaDoor
set_option linter.unusedVariables false
set_option linter.unusedSimpArgs false
set_option maxRecDepth 100000
open Go.ChangeShapes Go.WideShapes Go.ChangeAt Go.RowKit Go.Fl Go.Shelf
attribute [local go_sem] Oper.semAt_some

/-- What a ratio is: its number and its code. -/
def ofBad (n : Int) : Bool := decide (n < 0) || decide (20000000000 < n)
def ofF (a n : Int) : Nat :=
  if ofBad n then 0 else if n = 0 then (if a = 0 then 9221120237041090561 else Ieee.double.word (decide (a < 0)) (2047 * 2 ^ 52)) else if a = 0 then 0 else Ieee.double.word (decide (a < 0)) (ofR a.natAbs n.toNat)
def ofE (n : Int) : Int := if ofBad n then 90 else 0
abbrev I128 (a : Int) : Prop := -170141183460469231731687303715884105728 ≤ a ∧ a < 170141183460469231731687303715884105728

theorem cmp_zero {a : Int} (ha : I128 a) : cmpW (hiW a) (loW a) 0 0 = sgnI a 0 := by
  have h : a = hiW a * 18446744073709551616 + loW a := by unfold hiW loW; omega
  have := loW_is a
  generalize hiW a = H at *
  generalize loW a = L at *
  unfold cmpW sgnI
  (repeat' split) <;> omega
theorem neg_float {r : Nat} (h : r < 2 ^ 63) : Op.negFloat .f64 r = Ieee.double.word true r := by
  have e := or_sign h true
  rw [if_pos rfl] at e
  rw [← e]
  show r ^^^ 2 ^ 63 = _
  apply Nat.eq_of_testBit_eq
  intro i
  rw [Nat.testBit_xor, Nat.testBit_or, Nat.testBit_two_pow]
  by_cases hi : 63 = i
  · subst hi
    rw [Nat.testBit_lt_two_pow h]
    rfl
  · simp [hi]
theorem unary_neg_float (k : FloatKind) (b : Nat) : Op.unary .neg (.float k b) = pure (.float k (Op.negFloat k b)) := rfl
attribute [local go_sem] unary_neg_float
theorem nat_words {A : Nat} (h : A < 2 ^ 128) : loW (A : Int) = ((A % 2 ^ 64 : Nat) : Int) ∧ IntKind.u64.wrap (hiW (A : Int)) = ((A / 2 ^ 64 : Nat) : Int) := by
  constructor
  · unfold loW; omega
  · simp only [IntKind.wrap_u64]; unfold hiW; omega
theorem divided_words (A n : Nat) (hA0 : 0 < A) (hA : A < 2 ^ 128) (hn : 0 < n) (hn2 : n ≤ 20000000000) (w : World) :
    Calls Tryd.prog 39 #[(Value.agg #[.int .i64 (hiW ((A : Int))), .int .u64 (loW ((A : Int)))]), .int .u64 (n : Int)] w fun e w' => e = .returned (.float .f64 (ofR A n)) ∧ Below w.heap.size w w' := by
  obtain ⟨h1, h2⟩ := nat_words hA
  rw [h1]
  exact divided_any A n hA0 hA hn hn2 (hiW A) h2 w
theorem of_bad {n : Int} (h : n < 0 ∨ 20000000000 < n) : ofBad n = true := by unfold ofBad; simp [h]
theorem of_good {n : Int} (h1 : 0 ≤ n) (h2 : n ≤ 20000000000) : ofBad n = false := by unfold ofBad; simp; omega

theorem ratio_of (a n : Int) (ha : I128 a) (hn : -9223372036854775808 ≤ n ∧ n ≤ 9223372036854775807) (w : World) :
    Calls Tryd.prog 14 #[(Value.agg #[.int .i64 (hiW (a)), .int .u64 (loW (a))]), .int .i64 n] w fun e w' => e = .returned (.tuple #[.float .f64 (ofF a n), .int .i64 (ofE n)]) ∧ Below w.heap.size w w' := by
  have C1 := fun W => cmp_words (hiW a) (loW a) 0 0 W
  rw [cmp_zero ha] at C1
  have NG := fun W => neg_any a W
  replace C1 := hid C1
  by_cases hbad : n < 0 ∨ 20000000000 < n
  · have e1 : ofF a n = 0 := by unfold ofF; rw [of_bad hbad]; rfl
    have e2 : ofE n = 90 := by unfold ofE; rw [of_bad hbad]; rfl
    rw [e1, e2]
    generalize hiW a = H at *; generalize loW a = L at *
    generalize sgnI a 0 = S at *
    clear e1 e2 ha NG
    rcases Int.lt_or_le n 0 with h1 | h1
    · clear hbad
      go_enter Tryd.func14, Tryd.ntmps14
      go_wp2_with (go_at_call 36; ((with_reducible refine (C1.out _).mono ?_); rintro e w1 ⟨rfl, hw1⟩))
      all_goals
        ((show bodyPost _ _ _ _ _ _); refine bodyPost_ret (by simp only [results, Tryd.results14]; go_simp; try rfl) rfl ?_)
        exact ⟨rfl, by (repeat' (first | (with_reducible exact Below.refl _ _) | (with_reducible assumption) | (with_reducible refine Below.new ?_ _) | (with_reducible refine Below.alloc ?_ ?_ _) | (with_reducible refine Below.drew ?_) | (with_reducible refine Below.drewN ?_ _) | (with_reducible refine Below.setCell ?_ ?_ _) | (refine Below.step ?_ (by assumption)) | go_size))⟩
    · have h2 : 20000000000 < n := by omega
      clear hbad
      go_enter Tryd.func14, Tryd.ntmps14
      go_wp2_with (go_at_call 36; ((with_reducible refine (C1.out _).mono ?_); rintro e w1 ⟨rfl, hw1⟩))
      all_goals
        ((show bodyPost _ _ _ _ _ _); refine bodyPost_ret (by simp only [results, Tryd.results14]; go_simp; try rfl) rfl ?_)
        exact ⟨rfl, by (repeat' (first | (with_reducible exact Below.refl _ _) | (with_reducible assumption) | (with_reducible refine Below.new ?_ _) | (with_reducible refine Below.alloc ?_ ?_ _) | (with_reducible refine Below.drew ?_) | (with_reducible refine Below.drewN ?_ _) | (with_reducible refine Below.setCell ?_ ?_ _) | (refine Below.step ?_ (by assumption)) | go_size))⟩
  · have hg : ofBad n = false := of_good (by omega) (by omega)
    have h1 : 0 ≤ n := by omega
    have h2 : n ≤ 20000000000 := by omega
    have e2 : ofE n = 0 := by unfold ofE; rw [hg]; rfl
    rw [e2]
    by_cases hn0 : n = 0
    · subst hn0
      by_cases ha0 : a = 0
      · have e1 : ofF a 0 = 9221120237041090561 := by unfold ofF; rw [hg, ha0]; rfl
        rw [e1]
        have es : sgnI a 0 = 0 := sgn_eq ha0
        rw [es] at C1
        generalize hiW a = H at *; generalize loW a = L at *
        clear e1 e2 ha NG hg hbad es ha0 h1 h2 hn
        go_enter Tryd.func14, Tryd.ntmps14
        go_wp2_with (first
          | (go_at_call 36; ((with_reducible refine (C1.out _).mono ?_); rintro e w1 ⟨rfl, hw1⟩))
          | (go_at_call 37; ((with_reducible refine (nan_any _).mono ?_); rintro e w2 ⟨rfl, rfl⟩)))
        all_goals
          ((show bodyPost _ _ _ _ _ _); refine bodyPost_ret (by simp only [results, Tryd.results14]; go_simp; try rfl) rfl ?_)
          exact ⟨rfl, by (repeat' (first | (with_reducible exact Below.refl _ _) | (with_reducible assumption) | (with_reducible refine Below.new ?_ _) | (with_reducible refine Below.alloc ?_ ?_ _) | (with_reducible refine Below.drew ?_) | (with_reducible refine Below.drewN ?_ _) | (with_reducible refine Below.setCell ?_ ?_ _) | (refine Below.step ?_ (by assumption)) | go_size))⟩
      · have hs : sgnI a 0 ≠ 0 ∧ (decide (sgnI a 0 < 0) = decide (a < 0)) := by
          unfold sgnI
          rcases Int.lt_trichotomy a 0 with h | h | h
          · rw [if_pos h]; simp [h]
          · exact absurd h ha0
          · rw [if_neg (by omega), if_pos h]; simp; omega
        have e1 : ofF a 0 = Ieee.double.word (decide (sgnI a 0 < 0)) (2047 * 2 ^ 52) := by unfold ofF; rw [hg, hs.2]; simp [ha0]
        rw [e1]
        have hs1 := hs.1
        generalize hiW a = H at *; generalize loW a = L at *
        generalize sgnI a 0 = S at *
        have IN := hid (fun W => inf_any S W)
        generalize Ieee.double.word (decide (S < 0)) (2047 * 2 ^ 52) = Z at *
        clear e1 e2 ha NG hg hbad hs ha0 h1 h2 hn
        go_enter Tryd.func14, Tryd.ntmps14
        go_wp2_with (first
          | (go_at_call 36; ((with_reducible refine (C1.out _).mono ?_); rintro e w1 ⟨rfl, hw1⟩))
          | (go_at_call 38; ((with_reducible refine (IN.out _).mono ?_); rintro e w2 ⟨rfl, rfl⟩)))
        all_goals
          ((show bodyPost _ _ _ _ _ _); refine bodyPost_ret (by simp only [results, Tryd.results14]; go_simp; try rfl) rfl ?_)
          exact ⟨rfl, by (repeat' (first | (with_reducible exact Below.refl _ _) | (with_reducible assumption) | (with_reducible refine Below.new ?_ _) | (with_reducible refine Below.alloc ?_ ?_ _) | (with_reducible refine Below.drew ?_) | (with_reducible refine Below.drewN ?_ _) | (with_reducible refine Below.setCell ?_ ?_ _) | (refine Below.step ?_ (by assumption)) | go_size))⟩
    · obtain ⟨N, rfl⟩ := Int.eq_ofNat_of_zero_le h1
      have hN : 0 < N := by omega
      have hN2 : N ≤ 20000000000 := by omega
      by_cases ha0 : a = 0
      · have e1 : ofF a N = 0 := by unfold ofF; rw [hg, ha0]; rw [if_neg (by simp), if_neg hn0, if_pos rfl]
        rw [e1]
        have es : sgnI a 0 = 0 := sgn_eq ha0
        rw [es] at C1
        generalize hiW a = H at *; generalize loW a = L at *
        clear e1 e2 ha NG hg hbad es ha0 hn
        go_enter Tryd.func14, Tryd.ntmps14
        go_wp2_with (go_at_call 36; ((with_reducible refine (C1.out _).mono ?_); rintro e w1 ⟨rfl, hw1⟩))
        all_goals
          ((show bodyPost _ _ _ _ _ _); refine bodyPost_ret (by simp only [results, Tryd.results14]; go_simp; try rfl) rfl ?_)
          exact ⟨rfl, by (repeat' (first | (with_reducible exact Below.refl _ _) | (with_reducible assumption) | (with_reducible refine Below.new ?_ _) | (with_reducible refine Below.alloc ?_ ?_ _) | (with_reducible refine Below.drew ?_) | (with_reducible refine Below.drewN ?_ _) | (with_reducible refine Below.setCell ?_ ?_ _) | (refine Below.step ?_ (by assumption)) | go_size))⟩
      · have e1 : ofF a N = Ieee.double.word (decide (a < 0)) (ofR a.natAbs N) := by unfold ofF; rw [hg, if_neg (by simp), if_neg hn0, if_neg ha0]; rfl
        rw [e1]
        rcases Int.lt_or_le a 0 with hneg | hpos
        · have es : sgnI a 0 = -1 := sgn_lt hneg
          rw [es] at C1
          have D := hid (fun W => divided_words a.natAbs N (by omega) (by omega) hN hN2 W)
          have en : -a = (a.natAbs : Int) := by omega
          rw [en] at NG
          replace NG := hid NG
          have hr : ofR a.natAbs N < 2 ^ 63 := by have := (ofR_lt (A := a.natAbs) (n := N) (by omega) (by omega) hN (by omega)).2; omega
          have ef := neg_float hr
          rw [show decide (a < 0) = true by simp [hneg], ← ef]
          generalize ofR a.natAbs N = Z at *
          generalize a.natAbs = A at *
          generalize hiW a = H at *; generalize loW a = L at *
          generalize hiW (A : Int) = H2 at *; generalize loW (A : Int) = L2 at *
          clear e1 e2 ha hg hbad es ha0 hn en ef hr
          have s0 : (w.alloc (.cells #[.int .i64 H, .int .u64 L] 30)).cell? ⟨w.heap.size, 0, none⟩ = some (.int .i64 H) := by go_simp
          have s1 : (w.alloc (.cells #[.int .i64 H, .int .u64 L] 30)).cell? ⟨w.heap.size, 1, none⟩ = some (.int .u64 L) := by go_simp
          go_enter Tryd.func14, Tryd.ntmps14
          go_wp2_with (first
            | (go_at_call 36; go_loud ((with_reducible refine (C1.out _).mono ?_); rintro e w1 ⟨rfl, hw1⟩; have e0 := cell_step s0 hw1; have e1 := cell_step s1 hw1))
            | (go_at_call 40; ((with_reducible refine (NG.out _).mono ?_); rintro e w2 ⟨rfl, hw2⟩))
            | (go_at_call 39; ((with_reducible refine (D.out _).mono ?_); rintro e w3 ⟨rfl, hw3⟩)))
          all_goals
            ((show bodyPost _ _ _ _ _ _); refine bodyPost_ret (by simp only [results, Tryd.results14]; go_simp; try rfl) rfl ?_)
            exact ⟨rfl, by (repeat' (first | (with_reducible exact Below.refl _ _) | (with_reducible assumption) | (with_reducible refine Below.new ?_ _) | (with_reducible refine Below.alloc ?_ ?_ _) | (with_reducible refine Below.drew ?_) | (with_reducible refine Below.drewN ?_ _) | (with_reducible refine Below.setCell ?_ ?_ _) | (refine Below.step ?_ (by assumption)) | go_size))⟩
        · have es : sgnI a 0 = 1 := sgn_gt (by omega)
          rw [es] at C1
          have D := hid (fun W => divided_words a.natAbs N (by omega) (by omega) hN hN2 W)
          have en : (a.natAbs : Int) = a := by omega
          rw [en] at D
          rw [show decide (a < 0) = false by simp; omega, word_false]
          generalize ofR a.natAbs N = Z at *
          generalize hiW a = H at *; generalize loW a = L at *
          clear e1 e2 ha hg hbad es ha0 hn en NG
          have s0 : (w.alloc (.cells #[.int .i64 H, .int .u64 L] 30)).cell? ⟨w.heap.size, 0, none⟩ = some (.int .i64 H) := by go_simp
          have s1 : (w.alloc (.cells #[.int .i64 H, .int .u64 L] 30)).cell? ⟨w.heap.size, 1, none⟩ = some (.int .u64 L) := by go_simp
          go_enter Tryd.func14, Tryd.ntmps14
          go_wp2_with (first
            | (go_at_call 36; go_loud ((with_reducible refine (C1.out _).mono ?_); rintro e w1 ⟨rfl, hw1⟩; have e0 := cell_step s0 hw1; have e1 := cell_step s1 hw1))
            | (go_at_call 39; ((with_reducible refine (D.out _).mono ?_); rintro e w3 ⟨rfl, hw3⟩)))
          all_goals
            ((show bodyPost _ _ _ _ _ _); refine bodyPost_ret (by simp only [results, Tryd.results14]; go_simp; try rfl) rfl ?_)
            exact ⟨rfl, by (repeat' (first | (with_reducible exact Below.refl _ _) | (with_reducible assumption) | (with_reducible refine Below.new ?_ _) | (with_reducible refine Below.alloc ?_ ?_ _) | (with_reducible refine Below.drew ?_) | (with_reducible refine Below.drewN ?_ _) | (with_reducible refine Below.setCell ?_ ?_ _) | (refine Below.step ?_ (by assumption)) | go_size))⟩
theorem ratio_float (a : Int) (ha : I128 a) (w : World) :
    Calls Tryd.prog 19 #[(Value.agg #[.int .i64 (hiW (a)), .int .u64 (loW (a))])] w fun e w' => e = .returned (.float .f64 (ofF a 1)) ∧ Below w.heap.size w w' := by
  have O := hid (fun W => ratio_of a 1 ha (by decide) W)
  generalize ofF a 1 = Z at *
  generalize hiW a = H at *; generalize loW a = L at *
  clear ha
  go_enter Tryd.func19, Tryd.ntmps19
  go_wp2_with (go_at_call 14; ((with_reducible refine (O.out _).mono ?_); rintro e w1 ⟨rfl, hw1⟩))
  go_ret
  exact ⟨rfl, by (repeat' (first | (with_reducible exact Below.refl _ _) | (with_reducible assumption) | (with_reducible refine Below.new ?_ _) | (with_reducible refine Below.alloc ?_ ?_ _) | (with_reducible refine Below.drew ?_) | (with_reducible refine Below.drewN ?_ _) | (with_reducible refine Below.setCell ?_ ?_ _) | (refine Below.step ?_ (by assumption)) | go_size))⟩
end Go.Proofs.YtcdfbcmhikhnjaaDoor
