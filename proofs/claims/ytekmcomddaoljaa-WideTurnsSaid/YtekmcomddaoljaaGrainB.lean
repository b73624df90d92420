/- Contracts of package grain: times cut, which grains are coarser, spans that fit and have a time; and of their references. -/
import Derived.Test.YtekmcomddaoljaaGrainA
namespace Go.Proofs.Ytekmcomddaoljaa
set_option linter.unusedVariables false
set_option linter.unusedSimpArgs false
open Go.ChangeShapes Go.WideShapes Go.ChangeAt Go.RowKit

def cutV (t g : Int) : Int := if (isTimeB t && isGrainB g) = true then t - t % g else 0
def cutE (t g : Int) : Int := if (isTimeB t && isGrainB g) = true then 0 else 110
def coarserB (a b : Int) : Bool := isGrainB a && isGrainB b && decide (b % a = 0)
def fitsB (f t g : Int) : Bool := rightB f t && isGrainB g && decide (f % g = 0) && (decide (t = 1000000000001) || decide (t % g = 0))
def hasB (f t x : Int) : Bool := rightB f t && decide (f ≤ x) && decide (x < t)

theorem isTimeB_iff (t : Int) : isTimeB t = true ↔ 0 ≤ t ∧ t < 1000000000001 := by simp [isTimeB]
theorem isGrainB_iff (t : Int) : isGrainB t = true ↔ 1 ≤ t ∧ t ≤ 1000000000 := by simp [isGrainB]
theorem rightB_iff (f t : Int) : rightB f t = true ↔ 0 ≤ f ∧ f ≤ t ∧ t ≤ 1000000000001 := by simp [rightB, and_assoc]

theorem one_cell (w : World) (g : Int) (T : TypeId) : ∀ j, j < [g].length → (w.alloc (.cells #[.int .i64 g] T)).cell? ⟨w.heap.size, 0 + j, none⟩ = some (.int .i64 ([g][j]?.getD 0)) := by
  intro j hj
  obtain rfl : j = 0 := by simpa using hj
  simp

theorem two_cells (w : World) (g h : Int) (T : TypeId) : ∀ j, j < [g, h].length → (w.alloc (.cells #[.int .i64 g, .int .i64 h] T)).cell? ⟨w.heap.size, 0 + j, none⟩ = some (.int .i64 ([g, h][j]?.getD 0)) := by
  intro j hj
  match j, hj with
  | 0, _ => simp
  | 1, _ => simp

theorem cut_any (t g : Int) (w : World) :
    Calls Try.prog 19 #[.int .i64 t, .int .i64 g] w fun e w' => e = .returned (.tuple #[.int .i64 (cutV t g), .int .i64 (cutE t g)]) ∧ Below w.heap.size w w' := by
  have one := one_cell
  by_cases ht : isTimeB t = true
  · have ht' := (isTimeB_iff t).1 ht
    by_cases hg : isGrainB g = true
    · have hg' := (isGrainB_iff g).1 hg
      have hm := Int.emod_nonneg t (b := g) (by omega)
      have hm2 := Int.emod_lt_of_pos t (b := g) (by omega)
      have hV : cutV t g = t - t % g := by simp [cutV, ht, hg]
      have hE : cutE t g = 0 := by simp [cutE, ht, hg]
      rw [hV, hE]
      have H1 := hid ht; have H2 := hid hg; clear ht hg hV hE one
      go_enter Try.func19, Try.ntmps19
      go_wp2_with (first
        | (go_at_call 52; refine (isTime_any _ _).mono ?_; rintro e w' ⟨rfl, rfl⟩; rw [H1.out])
        | (go_at_call 53; refine (areGrains_any [g] _ 0 _ _ (by simp) (by simp) (one_cell _ _ _)).mono ?_; rintro e w' ⟨rfl, rfl⟩; simp only [List.all_cons, List.all_nil, Bool.and_true, H2.out]))
      go_ret2
      exact ⟨rfl, by go_grown⟩
    · have hV : cutV t g = 0 := by simp [cutV, hg]
      have hE : cutE t g = 110 := by simp [cutE, hg]
      rw [hV, hE]
      have H1 := hid ht; have H2 := hid (Bool.eq_false_iff.2 hg); clear ht hg hV hE one
      go_enter Try.func19, Try.ntmps19
      go_wp2_with (first
        | (go_at_call 52; refine (isTime_any _ _).mono ?_; rintro e w' ⟨rfl, rfl⟩; rw [H1.out])
        | (go_at_call 53; refine (areGrains_any [g] _ 0 _ _ (by simp) (by simp) (one_cell _ _ _)).mono ?_; rintro e w' ⟨rfl, rfl⟩; simp only [List.all_cons, List.all_nil, Bool.and_true, H2.out]))
      go_ret2
      exact ⟨rfl, by go_grown⟩
  · have hV : cutV t g = 0 := by simp [cutV, ht]
    have hE : cutE t g = 110 := by simp [cutE, ht]
    rw [hV, hE]
    have H1 := hid (Bool.eq_false_iff.2 ht); clear ht hV hE one
    go_enter Try.func19, Try.ntmps19
    go_wp2_with (go_at_call 52; refine (isTime_any _ _).mono ?_; rintro e w' ⟨rfl, rfl⟩; rw [H1.out])
    go_ret2
    exact ⟨rfl, by go_grown⟩

theorem refCut_any (t g : Int) (w : World) :
    Calls Try.prog 25 #[.int .i64 t, .int .i64 g] w fun e w' => e = .returned (.tuple #[.int .i64 (cutV t g), .int .i64 (cutE t g)]) ∧ w = w' := by
  by_cases ht : isTimeB t = true
  · have ht' := (isTimeB_iff t).1 ht
    by_cases hg : isGrainB g = true
    · have hg' := (isGrainB_iff g).1 hg
      have hd : t / g * g + t % g = t := by rw [Int.mul_comm]; exact Int.mul_ediv_add_emod t g
      have hm := Int.emod_nonneg t (b := g) (by omega)
      have hm2 := Int.emod_lt_of_pos t (b := g) (by omega)
      have hV : cutV t g = t / g * g := by
        rw [cutV, if_pos (by simp [ht, hg])]; omega
      have hE : cutE t g = 0 := by simp [cutE, ht, hg]
      have hB1 : 0 ≤ t / g := Int.ediv_nonneg (by omega) (by omega)
      have hB2 : 0 ≤ t / g * g := Int.mul_nonneg hB1 (by omega)
      have hB3 : t / g * g ≤ 1000000000001 := by omega
      rw [hV, hE]
      have H1 := hid ht; have H2 := hid hg; clear ht hg hV hE hd hm hm2
      go_enter Try.func25, Try.ntmps25
      go_wp2_with (first
        | (go_at_call 55; refine (refIsTime_any _ _).mono ?_; rintro e w' ⟨rfl, rfl⟩; rw [H1.out])
        | (go_at_call 56; refine (refIsGrain_any _ _).mono ?_; rintro e w' ⟨rfl, rfl⟩; rw [H2.out]))
      go_ret2
      exact ⟨rfl, rfl⟩
    · have hV : cutV t g = 0 := by simp [cutV, hg]
      have hE : cutE t g = 110 := by simp [cutE, hg]
      rw [hV, hE]
      have H1 := hid ht; have H2 := hid (Bool.eq_false_iff.2 hg); clear ht hg hV hE
      go_enter Try.func25, Try.ntmps25
      go_wp2_with (first
        | (go_at_call 55; refine (refIsTime_any _ _).mono ?_; rintro e w' ⟨rfl, rfl⟩; rw [H1.out])
        | (go_at_call 56; refine (refIsGrain_any _ _).mono ?_; rintro e w' ⟨rfl, rfl⟩; rw [H2.out]))
      go_ret2
      exact ⟨rfl, rfl⟩
  · have hV : cutV t g = 0 := by simp [cutV, ht]
    have hE : cutE t g = 110 := by simp [cutE, ht]
    rw [hV, hE]
    have H1 := hid (Bool.eq_false_iff.2 ht); clear ht hV hE
    go_enter Try.func25, Try.ntmps25
    go_wp2_with (go_at_call 55; refine (refIsTime_any _ _).mono ?_; rintro e w' ⟨rfl, rfl⟩; rw [H1.out])
    go_ret2
    exact ⟨rfl, rfl⟩

theorem coarser_any (a b : Int) (w : World) :
    Calls Try.prog 20 #[.int .i64 a, .int .i64 b] w fun e w' => e = .returned (.bool (coarserB a b)) ∧ Below w.heap.size w w' := by
  by_cases h : (isGrainB a && isGrainB b) = true
  · have h1 := (isGrainB_iff a).1 (by simp at h; exact h.1)
    have h2 := (isGrainB_iff b).1 (by simp at h; exact h.2)
    have hV : coarserB a b = decide (b % a = 0) := by simp [coarserB, h]
    rw [hV]
    have H1 := hid h; clear h hV
    go_enter Try.func20, Try.ntmps20
    go_wp2_with (go_at_call 53; refine (areGrains_any [a, b] _ 0 _ _ (by simp) (by simp) (two_cells _ _ _ _)).mono ?_; rintro e w' ⟨rfl, rfl⟩; simp only [List.all_cons, List.all_nil, Bool.and_true, H1.out])
    go_ret
    exact ⟨ret_bool (by first | rfl | simp), by go_grown⟩
  · have hV : coarserB a b = false := by simp [coarserB, Bool.eq_false_iff.2 h]
    rw [hV]
    have H1 := hid (Bool.eq_false_iff.2 h); clear h hV
    go_enter Try.func20, Try.ntmps20
    go_wp2_with (go_at_call 53; refine (areGrains_any [a, b] _ 0 _ _ (by simp) (by simp) (two_cells _ _ _ _)).mono ?_; rintro e w' ⟨rfl, rfl⟩; simp only [List.all_cons, List.all_nil, Bool.and_true, H1.out])
    go_ret
    exact ⟨rfl, by go_grown⟩

theorem fits_any (f t g : Int) (w : World) :
    Calls Try.prog 21 #[.agg #[.int .i64 f, .int .i64 t], .int .i64 g] w fun e w' => e = .returned (.bool (fitsB f t g)) ∧ Below w.heap.size w w' := by
  by_cases hr : rightB f t = true
  · have hr' := (rightB_iff f t).1 hr
    by_cases hg : isGrainB g = true
    · have hg' := (isGrainB_iff g).1 hg
      have hV : fitsB f t g = (decide (f % g = 0) && (decide (t = 1000000000001) || decide (t % g = 0))) := by simp [fitsB, hr, hg]
      rw [hV]
      have H1 := hid hr; have H2 := hid hg; clear hr hg hV
      go_enter Try.func21, Try.ntmps21
      go_wp2_with (first
        | (go_at_call 23; refine (right_any _ _ _).mono ?_; rintro e w1 ⟨rfl, hb1⟩; rw [H1.out]; obtain ⟨hc1, hf1, hk1, hz1⟩ := bcell3 hb1; (try simp only [World.size_alloc] at hz1))
        | (go_at_call 53; refine (areGrains_any [g] _ 0 _ _ (by simp) (by simp) (one_cell _ _ _)).mono ?_; rintro e w' ⟨rfl, rfl⟩; simp only [List.all_cons, List.all_nil, Bool.and_true, H2.out]))
      all_goals go_ret
      all_goals exact ⟨ret_bool (by first | (simp [*]; done) | grind), by (repeat' (first | (with_reducible exact Below.refl _ _) | (with_reducible assumption) | (with_reducible refine Below.new ?_ _) | (with_reducible refine Below.alloc ?_ ?_ _) | (with_reducible refine Below.drew ?_) | (with_reducible refine Below.setCell ?_ ?_ _) | (refine Below.step ?_ (by assumption)) | go_size))⟩
    · have hV : fitsB f t g = false := by simp [fitsB, hg]
      rw [hV]
      have H1 := hid hr; have H2 := hid (Bool.eq_false_iff.2 hg); clear hr hg hV
      go_enter Try.func21, Try.ntmps21
      go_wp2_with (first
        | (go_at_call 23; refine (right_any _ _ _).mono ?_; rintro e w1 ⟨rfl, hb1⟩; rw [H1.out]; obtain ⟨hc1, hf1, hk1, hz1⟩ := bcell3 hb1; (try simp only [World.size_alloc] at hz1))
        | (go_at_call 53; refine (areGrains_any [g] _ 0 _ _ (by simp) (by simp) (one_cell _ _ _)).mono ?_; rintro e w' ⟨rfl, rfl⟩; simp only [List.all_cons, List.all_nil, Bool.and_true, H2.out]))
      go_ret
      exact ⟨rfl, by (repeat' (first | (with_reducible exact Below.refl _ _) | (with_reducible assumption) | (with_reducible refine Below.new ?_ _) | (with_reducible refine Below.alloc ?_ ?_ _) | (with_reducible refine Below.drew ?_) | (with_reducible refine Below.setCell ?_ ?_ _) | (refine Below.step ?_ (by assumption)) | go_size))⟩
  · have hV : fitsB f t g = false := by simp [fitsB, hr]
    rw [hV]
    have H1 := hid (Bool.eq_false_iff.2 hr); clear hr hV
    go_enter Try.func21, Try.ntmps21
    go_wp2_with (go_at_call 23; refine (right_any _ _ _).mono ?_; rintro e w1 ⟨rfl, hb1⟩; rw [H1.out]; obtain ⟨hc1, hf1, hk1, hz1⟩ := bcell3 hb1; (try simp only [World.size_alloc] at hz1))
    go_ret
    exact ⟨rfl, by (repeat' (first | (with_reducible exact Below.refl _ _) | (with_reducible assumption) | (with_reducible refine Below.new ?_ _) | (with_reducible refine Below.alloc ?_ ?_ _) | (with_reducible refine Below.drew ?_) | (with_reducible refine Below.setCell ?_ ?_ _) | (refine Below.step ?_ (by assumption)) | go_size))⟩

theorem has_any (f t x : Int) (w : World) :
    Calls Try.prog 22 #[.agg #[.int .i64 f, .int .i64 t], .int .i64 x] w fun e w' => e = .returned (.bool (hasB f t x)) ∧ Below w.heap.size w w' := by
  go_enter Try.func22, Try.ntmps22
  go_wp2_with (go_at_call 23; refine (right_any _ _ _).mono ?_; rintro e w1 ⟨rfl, hb1⟩; obtain ⟨hc1, hf1, hk1, hz1⟩ := bcell3 hb1; (try simp only [World.size_alloc] at hz1))
  all_goals go_ret
  all_goals exact ⟨ret_bool (by simp [hasB]; grind), by (repeat' (first | (with_reducible exact Below.refl _ _) | (with_reducible assumption) | (with_reducible refine Below.new ?_ _) | (with_reducible refine Below.alloc ?_ ?_ _) | (with_reducible refine Below.drew ?_) | (with_reducible refine Below.setCell ?_ ?_ _) | (refine Below.step ?_ (by assumption)) | go_size))⟩

theorem refRight_any (f t : Int) (w : World) :
    Calls Try.prog 27 #[.agg #[.int .i64 f, .int .i64 t]] w fun e w' => e = .returned (.bool (rightB f t)) ∧ Below w.heap.size w w' := by
  go_enter Try.func27, Try.ntmps27
  go_wp2
  all_goals go_ret
  all_goals exact ⟨ret_bool (by simp [rightB]; grind), by (repeat' (first | (with_reducible exact Below.refl _ _) | (with_reducible assumption) | (with_reducible refine Below.new ?_ _) | (with_reducible refine Below.alloc ?_ ?_ _) | (with_reducible refine Below.drew ?_) | (with_reducible refine Below.setCell ?_ ?_ _) | (refine Below.step ?_ (by assumption)) | go_size))⟩

theorem refHas_any (f t x : Int) (w : World) :
    Calls Try.prog 29 #[.agg #[.int .i64 f, .int .i64 t], .int .i64 x] w fun e w' => e = .returned (.bool (hasB f t x)) ∧ Below w.heap.size w w' := by
  go_enter Try.func29, Try.ntmps29
  go_wp2_with (go_at_call 27; refine (refRight_any _ _ _).mono ?_; rintro e w1 ⟨rfl, hb1⟩; obtain ⟨hc1, hf1, hk1, hz1⟩ := bcell3 hb1; (try simp only [World.size_alloc] at hz1))
  all_goals go_ret
  all_goals exact ⟨ret_bool (by simp [hasB]; grind), by (repeat' (first | (with_reducible exact Below.refl _ _) | (with_reducible assumption) | (with_reducible refine Below.new ?_ _) | (with_reducible refine Below.alloc ?_ ?_ _) | (with_reducible refine Below.drew ?_) | (with_reducible refine Below.setCell ?_ ?_ _) | (refine Below.step ?_ (by assumption)) | go_size))⟩
end Go.Proofs.Ytekmcomddaoljaa
