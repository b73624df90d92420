/- Contracts of package grain, more: the reference's spans that fit, coarser grains; the times of both spans. -/
import Derived.Test.YtekmcomddaoljaaGrainB
namespace Go.Proofs.Ytekmcomddaoljaa
set_option linter.unusedVariables false
set_option linter.unusedSimpArgs false
open Go.ChangeShapes Go.WideShapes Go.ChangeAt Go.RowKit

theorem refFits_any (f t g : Int) (w : World) :
    Calls Try.prog 28 #[.agg #[.int .i64 f, .int .i64 t], .int .i64 g] w fun e w' => e = .returned (.bool (fitsB f t g)) ∧ Below w.heap.size w w' := by
  by_cases hr : rightB f t = true
  · have hr' := (rightB_iff f t).1 hr
    by_cases hg : isGrainB g = true
    · have hg' := (isGrainB_iff g).1 hg
      have hV : fitsB f t g = (decide (f % g = 0) && (decide (t = 1000000000001) || decide (t % g = 0))) := by simp [fitsB, hr, hg]
      rw [hV]
      have H1 := hid hr; have H2 := hid hg; clear hr hg hV
      go_enter Try.func28, Try.ntmps28
      go_wp2_with (first
        | (go_at_call 27; refine (refRight_any _ _ _).mono ?_; rintro e w1 ⟨rfl, hb1⟩; rw [H1.out]; obtain ⟨hc1, hf1, hk1, hz1⟩ := bcell3 hb1; (try simp only [World.size_alloc] at hz1))
        | (go_at_call 56; refine (refIsGrain_any _ _).mono ?_; rintro e w' ⟨rfl, rfl⟩; rw [H2.out]))
      all_goals go_ret
      all_goals exact ⟨ret_bool (by first | (simp [*]; done) | grind), by (repeat' (first | (with_reducible exact Below.refl _ _) | (with_reducible assumption) | (with_reducible refine Below.new ?_ _) | (with_reducible refine Below.alloc ?_ ?_ _) | (with_reducible refine Below.drew ?_) | (with_reducible refine Below.setCell ?_ ?_ _) | (refine Below.step ?_ (by assumption)) | go_size))⟩
    · have hV : fitsB f t g = false := by simp [fitsB, hg]
      rw [hV]
      have H1 := hid hr; have H2 := hid (Bool.eq_false_iff.2 hg); clear hr hg hV
      go_enter Try.func28, Try.ntmps28
      go_wp2_with (first
        | (go_at_call 27; refine (refRight_any _ _ _).mono ?_; rintro e w1 ⟨rfl, hb1⟩; rw [H1.out]; obtain ⟨hc1, hf1, hk1, hz1⟩ := bcell3 hb1; (try simp only [World.size_alloc] at hz1))
        | (go_at_call 56; refine (refIsGrain_any _ _).mono ?_; rintro e w' ⟨rfl, rfl⟩; rw [H2.out]))
      go_ret
      exact ⟨rfl, by (repeat' (first | (with_reducible exact Below.refl _ _) | (with_reducible assumption) | (with_reducible refine Below.new ?_ _) | (with_reducible refine Below.alloc ?_ ?_ _) | (with_reducible refine Below.drew ?_) | (with_reducible refine Below.setCell ?_ ?_ _) | (refine Below.step ?_ (by assumption)) | go_size))⟩
  · have hV : fitsB f t g = false := by simp [fitsB, hr]
    rw [hV]
    have H1 := hid (Bool.eq_false_iff.2 hr); clear hr hV
    go_enter Try.func28, Try.ntmps28
    go_wp2_with (go_at_call 27; refine (refRight_any _ _ _).mono ?_; rintro e w1 ⟨rfl, hb1⟩; rw [H1.out]; obtain ⟨hc1, hf1, hk1, hz1⟩ := bcell3 hb1; (try simp only [World.size_alloc] at hz1))
    go_ret
    exact ⟨rfl, by (repeat' (first | (with_reducible exact Below.refl _ _) | (with_reducible assumption) | (with_reducible refine Below.new ?_ _) | (with_reducible refine Below.alloc ?_ ?_ _) | (with_reducible refine Below.drew ?_) | (with_reducible refine Below.setCell ?_ ?_ _) | (refine Below.step ?_ (by assumption)) | go_size))⟩

theorem refCoarser_any (a b : Int) (w : World) :
    Calls Try.prog 26 #[.int .i64 a, .int .i64 b] w fun e w' => e = .returned (.bool (coarserB a b)) ∧ w = w' := by
  by_cases ha : isGrainB a = true
  · have ha' := (isGrainB_iff a).1 ha
    by_cases hb : isGrainB b = true
    · have hb' := (isGrainB_iff b).1 hb
      have hV : coarserB a b = decide (b % a = 0) := by simp [coarserB, ha, hb]
      rw [hV]
      have H1 := hid ha; have H2 := hid hb; clear ha hb hV
      go_enter Try.func26, Try.ntmps26
      go_wp2_with (go_at_call 56; refine (refIsGrain_any _ _).mono ?_; rintro e w' ⟨rfl, rfl⟩; first | rw [H1.out] | rw [H2.out])
      all_goals go_ret
      all_goals exact ⟨ret_bool (by first | (simp [*]; done) | grind), rfl⟩
    · have hV : coarserB a b = false := by simp [coarserB, hb]
      rw [hV]
      have H1 := hid ha; have H2 := hid (Bool.eq_false_iff.2 hb); clear ha hb hV
      go_enter Try.func26, Try.ntmps26
      go_wp2_with (go_at_call 56; refine (refIsGrain_any _ _).mono ?_; rintro e w' ⟨rfl, rfl⟩; first | rw [H1.out] | rw [H2.out])
      all_goals go_ret
      all_goals exact ⟨rfl, rfl⟩
  · have hV : coarserB a b = false := by simp [coarserB, ha]
    rw [hV]
    have H1 := hid (Bool.eq_false_iff.2 ha); clear ha hV
    go_enter Try.func26, Try.ntmps26
    go_wp2_with (go_at_call 56; refine (refIsGrain_any _ _).mono ?_; rintro e w' ⟨rfl, rfl⟩; rw [H1.out])
    all_goals go_ret
    all_goals exact ⟨rfl, rfl⟩

/-- The span of the times of both. -/
def bothF (a b c d : Int) : Int := if (rightB a b && rightB c d) = true then max a c else 0
def bothT (a b c d : Int) : Int := if (rightB a b && rightB c d) = true then max (max a c) (min b d) else 0
def bothE (a b c d : Int) : Int := if (rightB a b && rightB c d) = true then 0 else 110

theorem ret_span {a b c d e f : Int} (h1 : a = b) (h2 : c = d) (h3 : e = f) : Ending.returned (.tuple #[.agg #[.int .i64 a, .int .i64 c], .int .i64 e]) = .returned (.tuple #[.agg #[.int .i64 b, .int .i64 d], .int .i64 f]) := by rw [h1, h2, h3]

set_option maxHeartbeats 1000000 in
theorem both_any (a b c d : Int) (w : World) :
    Calls Try.prog 35 #[.agg #[.int .i64 a, .int .i64 b], .agg #[.int .i64 c, .int .i64 d]] w fun e w' => e = .returned (.tuple #[.agg #[.int .i64 (bothF a b c d), .int .i64 (bothT a b c d)], .int .i64 (bothE a b c d)]) ∧ Below w.heap.size w w' := by
  cases h1 : rightB a b with
  | true =>
    cases h2 : rightB c d with
    | true =>
      have hV : bothF a b c d = max a c := by simp [bothF, h1, h2]
      have hT : bothT a b c d = max (max a c) (min b d) := by simp [bothT, h1, h2]
      have hE : bothE a b c d = 0 := by simp [bothE, h1, h2]
      rw [hV, hT, hE]
      have g1 := (rightB_iff a b).1 h1; have g2 := (rightB_iff c d).1 h2
      have H1 := hid h1; have H2 := hid h2; clear h1 h2 hV hT hE
      have hmax := ite_max; have hmin := ite_min
      go_enter Try.func35, Try.ntmps35
      go_wp2
      refine wp_scope_fwd ?_
      go_wp2_with (go_at_call 23; ((with_reducible refine (right_any _ _ _).mono ?_); rintro e w1 ⟨rfl, hb⟩; first | (rw [H1.out]; obtain ⟨hc1, hf1, hk1, hz1⟩ := bcell3 hb; (try simp only [World.size_alloc] at hz1); have : w.heap.size < w1.heap.size := (by omega); have : w.heap.size + 1 < w1.heap.size := (by omega); have : w.heap.size + 1 + 1 < w1.heap.size := (by omega); have : w.heap.size + 1 + 1 + 1 < w1.heap.size := (by omega)) | (rw [H2.out]; obtain ⟨hc2, hf2, hk2, hz2⟩ := bcell3 hb; (try simp only [World.size_alloc] at hz2); have : w.heap.size < w1.heap.size := (by omega); have : w.heap.size + 1 < w1.heap.size := (by omega); have : w.heap.size + 1 + 1 < w1.heap.size := (by omega); have : w.heap.size + 1 + 1 + 1 < w1.heap.size := (by omega))))
      all_goals ((first | rw [jumpFwd_ret] | rw [Exit.noGoto_ret] | skip); ((show bodyPost _ _ _ _ _ _); refine bodyPost_ret (by simp only [results, Try.results35]; go_simp; try rfl) rfl ?_))
      all_goals exact ⟨ret_span (by omega) (by omega) rfl, by (repeat' (first | (with_reducible exact Below.refl _ _) | (with_reducible assumption) | (with_reducible refine Below.new ?_ _) | (with_reducible refine Below.alloc ?_ ?_ _) | (with_reducible refine Below.drew ?_) | (with_reducible refine Below.setCell ?_ ?_ _) | (refine Below.step ?_ (by assumption)) | go_size))⟩
    | false =>
      have hV : bothF a b c d = 0 := by simp [bothF, h2]
      have hT : bothT a b c d = 0 := by simp [bothT, h2]
      have hE : bothE a b c d = 110 := by simp [bothE, h2]
      rw [hV, hT, hE]
      have H1 := hid h1; have H2 := hid h2; clear h1 h2 hV hT hE
      go_enter Try.func35, Try.ntmps35
      go_wp2
      refine wp_scope_fwd ?_
      go_wp2_with (go_at_call 23; ((with_reducible refine (right_any _ _ _).mono ?_); rintro e w1 ⟨rfl, hb⟩; first | (rw [H1.out]; obtain ⟨hc1, hf1, hk1, hz1⟩ := bcell3 hb; (try simp only [World.size_alloc] at hz1); have : w.heap.size < w1.heap.size := (by omega); have : w.heap.size + 1 < w1.heap.size := (by omega); have : w.heap.size + 1 + 1 < w1.heap.size := (by omega); have : w.heap.size + 1 + 1 + 1 < w1.heap.size := (by omega)) | (rw [H2.out]; obtain ⟨hc2, hf2, hk2, hz2⟩ := bcell3 hb; (try simp only [World.size_alloc] at hz2); have : w.heap.size < w1.heap.size := (by omega); have : w.heap.size + 1 < w1.heap.size := (by omega); have : w.heap.size + 1 + 1 < w1.heap.size := (by omega); have : w.heap.size + 1 + 1 + 1 < w1.heap.size := (by omega))))
      (refine wp_goto ?_; go_step; refine jumpFwd_goto rfl ?_; go_wp2)
      all_goals ((first | rw [jumpFwd_ret] | rw [Exit.noGoto_ret] | skip); ((show bodyPost _ _ _ _ _ _); refine bodyPost_ret (by simp only [results, Try.results35]; go_simp; try rfl) rfl ?_))
      all_goals exact ⟨rfl, by (repeat' (first | (with_reducible exact Below.refl _ _) | (with_reducible assumption) | (with_reducible refine Below.new ?_ _) | (with_reducible refine Below.alloc ?_ ?_ _) | (with_reducible refine Below.drew ?_) | (with_reducible refine Below.setCell ?_ ?_ _) | (refine Below.step ?_ (by assumption)) | go_size))⟩
  | false =>
    have hV : bothF a b c d = 0 := by simp [bothF, h1]
    have hT : bothT a b c d = 0 := by simp [bothT, h1]
    have hE : bothE a b c d = 110 := by simp [bothE, h1]
    rw [hV, hT, hE]
    have H1 := hid h1; clear h1 hV hT hE
    go_enter Try.func35, Try.ntmps35
    go_wp2
    refine wp_scope_fwd ?_
    go_wp2_with (go_at_call 23; ((with_reducible refine (right_any _ _ _).mono ?_); rintro e w1 ⟨rfl, hb⟩; (rw [H1.out]; obtain ⟨hc1, hf1, hk1, hz1⟩ := bcell3 hb; (try simp only [World.size_alloc] at hz1); have : w.heap.size < w1.heap.size := (by omega); have : w.heap.size + 1 < w1.heap.size := (by omega); have : w.heap.size + 1 + 1 < w1.heap.size := (by omega); have : w.heap.size + 1 + 1 + 1 < w1.heap.size := (by omega))))
    (refine wp_goto ?_; go_step; refine jumpFwd_goto rfl ?_; go_wp2)
    all_goals ((first | rw [jumpFwd_ret] | rw [Exit.noGoto_ret] | skip); ((show bodyPost _ _ _ _ _ _); refine bodyPost_ret (by simp only [results, Try.results35]; go_simp; try rfl) rfl ?_))
    all_goals exact ⟨rfl, by (repeat' (first | (with_reducible exact Below.refl _ _) | (with_reducible assumption) | (with_reducible refine Below.new ?_ _) | (with_reducible refine Below.alloc ?_ ?_ _) | (with_reducible refine Below.drew ?_) | (with_reducible refine Below.setCell ?_ ?_ _) | (refine Below.step ?_ (by assumption)) | go_size))⟩

set_option maxHeartbeats 1000000 in
theorem refBoth_any (a b c d : Int) (w : World) :
    Calls Try.prog 36 #[.agg #[.int .i64 a, .int .i64 b], .agg #[.int .i64 c, .int .i64 d]] w fun e w' => e = .returned (.tuple #[.agg #[.int .i64 (bothF a b c d), .int .i64 (bothT a b c d)], .int .i64 (bothE a b c d)]) ∧ Below w.heap.size w w' := by
  cases h1 : rightB a b with
  | true =>
    cases h2 : rightB c d with
    | true =>
      have hV : bothF a b c d = max a c := by simp [bothF, h1, h2]
      have hT : bothT a b c d = max (max a c) (min b d) := by simp [bothT, h1, h2]
      have hE : bothE a b c d = 0 := by simp [bothE, h1, h2]
      rw [hV, hT, hE]
      have g1 := (rightB_iff a b).1 h1; have g2 := (rightB_iff c d).1 h2
      have H1 := hid h1; have H2 := hid h2; clear h1 h2 hV hT hE
      have hmax := ite_max; have hmin := ite_min
      go_enter Try.func36, Try.ntmps36
      go_wp2_with (go_at_call 27; ((with_reducible refine (refRight_any _ _ _).mono ?_); rintro e w1 ⟨rfl, hb⟩; first | (rw [H1.out]; obtain ⟨hc1, hf1, hk1, hz1⟩ := bcell3 hb; (try simp only [World.size_alloc] at hz1); have : w.heap.size < w1.heap.size := (by omega); have : w.heap.size + 1 < w1.heap.size := (by omega); have : w.heap.size + 1 + 1 < w1.heap.size := (by omega)) | (rw [H2.out]; obtain ⟨hc2, hf2, hk2, hz2⟩ := bcell3 hb; (try simp only [World.size_alloc] at hz2); have : w.heap.size < w1.heap.size := (by omega); have : w.heap.size + 1 < w1.heap.size := (by omega); have : w.heap.size + 1 + 1 < w1.heap.size := (by omega))))
      ((show bodyPost _ _ _ _ _ _); refine bodyPost_ret (by simp only [results, Try.results36]; go_simp; try rfl) rfl ?_)
      exact ⟨ret_span (by omega) (by omega) rfl, by (repeat' (first | (with_reducible exact Below.refl _ _) | (with_reducible assumption) | (with_reducible refine Below.new ?_ _) | (with_reducible refine Below.alloc ?_ ?_ _) | (with_reducible refine Below.drew ?_) | (with_reducible refine Below.setCell ?_ ?_ _) | (refine Below.step ?_ (by assumption)) | go_size))⟩
    | false =>
      have hV : bothF a b c d = 0 := by simp [bothF, h2]
      have hT : bothT a b c d = 0 := by simp [bothT, h2]
      have hE : bothE a b c d = 110 := by simp [bothE, h2]
      rw [hV, hT, hE]
      have H1 := hid h1; have H2 := hid h2; clear h1 h2 hV hT hE
      go_enter Try.func36, Try.ntmps36
      go_wp2_with (go_at_call 27; ((with_reducible refine (refRight_any _ _ _).mono ?_); rintro e w1 ⟨rfl, hb⟩; first | (rw [H1.out]; obtain ⟨hc1, hf1, hk1, hz1⟩ := bcell3 hb; (try simp only [World.size_alloc] at hz1); have : w.heap.size < w1.heap.size := (by omega); have : w.heap.size + 1 < w1.heap.size := (by omega); have : w.heap.size + 1 + 1 < w1.heap.size := (by omega)) | (rw [H2.out]; obtain ⟨hc2, hf2, hk2, hz2⟩ := bcell3 hb; (try simp only [World.size_alloc] at hz2); have : w.heap.size < w1.heap.size := (by omega); have : w.heap.size + 1 < w1.heap.size := (by omega); have : w.heap.size + 1 + 1 < w1.heap.size := (by omega))))
      all_goals ((show bodyPost _ _ _ _ _ _); refine bodyPost_ret (by simp only [results, Try.results36]; go_simp; try rfl) rfl ?_)
      all_goals exact ⟨rfl, by (repeat' (first | (with_reducible exact Below.refl _ _) | (with_reducible assumption) | (with_reducible refine Below.new ?_ _) | (with_reducible refine Below.alloc ?_ ?_ _) | (with_reducible refine Below.drew ?_) | (with_reducible refine Below.setCell ?_ ?_ _) | (refine Below.step ?_ (by assumption)) | go_size))⟩
  | false =>
    have hV : bothF a b c d = 0 := by simp [bothF, h1]
    have hT : bothT a b c d = 0 := by simp [bothT, h1]
    have hE : bothE a b c d = 110 := by simp [bothE, h1]
    rw [hV, hT, hE]
    have H1 := hid h1; clear h1 hV hT hE
    go_enter Try.func36, Try.ntmps36
    go_wp2_with (go_at_call 27; ((with_reducible refine (refRight_any _ _ _).mono ?_); rintro e w1 ⟨rfl, hb⟩; (rw [H1.out]; obtain ⟨hc1, hf1, hk1, hz1⟩ := bcell3 hb; (try simp only [World.size_alloc] at hz1); have : w.heap.size < w1.heap.size := (by omega); have : w.heap.size + 1 < w1.heap.size := (by omega); have : w.heap.size + 1 + 1 < w1.heap.size := (by omega))))
    all_goals ((show bodyPost _ _ _ _ _ _); refine bodyPost_ret (by simp only [results, Try.results36]; go_simp; try rfl) rfl ?_)
    all_goals exact ⟨rfl, by (repeat' (first | (with_reducible exact Below.refl _ _) | (with_reducible assumption) | (with_reducible refine Below.new ?_ _) | (with_reducible refine Below.alloc ?_ ?_ _) | (with_reducible refine Below.drew ?_) | (with_reducible refine Below.setCell ?_ ?_ _) | (refine Below.step ?_ (by assumption)) | go_size))⟩
end Go.Proofs.Ytekmcomddaoljaa
