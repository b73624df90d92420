/- GrainCuts holds: the program cuts times, tells which grains are coarser, which spans are right, fit, have a time, as the reference does. No condition. -/
import Derived.Test.YtekmcomddaoljaaGrainS
import Derived.Test.YtekmcomddaoljaaOpenA
import Derived.Deep.RegionHeld3
namespace Go.Proofs.Ytekmcomddaoljaa
set_option linter.unusedVariables false
set_option linter.unusedSimpArgs false
open Go.ChangeShapes Go.WideShapes Go.ChangeAt Go.RowKit Go.Joins

theorem refCoarser_b (a b : Int) (w : World) :
    Calls Try.prog 26 #[.int .i64 a, .int .i64 b] w fun e w' => e = .returned (.bool (coarserB a b)) ∧ Below w.heap.size w w' :=
  (refCoarser_any a b w).mono fun e w' h => ⟨h.1, h.2 ▸ Below.refl _ _⟩

set_option maxHeartbeats 4000000 in
theorem GrainCuts_walk (x : Int) (hx : I64 x) (g : Int) (hg : I64 g) (h : Int) (hh : I64 h) (f t : Int) (hf : I64 f) (ht : I64 t) (w : World) :
    Calls Try.prog 7 #[.int .i64 x, .int .i64 g, .int .i64 h, .agg #[.int .i64 f, .int .i64 t]] w fun e w' => e = .returned (.bool true) ∧ Below w.heap.size w w' := by
  go_enter Try.func7, Try.ntmps7
  go_wp2_with (first
    | (go_at_call 18; (with_reducible refine (grainShown_any _).mono ?_); rintro e w1 ⟨rfl, hb1⟩; obtain ⟨hc1, hf1, hk1, hz1⟩ := bcell3 hb1; (try simp only [World.size_alloc] at hz1); have : w.heap.size < w1.heap.size := (by omega))
    | (go_at_call 19; (with_reducible refine (cut_any _ _ _).mono ?_); rintro e w2 ⟨rfl, hb2⟩; obtain ⟨hc2, hf2, hk2, hz2⟩ := bcell3 hb2; (try simp only [World.size_alloc] at hz2); have : w.heap.size < w2.heap.size := (by omega))
    | (go_at_call 25; (with_reducible refine (refCut_any _ _ _).mono ?_); rintro e w3 ⟨rfl, rfl⟩))
  have s0 : w2.cell? ⟨w.heap.size, 0, none⟩ = some (.int .i64 f) := by go_simp
  have s1 : w2.cell? ⟨w.heap.size, 1, none⟩ = some (.int .i64 t) := by go_simp
  clear hc1 hc2 hf1 hf2 hk1 hk2
  go_region_held3 (fun w' => Below w2.heap.size w2 w' ∧ w'.cell? ⟨w.heap.size, 0, none⟩ = some (.int .i64 f) ∧ w'.cell? ⟨w.heap.size, 1, none⟩ = some (.int .i64 t)) (first | exact ⟨(Below.refl _ _).drew, s0, s1⟩ | (obtain ⟨kB, k0, k1⟩ := ‹Below w2.heap.size w2 _ ∧ _›; exact ⟨kB.step hb, cell_step k0 hb, cell_step k1 hb⟩))
    (first
      | (go_at_call 20; (with_reducible refine (coarser_any _ _ _).mono ?_); rintro e w' ⟨rfl, hb⟩)
      | (go_at_call 26; (with_reducible refine (refCoarser_b _ _ _).mono ?_); rintro e w' ⟨rfl, hb⟩)
      | (go_at_call 21; (with_reducible refine (fits_any _ _ _ _).mono ?_); rintro e w' ⟨rfl, hb⟩)
      | (go_at_call 28; (with_reducible refine (refFits_any _ _ _ _).mono ?_); rintro e w' ⟨rfl, hb⟩)
      | (go_at_call 22; (with_reducible refine (has_any _ _ _ _).mono ?_); rintro e w' ⟨rfl, hb⟩)
      | (go_at_call 29; (with_reducible refine (refHas_any _ _ _ _).mono ?_); rintro e w' ⟨rfl, hb⟩)
      | (go_at_call 23; (with_reducible refine (right_any _ _ _).mono ?_); rintro e w' ⟨rfl, hb⟩)
      | (go_at_call 27; (with_reducible refine (refRight_any _ _ _).mono ?_); rintro e w' ⟨rfl, hb⟩))
  go_goals
  obtain ⟨kB, _⟩ := ‹Below w2.heap.size w2 _ ∧ _›
  go_wp2
  go_ret
  exact ⟨rfl, by (repeat' (first | (with_reducible exact Below.refl _ _) | (with_reducible assumption) | (with_reducible refine Below.new ?_ _) | (with_reducible refine Below.alloc ?_ ?_ _) | (with_reducible refine Below.drew ?_) | (with_reducible refine Below.setCell ?_ ?_ _) | (refine Below.step ?_ (by assumption)) | go_size))⟩

set_option maxRecDepth 100000 in
theorem GrainCuts_lifted (os : Os) (started : os.Started) (H : Type) (enc : TypeId × Value → H) :
    ReturnsInHanded {} Try.checked os 7 .any (Rows.grainCutsSpec.pre6 enc Try.prog Try.f7 Rows.grainCutsRow.domain false) (Rows.grainCutsSpec.post enc Try.prog Try.f7 false true false false) := by
  refine law_lift started (by kernel_rfl) Try.func7
    (ChangeSpec.witness6 (enc := enc) (C := Try.checked) false ⟨#[], #[.int .i64 0, .int .i64 0, .int .i64 0, .agg #[.int .i64 0, .int .i64 0]], []⟩ 8 (by kernel_rfl) (by kernel_rfl) (by kernel_rfl) (by kernel_rfl)) rfl rfl (by kernel_rfl) ?_ ?_
  · intro ds hl
    match ds, hl with
    | [_, _, _, _], _ => exact ⟨rfl, rfl, rfl⟩
  · intro W base args ds p hval hA hsz
    rw [Try.params7] at hA hval hsz
    obtain ⟨v0, vs0, d0, ds0, p0, q0, hargs, rfl, rfl, h0, r0⟩ := trodAll_cons hA
    obtain ⟨v1, vs1, d1, ds1, p1, q1, rfl, rfl, rfl, h1, r1⟩ := trodAll_cons r0
    obtain ⟨v2, vs2, d2, ds2, p2, q2, rfl, rfl, rfl, h2, r2⟩ := trodAll_cons r1
    obtain ⟨v3, vs3, d3, ds3, p3, q3, rfl, rfl, rfl, h3, r3⟩ := trodAll_cons r2
    obtain ⟨rfl, rfl, rfl⟩ := trodAll_nil r3
    obtain rfl : args = #[v0, v1, v2, v3] := by cases args; simp_all
    obtain ⟨a0, rfl, b0⟩ := open_i64 Try.underlying2 (hval 0 2 v0 rfl rfl) h0
    obtain ⟨a1, rfl, b1⟩ := open_i64 Try.underlying2 (hval 1 2 v1 rfl rfl) h1
    obtain ⟨a2, rfl, b2⟩ := open_i64 Try.underlying2 (hval 2 2 v2 rfl rfl) h2
    obtain ⟨a3, c3, rfl, b3, e3⟩ := open_span (hval 3 29 v3 rfl rfl) h3
    exact GrainCuts_walk a0 b0 a1 b1 a2 b2 a3 c3 b3 e3 W

theorem GrainCuts_over : Rows.grainCutsRow.holds Try.pinned (OpenSpec.ofChange Rows.grainCutsSpec) :=
  OpenClaim.holds_of_wide 7 Try.f7 rfl rfl rfl rfl rfl rfl rfl ⟨rfl, rfl, rfl, rfl, rfl⟩ rfl rfl rfl rfl rfl (by kernel_rfl) Try.func7 (by kernel_rfl)
    (of_decide_eq_true (by kernel_rfl)) (by unfold Func.isWrapper; first | (rw [if_pos (by decide +kernel)]; kernel_rfl) | (rw [if_neg (by decide +kernel)]; exact ⟨rfl, rfl⟩))
    (fun os started H enc _ => GrainCuts_lifted os started H enc)

/-- The statement. -/
theorem GrainCuts_proved : Rows.GrainCutsSaid := GrainCuts_over
end Go.Proofs.Ytekmcomddaoljaa
