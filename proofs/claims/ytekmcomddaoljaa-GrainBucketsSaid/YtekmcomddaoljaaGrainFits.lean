/- GrainFits holds: a time is of a span that fits just if it is when cut. No condition. -/
import Derived.Test.YtekmcomddaoljaaGrainS
import Derived.Test.YtekmcomddaoljaaOpenA
import Derived.Deep.RegionHeld3
namespace Go.Proofs.Ytekmcomddaoljaa
set_option linter.unusedVariables false
set_option linter.unusedSimpArgs false
open Go.ChangeShapes Go.WideShapes Go.ChangeAt Go.RowKit Go.Joins

/-- A time of a span whose ends are multiples of a grain (or whose end is that of all times) is of it just if it is when cut. -/
theorem cut_has {f t x g : Int} (hf : 0 ≤ f) (hg : 1 ≤ g) (hx : 0 ≤ x) (hx2 : x < 1000000000001) (h1 : f % g = 0) (h2 : t = 1000000000001 ∨ t % g = 0) :
    (f ≤ x - x % g ↔ f ≤ x) ∧ (x - x % g < t ↔ x < t) := by
  have m1 := Int.emod_nonneg x (b := g) (by omega)
  have m2 := Int.emod_lt_of_pos x (b := g) (by omega)
  have hxe := Int.mul_ediv_add_emod x g
  refine ⟨⟨fun h => by omega, fun h => ?_⟩, ⟨fun h => ?_, fun h => by omega⟩⟩
  · have e := Int.mul_ediv_add_emod f g
    have h3 : f / g ≤ x / g := Int.ediv_le_ediv (by omega) h
    have h4 : g * (f / g) ≤ g * (x / g) := Int.mul_le_mul_of_nonneg_left h3 (by omega)
    omega
  · rcases h2 with rfl | h2
    · exact hx2
    · have e := Int.mul_ediv_add_emod t g
      have h3 : x / g < t / g := by
        apply Int.lt_of_mul_lt_mul_left (a := g) _ (by omega)
        omega
      have h4 : g * (x / g + 1) ≤ g * (t / g) := Int.mul_le_mul_of_nonneg_left (by omega) (by omega)
      rw [Int.mul_add] at h4
      omega

set_option maxHeartbeats 1000000 in
theorem GrainFits_walk (f t : Int) (hf : I64 f) (ht : I64 t) (g : Int) (hg : I64 g) (x : Int) (hx : I64 x) (w : World) :
    Calls Try.prog 4 #[.agg #[.int .i64 f, .int .i64 t], .int .i64 g, .int .i64 x] w fun e w' => e = .returned (.bool true) ∧ Below w.heap.size w w' := by
  by_cases hT : (isTimeB x && isGrainB g) = true
  · have he : cutE x g = 0 := by simp [cutE, hT]
    by_cases hF : fitsB f t g = true
    · have hF' := (fitsB_iff f t g).1 hF
      have hx' := (isTimeB_iff x).1 (by simp at hT; exact hT.1)
      have hr : rightB f t = true := (rightB_iff f t).2 hF'.1
      have hh : hasB f t (cutV x g) = hasB f t x := by
        have := cut_has (f := f) (t := t) (x := x) (g := g) (by omega) (by omega) (by omega) (by omega) hF'.2.2.1 hF'.2.2.2
        simp [hasB, cutV, hT, this.1, this.2]
      have hF2 : fitsB f t g = true := hF
      clear hT hF hF' hx'
      go_enter Try.func4, Try.ntmps4
      go_wp2_with (first
        | (go_at_call 18; (with_reducible refine (grainShown_any _).mono ?_); rintro e w1 ⟨rfl, hb1⟩; obtain ⟨hc1, hf1, hk1, hz1⟩ := bcell3 hb1; (try simp only [World.size_alloc] at hz1); have : w.heap.size < w1.heap.size := (by omega))
        | (go_at_call 19; (with_reducible refine (cut_any _ _ _).mono ?_); rintro e w2 ⟨rfl, hb2⟩; obtain ⟨hc2, hf2, hk2, hz2⟩ := bcell3 hb2; (try simp only [World.size_alloc] at hz2); have : w.heap.size < w2.heap.size := (by omega))
        | (go_at_call 21; (with_reducible refine (fits_any _ _ _ _).mono ?_); rintro e w3 ⟨rfl, hb3⟩; obtain ⟨hc3, hf3, hk3, hz3⟩ := bcell3 hb3; (try simp only [World.size_alloc] at hz3); have : w.heap.size < w3.heap.size := (by omega)))
      have s0 : w3.cell? ⟨w.heap.size, 0, none⟩ = some (.int .i64 f) := by go_simp
      have s1 : w3.cell? ⟨w.heap.size, 1, none⟩ = some (.int .i64 t) := by go_simp
      clear hc1 hc2 hc3 hf1 hf2 hf3 hk1 hk2 hk3
      go_outline
      go_region_held3 (fun w' => Below w3.heap.size w3 w' ∧ w'.cell? ⟨w.heap.size, 0, none⟩ = some (.int .i64 f) ∧ w'.cell? ⟨w.heap.size, 1, none⟩ = some (.int .i64 t)) (first | exact ⟨(Below.refl _ _).drew, s0, s1⟩ | (obtain ⟨kB, k0, k1⟩ := ‹Below w3.heap.size w3 _ ∧ _›; exact ⟨kB.step hb, cell_step k0 hb, cell_step k1 hb⟩))
        (first
          | (go_at_call 22; (with_reducible refine (has_any _ _ _ _).mono ?_); rintro e w' ⟨rfl, hb⟩)
          | (go_at_call 23; (with_reducible refine (right_any _ _ _).mono ?_); rintro e w' ⟨rfl, hb⟩))
      obtain ⟨kB, _⟩ := ‹Below w3.heap.size w3 _ ∧ _›
      go_wp2
      go_ret
      exact ⟨rfl, by (repeat' (first | (with_reducible exact Below.refl _ _) | (with_reducible assumption) | (with_reducible refine Below.new ?_ _) | (with_reducible refine Below.alloc ?_ ?_ _) | (with_reducible refine Below.drew ?_) | (with_reducible refine Below.setCell ?_ ?_ _) | (refine Below.step ?_ (by assumption)) | go_size))⟩
    · have hF2 : fitsB f t g = false := Bool.eq_false_iff.2 hF
      clear hT hF
      go_enter Try.func4, Try.ntmps4
      go_wp2_with (first
        | (go_at_call 18; (with_reducible refine (grainShown_any _).mono ?_); rintro e w1 ⟨rfl, hb1⟩; obtain ⟨hc1, hf1, hk1, hz1⟩ := bcell3 hb1; (try simp only [World.size_alloc] at hz1); have : w.heap.size < w1.heap.size := (by omega))
        | (go_at_call 19; (with_reducible refine (cut_any _ _ _).mono ?_); rintro e w2 ⟨rfl, hb2⟩; obtain ⟨hc2, hf2, hk2, hz2⟩ := bcell3 hb2; (try simp only [World.size_alloc] at hz2); have : w.heap.size < w2.heap.size := (by omega))
        | (go_at_call 21; (with_reducible refine (fits_any _ _ _ _).mono ?_); rintro e w3 ⟨rfl, hb3⟩; obtain ⟨hc3, hf3, hk3, hz3⟩ := bcell3 hb3; (try simp only [World.size_alloc] at hz3); have : w.heap.size < w3.heap.size := (by omega)))
      go_ret
      exact ⟨rfl, by (repeat' (first | (with_reducible exact Below.refl _ _) | (with_reducible assumption) | (with_reducible refine Below.new ?_ _) | (with_reducible refine Below.alloc ?_ ?_ _) | (with_reducible refine Below.drew ?_) | (with_reducible refine Below.setCell ?_ ?_ _) | (refine Below.step ?_ (by assumption)) | go_size))⟩
  · have he : cutE x g = 110 := by simp [cutE, hT]
    clear hT
    go_enter Try.func4, Try.ntmps4
    go_wp2_with (first
      | (go_at_call 18; (with_reducible refine (grainShown_any _).mono ?_); rintro e w1 ⟨rfl, hb1⟩; obtain ⟨hc1, hf1, hk1, hz1⟩ := bcell3 hb1; (try simp only [World.size_alloc] at hz1); have : w.heap.size < w1.heap.size := (by omega))
      | (go_at_call 19; (with_reducible refine (cut_any _ _ _).mono ?_); rintro e w2 ⟨rfl, hb2⟩; obtain ⟨hc2, hf2, hk2, hz2⟩ := bcell3 hb2; (try simp only [World.size_alloc] at hz2); have : w.heap.size < w2.heap.size := (by omega)))
    go_ret
    exact ⟨rfl, by (repeat' (first | (with_reducible exact Below.refl _ _) | (with_reducible assumption) | (with_reducible refine Below.new ?_ _) | (with_reducible refine Below.alloc ?_ ?_ _) | (with_reducible refine Below.drew ?_) | (with_reducible refine Below.setCell ?_ ?_ _) | (refine Below.step ?_ (by assumption)) | go_size))⟩

set_option maxRecDepth 100000 in
theorem GrainFits_lifted (os : Os) (started : os.Started) (H : Type) (enc : TypeId × Value → H) :
    ReturnsInHanded {} Try.checked os 4 .any (Rows.grainFitsSpec.pre6 enc Try.prog Try.f4 Rows.grainFitsRow.domain false) (Rows.grainFitsSpec.post enc Try.prog Try.f4 false true false false) := by
  refine law_lift started (by kernel_rfl) Try.func4
    (ChangeSpec.witness6 (enc := enc) (C := Try.checked) false ⟨#[], #[.agg #[.int .i64 0, .int .i64 0], .int .i64 0, .int .i64 0], []⟩ 8 (by kernel_rfl) (by kernel_rfl) (by kernel_rfl) (by kernel_rfl)) rfl rfl (by kernel_rfl) ?_ ?_
  · intro ds hl
    match ds, hl with
    | [_, _, _], _ => exact ⟨rfl, rfl, rfl⟩
  · intro W base args ds p hval hA hsz
    rw [Try.params4] at hA hval hsz
    obtain ⟨v0, vs0, d0, ds0, p0, q0, hargs, rfl, rfl, h0, r0⟩ := trodAll_cons hA
    obtain ⟨v1, vs1, d1, ds1, p1, q1, rfl, rfl, rfl, h1, r1⟩ := trodAll_cons r0
    obtain ⟨v2, vs2, d2, ds2, p2, q2, rfl, rfl, rfl, h2, r2⟩ := trodAll_cons r1
    obtain ⟨rfl, rfl, rfl⟩ := trodAll_nil r2
    obtain rfl : args = #[v0, v1, v2] := by cases args; simp_all
    obtain ⟨a0, c0, rfl, b0, e0⟩ := open_span (hval 0 29 v0 rfl rfl) h0
    obtain ⟨a1, rfl, b1⟩ := open_i64 Try.underlying2 (hval 1 2 v1 rfl rfl) h1
    obtain ⟨a2, rfl, b2⟩ := open_i64 Try.underlying2 (hval 2 2 v2 rfl rfl) h2
    exact GrainFits_walk a0 c0 b0 e0 a1 b1 a2 b2 W

theorem GrainFits_over : Rows.grainFitsRow.holds Try.pinned (OpenSpec.ofChange Rows.grainFitsSpec) :=
  OpenClaim.holds_of_wide 4 Try.f4 rfl rfl rfl rfl rfl rfl rfl ⟨rfl, rfl, rfl, rfl, rfl⟩ rfl rfl rfl rfl rfl (by kernel_rfl) Try.func4 (by kernel_rfl)
    (of_decide_eq_true (by kernel_rfl)) (by unfold Func.isWrapper; first | (rw [if_pos (by decide +kernel)]; kernel_rfl) | (rw [if_neg (by decide +kernel)]; exact ⟨rfl, rfl⟩))
    (fun os started H enc _ => GrainFits_lifted os started H enc)

/-- The statement. -/
theorem GrainFits_proved : Rows.GrainFitsSaid := GrainFits_over
end Go.Proofs.Ytekmcomddaoljaa
