/- GrainSpans holds: the times of two spans, and a span's buckets, are as the reference has them. No condition. -/
import Derived.Test.YtekmcomddaoljaaGrainS
import Derived.Test.YtekmcomddaoljaaOpenA
namespace Go.Proofs.Ytekmcomddaoljaa
set_option linter.unusedVariables false
set_option linter.unusedSimpArgs false
open Go.ChangeShapes Go.WideShapes Go.ChangeAt Go.RowKit Go.Joins

theorem bucketsL_small (f t g : Int) : (bucketsL f t g).length ≤ 1000000000 := by
  unfold bucketsL
  split
  · rename_i h
    rw [multsL_length]
    simp [bucketsOk] at h
    omega
  · simp

/-- 'Buckets' of either, for the walk: the value written out, and what it holds. -/
theorem buckets_at (f t g : Int) (w : World) : Calls Try.prog 24 #[.agg #[.int .i64 f, .int .i64 t], .int .i64 g] w fun e w' => ∃ ao cap, e = .returned (.tuple #[.slice ao (bucketsL f t g).length cap, .int .i64 (bucketsE f t g)]) ∧ IntsAt w' (.slice ao (bucketsL f t g).length cap) (bucketsL f t g) ∧ Below w.heap.size w w' :=
  (buckets_any f t g w).mono fun e w' ⟨v, he, ho, _, hb⟩ => by
    have hi := IntsAt.own ho
    obtain ⟨ao, cap, rfl⟩ := ho.form
    exact ⟨ao, cap, he, hi, hb⟩
theorem refBuckets_at (f t g : Int) (w : World) : Calls Try.prog 37 #[.agg #[.int .i64 f, .int .i64 t], .int .i64 g] w fun e w' => ∃ ao cap, e = .returned (.tuple #[.slice ao (bucketsL f t g).length cap, .int .i64 (bucketsE f t g)]) ∧ IntsAt w' (.slice ao (bucketsL f t g).length cap) (bucketsL f t g) ∧ Below w.heap.size w w' :=
  (refBuckets_any f t g w).mono fun e w' ⟨v, he, ho, _, hb⟩ => by
    have hi := IntsAt.own ho
    obtain ⟨ao, cap, rfl⟩ := ho.form
    exact ⟨ao, cap, he, hi, hb⟩

set_option maxHeartbeats 4000000 in
theorem GrainSpans_walk (a b : Int) (ha : I64 a) (hb : I64 b) (c d : Int) (hc : I64 c) (hd : I64 d) (g : Int) (hg : I64 g) (w : World) :
    Calls Try.prog 10 #[.agg #[.int .i64 a, .int .i64 b], .agg #[.int .i64 c, .int .i64 d], .int .i64 g] w fun e w' => e = .returned (.bool true) ∧ Below w.heap.size w w' := by
  have hsmall := hid (bucketsL_small a b g)
  go_enter Try.func10, Try.ntmps10
  go_wp2_with (first
    | (go_at_call 18; (with_reducible refine (grainShown_any _).mono ?_); rintro e w1 ⟨rfl, hb1⟩; obtain ⟨hc1, hf1, hk1, hz1⟩ := bcell3 hb1; (try simp only [World.size_alloc] at hz1); have : w.heap.size < w1.heap.size := (by omega); have : w.heap.size + 1 < w1.heap.size := (by omega))
    | (go_at_call 35; (with_reducible refine (both_any _ _ _ _ _).mono ?_); rintro e w2 ⟨rfl, hb2⟩; obtain ⟨hc2, hf2, hk2, hz2⟩ := bcell3 hb2; (try simp only [World.size_alloc] at hz2); have : w.heap.size < w2.heap.size := (by omega); have : w.heap.size + 1 < w2.heap.size := (by omega))
    | (go_at_call 36; (with_reducible refine (refBoth_any _ _ _ _ _).mono ?_); rintro e w3 ⟨rfl, hb3⟩; obtain ⟨hc3, hf3, hk3, hz3⟩ := bcell3 hb3; (try simp only [World.size_alloc] at hz3); have : w.heap.size < w3.heap.size := (by omega); have : w.heap.size + 1 < w3.heap.size := (by omega); have : w2.heap.size < w3.heap.size := (by omega))
    | (go_at_call 24; (with_reducible refine (buckets_at _ _ _ _).mono ?_); rintro e w4 ⟨ao, cap, rfl, hi4, hb4⟩; obtain ⟨hc4, hf4, hk4, hz4⟩ := bcell3 hb4; (try simp only [World.size_alloc] at hz4); have : w.heap.size < w4.heap.size := (by omega); have : w.heap.size + 1 < w4.heap.size := (by omega); have : w2.heap.size < w4.heap.size := (by omega); have : w3.heap.size < w4.heap.size := (by omega); have HI4 := hid hi4; clear hi4)
    | (go_at_call 37; (with_reducible refine (refBuckets_at _ _ _ _).mono ?_); rintro e w5 ⟨ao', cap', rfl, hi5, hb5⟩; obtain ⟨hc5, hf5, hk5, hz5⟩ := bcell3 hb5; (try simp only [World.size_alloc] at hz5); have : w.heap.size < w5.heap.size := (by omega); have : w.heap.size + 1 < w5.heap.size := (by omega); have : w2.heap.size < w5.heap.size := (by omega); have : w3.heap.size < w5.heap.size := (by omega); have HI5 := hid hi5; clear hi5)
    | (go_at_call 38; refine (same_any _ _ _ _ _ (HI4.out.below hb5) HI5.out hsmall.out hsmall.out).mono ?_; rintro e w6 ⟨rfl, hb6⟩))
  go_goals
  go_ret
  exact ⟨rfl, by (repeat' (first | (with_reducible exact Below.refl _ _) | (with_reducible assumption) | (with_reducible refine Below.new ?_ _) | (with_reducible refine Below.alloc ?_ ?_ _) | (with_reducible refine Below.drew ?_) | (with_reducible refine Below.setCell ?_ ?_ _) | (refine Below.step ?_ (by assumption)) | go_size))⟩

set_option maxRecDepth 100000 in
theorem GrainSpans_lifted (os : Os) (started : os.Started) (H : Type) (enc : TypeId × Value → H) :
    ReturnsInHanded {} Try.checked os 10 .any (Rows.grainSpansSpec.pre6 enc Try.prog Try.f10 Rows.grainSpansRow.domain false) (Rows.grainSpansSpec.post enc Try.prog Try.f10 false true false false) := by
  refine law_lift started (by kernel_rfl) Try.func10
    (ChangeSpec.witness6 (enc := enc) (C := Try.checked) false ⟨#[], #[.agg #[.int .i64 0, .int .i64 0], .agg #[.int .i64 0, .int .i64 0], .int .i64 0], []⟩ 8 (by kernel_rfl) (by kernel_rfl) (by kernel_rfl) (by kernel_rfl)) rfl rfl (by kernel_rfl) ?_ ?_
  · intro ds hl
    match ds, hl with
    | [_, _, _], _ => exact ⟨rfl, rfl, rfl⟩
  · intro W base args ds p hval hA hsz
    rw [Try.params10] at hA hval hsz
    obtain ⟨v0, vs0, d0, ds0, p0, q0, hargs, rfl, rfl, h0, r0⟩ := trodAll_cons hA
    obtain ⟨v1, vs1, d1, ds1, p1, q1, rfl, rfl, rfl, h1, r1⟩ := trodAll_cons r0
    obtain ⟨v2, vs2, d2, ds2, p2, q2, rfl, rfl, rfl, h2, r2⟩ := trodAll_cons r1
    obtain ⟨rfl, rfl, rfl⟩ := trodAll_nil r2
    obtain rfl : args = #[v0, v1, v2] := by cases args; simp_all
    obtain ⟨a0, c0, rfl, b0, e0⟩ := open_span (hval 0 29 v0 rfl rfl) h0
    obtain ⟨a1, c1, rfl, b1, e1⟩ := open_span (hval 1 29 v1 rfl rfl) h1
    obtain ⟨a2, rfl, b2⟩ := open_i64 Try.underlying2 (hval 2 2 v2 rfl rfl) h2
    exact GrainSpans_walk a0 c0 b0 e0 a1 c1 b1 e1 a2 b2 W

theorem GrainSpans_over : Rows.grainSpansRow.holds Try.pinned (OpenSpec.ofChange Rows.grainSpansSpec) :=
  OpenClaim.holds_of_wide 10 Try.f10 rfl rfl rfl rfl rfl rfl rfl ⟨rfl, rfl, rfl, rfl, rfl⟩ rfl rfl rfl rfl rfl (by kernel_rfl) Try.func10 (by kernel_rfl)
    (of_decide_eq_true (by kernel_rfl)) (by unfold Func.isWrapper; first | (rw [if_pos (by decide +kernel)]; kernel_rfl) | (rw [if_neg (by decide +kernel)]; exact ⟨rfl, rfl⟩))
    (fun os started H enc _ => GrainSpans_lifted os started H enc)

/-- The statement. -/
theorem GrainSpans_proved : Rows.GrainSpansSaid := GrainSpans_over
end Go.Proofs.Ytekmcomddaoljaa
