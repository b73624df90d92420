/- GrainBoth holds: a time is of both spans just if it is of each. No condition. -/
import Derived.Test.YtekmcomddaoljaaGrainS
import Derived.Test.YtekmcomddaoljaaOpenA
import Derived.Test.YtekmcomddaoljaaQuiet
namespace Go.Proofs.Ytekmcomddaoljaa
set_option linter.unusedVariables false
set_option linter.unusedSimpArgs false
open Go.ChangeShapes Go.WideShapes Go.ChangeAt Go.RowKit Go.Joins

set_option maxHeartbeats 4000000 in
theorem GrainBoth_walk (a b : Int) (ha : I64 a) (hb : I64 b) (c d : Int) (hc : I64 c) (hd : I64 d) (x : Int) (hx : I64 x) (w : World) :
    Calls Try.prog 11 #[.agg #[.int .i64 a, .int .i64 b], .agg #[.int .i64 c, .int .i64 d], .int .i64 x] w fun e w' => e = .returned (.bool true) ∧ Below w.heap.size w w' := by
  have hF : bothF c d a b = bothF a b c d := by simp only [bothF, Bool.and_comm, Int.max_comm]
  have hT : bothT c d a b = bothT a b c d := by simp only [bothT, Bool.and_comm, Int.max_comm c a, Int.min_comm d b]
  have hE : bothE c d a b = bothE a b c d := by simp only [bothE, Bool.and_comm]
  have HF := hid hF; have HT := hid hT; have HE := hid hE
  clear hF hT hE
  cases h1 : rightB a b with
  | true =>
    cases h2 : rightB c d with
    | true =>
      have g1 := (rightB_iff a b).1 h1; have g2 := (rightB_iff c d).1 h2
      have e0 : bothE a b c d = 0 := by simp [bothE, h1, h2]
      have f0 : bothF a b c d = max a c := by simp [bothF, h1, h2]
      have t0 : bothT a b c d = max (max a c) (min b d) := by simp [bothT, h1, h2]
      have hr : rightB (max a c) (max (max a c) (min b d)) = true := (rightB_iff _ _).2 (by omega)
      obtain ⟨X, hX⟩ : ∃ X, X = max a c := ⟨_, rfl⟩
      obtain ⟨Y, hY⟩ : ∃ Y, Y = max X (min b d) := ⟨_, rfl⟩
      have hh : hasB X Y x = (hasB a b x && hasB c d x) := by
        rw [← hX, ← hY] at hr
        simp only [hasB, hr, h1, h2, Bool.true_and]
        rw [Bool.eq_iff_iff]
        simp
        omega
      rw [← hX, ← hY] at hr t0
      rw [← hX] at f0
      have H1 := hid h1; have H2 := hid h2
      clear hX hY g1 g2 h1 h2
      cases h3 : hasB a b x with
      | true =>
        cases h4 : hasB c d x
        all_goals
          rw [h3, h4] at hh
          simp at hh
          go_enter Try.func11, Try.ntmps11
          go_wp2_with (first
            | (go_at_call 18; (with_reducible refine (grainShown_any _).mono ?_); rintro e w1 ⟨rfl, hb1⟩; obtain ⟨hc1, hf1, hk1, hz1⟩ := bcell3 hb1; (try simp only [World.size_alloc] at hz1); have : w.heap.size < w1.heap.size := (by omega); have : w.heap.size + 1 < w1.heap.size := (by omega))
            | (go_at_call 35; (with_reducible refine (both_any a b c d _).mono ?_); rintro e w2 ⟨rfl, hb2⟩; rw [e0, f0, t0]; obtain ⟨hc2, hf2, hk2, hz2⟩ := bcell3 hb2; (try simp only [World.size_alloc] at hz2); have : w.heap.size < w2.heap.size := (by omega); have : w.heap.size + 1 < w2.heap.size := (by omega))
            | (go_at_call 35; (with_reducible refine (both_any c d a b _).mono ?_); rintro e w3 ⟨rfl, hb3⟩; rw [HE.out, HF.out, HT.out, e0, f0, t0]; obtain ⟨hc3, hf3, hk3, hz3⟩ := bcell3 hb3; (try simp only [World.size_alloc] at hz3); have : w.heap.size < w3.heap.size := (by omega); have : w.heap.size + 1 < w3.heap.size := (by omega); have : w2.heap.size < w3.heap.size := (by omega)))
          have hB0 : Below w.heap.size w (w3.alloc (.cells #[.int .i64 X, .int .i64 Y] 29)) := by (repeat' (first | (with_reducible exact Below.refl _ _) | (with_reducible assumption) | (with_reducible refine Below.new ?_ _) | (with_reducible refine Below.alloc ?_ ?_ _) | (with_reducible refine Below.drew ?_) | (with_reducible refine Below.setCell ?_ ?_ _) | (refine Below.step ?_ (by assumption)) | go_size))
          have s0 : (w3.alloc (.cells #[.int .i64 X, .int .i64 Y] 29)).cell? ⟨w.heap.size, 0, none⟩ = some (.int .i64 a) := by go_simp
          have s1 : (w3.alloc (.cells #[.int .i64 X, .int .i64 Y] 29)).cell? ⟨w.heap.size, 1, none⟩ = some (.int .i64 b) := by go_simp
          have s2 : (w3.alloc (.cells #[.int .i64 X, .int .i64 Y] 29)).cell? ⟨w.heap.size + 1, 0, none⟩ = some (.int .i64 c) := by go_simp
          have s3 : (w3.alloc (.cells #[.int .i64 X, .int .i64 Y] 29)).cell? ⟨w.heap.size + 1, 1, none⟩ = some (.int .i64 d) := by go_simp
          have s4 : (w3.alloc (.cells #[.int .i64 X, .int .i64 Y] 29)).cell? ⟨w2.heap.size, 0, none⟩ = some (.int .i64 X) := by go_simp
          have s5 : (w3.alloc (.cells #[.int .i64 X, .int .i64 Y] 29)).cell? ⟨w2.heap.size, 1, none⟩ = some (.int .i64 Y) := by go_simp
          have s6 : (w3.alloc (.cells #[.int .i64 X, .int .i64 Y] 29)).cell? ⟨w3.heap.size, 0, none⟩ = some (.int .i64 X) := by go_simp
          have s7 : (w3.alloc (.cells #[.int .i64 X, .int .i64 Y] 29)).cell? ⟨w3.heap.size, 1, none⟩ = some (.int .i64 Y) := by go_simp
          clear hc1 hc2 hc3 hf1 hf2 hf3 hk1 hk2 hk3
          obtain ⟨W0, hW0⟩ : ∃ W0, w3.alloc (.cells #[.int .i64 X, .int .i64 Y] 29) = W0 := ⟨_, rfl⟩
          rw [hW0] at hB0 s0 s1 s2 s3 s4 s5 s6 s7 ⊢
          have h1' := H1.out; have h2' := H2.out
          clear hW0
          have p0 := World.plus_cell s0; have p1 := World.plus_cell s1; have p2 := World.plus_cell s2; have p3 := World.plus_cell s3
          have p4 := World.plus_cell s4; have p5 := World.plus_cell s5; have p6 := World.plus_cell s6; have p7 := World.plus_cell s7
          refine wp_region_plus (by kernel_rfl) (by kernel_rfl) ?_
          repeat (first | go_big_quiet_skip | (go_big_quiet_want; go_big_quiet_op; first | go_big_quiet_on | go_big_quiet_call ((first | (go_at_call 22; exact Calls.plus_of (Calls.bool_is (has_any _ _ _ _) (by first | assumption | rfl))) | (go_at_call 23; exact Calls.plus_of (Calls.bool_is (right_any _ _ _) (by first | assumption | rfl)))))))
          refine wpQuiet_nil ?_
          rintro _ ⟨xq, rfl⟩
          have kB := World.plus_below W0 xq
          go_wp2
          go_ret
          exact ⟨rfl, by (repeat' (first | (with_reducible exact Below.refl _ _) | (with_reducible assumption) | (with_reducible refine Below.new ?_ _) | (with_reducible refine Below.alloc ?_ ?_ _) | (with_reducible refine Below.drew ?_) | (with_reducible refine Below.setCell ?_ ?_ _) | (refine Below.step ?_ (by assumption)) | go_size))⟩
      | false =>
        rw [h3, Bool.false_and] at hh
        go_enter Try.func11, Try.ntmps11
        go_wp2_with (first
          | (go_at_call 18; (with_reducible refine (grainShown_any _).mono ?_); rintro e w1 ⟨rfl, hb1⟩; obtain ⟨hc1, hf1, hk1, hz1⟩ := bcell3 hb1; (try simp only [World.size_alloc] at hz1); have : w.heap.size < w1.heap.size := (by omega); have : w.heap.size + 1 < w1.heap.size := (by omega))
          | (go_at_call 35; (with_reducible refine (both_any a b c d _).mono ?_); rintro e w2 ⟨rfl, hb2⟩; rw [e0, f0, t0]; obtain ⟨hc2, hf2, hk2, hz2⟩ := bcell3 hb2; (try simp only [World.size_alloc] at hz2); have : w.heap.size < w2.heap.size := (by omega); have : w.heap.size + 1 < w2.heap.size := (by omega))
          | (go_at_call 35; (with_reducible refine (both_any c d a b _).mono ?_); rintro e w3 ⟨rfl, hb3⟩; rw [HE.out, HF.out, HT.out, e0, f0, t0]; obtain ⟨hc3, hf3, hk3, hz3⟩ := bcell3 hb3; (try simp only [World.size_alloc] at hz3); have : w.heap.size < w3.heap.size := (by omega); have : w.heap.size + 1 < w3.heap.size := (by omega); have : w2.heap.size < w3.heap.size := (by omega)))
        have hB0 : Below w.heap.size w (w3.alloc (.cells #[.int .i64 X, .int .i64 Y] 29)) := by (repeat' (first | (with_reducible exact Below.refl _ _) | (with_reducible assumption) | (with_reducible refine Below.new ?_ _) | (with_reducible refine Below.alloc ?_ ?_ _) | (with_reducible refine Below.drew ?_) | (with_reducible refine Below.setCell ?_ ?_ _) | (refine Below.step ?_ (by assumption)) | go_size))
        have s0 : (w3.alloc (.cells #[.int .i64 X, .int .i64 Y] 29)).cell? ⟨w.heap.size, 0, none⟩ = some (.int .i64 a) := by go_simp
        have s1 : (w3.alloc (.cells #[.int .i64 X, .int .i64 Y] 29)).cell? ⟨w.heap.size, 1, none⟩ = some (.int .i64 b) := by go_simp
        have s2 : (w3.alloc (.cells #[.int .i64 X, .int .i64 Y] 29)).cell? ⟨w.heap.size + 1, 0, none⟩ = some (.int .i64 c) := by go_simp
        have s3 : (w3.alloc (.cells #[.int .i64 X, .int .i64 Y] 29)).cell? ⟨w.heap.size + 1, 1, none⟩ = some (.int .i64 d) := by go_simp
        have s4 : (w3.alloc (.cells #[.int .i64 X, .int .i64 Y] 29)).cell? ⟨w2.heap.size, 0, none⟩ = some (.int .i64 X) := by go_simp
        have s5 : (w3.alloc (.cells #[.int .i64 X, .int .i64 Y] 29)).cell? ⟨w2.heap.size, 1, none⟩ = some (.int .i64 Y) := by go_simp
        have s6 : (w3.alloc (.cells #[.int .i64 X, .int .i64 Y] 29)).cell? ⟨w3.heap.size, 0, none⟩ = some (.int .i64 X) := by go_simp
        have s7 : (w3.alloc (.cells #[.int .i64 X, .int .i64 Y] 29)).cell? ⟨w3.heap.size, 1, none⟩ = some (.int .i64 Y) := by go_simp
        clear hc1 hc2 hc3 hf1 hf2 hf3 hk1 hk2 hk3
        obtain ⟨W0, hW0⟩ : ∃ W0, w3.alloc (.cells #[.int .i64 X, .int .i64 Y] 29) = W0 := ⟨_, rfl⟩
        rw [hW0] at hB0 s0 s1 s2 s3 s4 s5 s6 s7 ⊢
        have h1' := H1.out; have h2' := H2.out
        clear hW0
        have p0 := World.plus_cell s0; have p1 := World.plus_cell s1; have p2 := World.plus_cell s2; have p3 := World.plus_cell s3
        have p4 := World.plus_cell s4; have p5 := World.plus_cell s5; have p6 := World.plus_cell s6; have p7 := World.plus_cell s7
        refine wp_region_plus (by kernel_rfl) (by kernel_rfl) ?_
        repeat (first | go_big_quiet_skip | (go_big_quiet_want; go_big_quiet_op; first | go_big_quiet_on | go_big_quiet_call ((first | (go_at_call 22; exact Calls.plus_of (Calls.bool_is (has_any _ _ _ _) (by first | assumption | rfl))) | (go_at_call 23; exact Calls.plus_of (Calls.bool_is (right_any _ _ _) (by first | assumption | rfl)))))))
        refine wpQuiet_nil ?_
        rintro _ ⟨xq, rfl⟩
        have kB := World.plus_below W0 xq
        go_wp2
        go_ret
        exact ⟨rfl, by (repeat' (first | (with_reducible exact Below.refl _ _) | (with_reducible assumption) | (with_reducible refine Below.new ?_ _) | (with_reducible refine Below.alloc ?_ ?_ _) | (with_reducible refine Below.drew ?_) | (with_reducible refine Below.setCell ?_ ?_ _) | (refine Below.step ?_ (by assumption)) | go_size))⟩
    | false =>
      have e0 : bothE a b c d = 110 := by simp [bothE, h2]
      go_enter Try.func11, Try.ntmps11
      go_wp2_with (first
        | (go_at_call 18; (with_reducible refine (grainShown_any _).mono ?_); rintro e w1 ⟨rfl, hb1⟩; obtain ⟨hc1, hf1, hk1, hz1⟩ := bcell3 hb1; (try simp only [World.size_alloc] at hz1); have : w.heap.size < w1.heap.size := (by omega); have : w.heap.size + 1 < w1.heap.size := (by omega))
        | (go_at_call 35; (with_reducible refine (both_any a b c d _).mono ?_); rintro e w2 ⟨rfl, hb2⟩; rw [e0]; obtain ⟨hc2, hf2, hk2, hz2⟩ := bcell3 hb2; (try simp only [World.size_alloc] at hz2); have : w.heap.size < w2.heap.size := (by omega); have : w.heap.size + 1 < w2.heap.size := (by omega))
        | (go_at_call 35; (with_reducible refine (both_any c d a b _).mono ?_); rintro e w3 ⟨rfl, hb3⟩; rw [HE.out, e0]; obtain ⟨hc3, hf3, hk3, hz3⟩ := bcell3 hb3; (try simp only [World.size_alloc] at hz3); have : w.heap.size < w3.heap.size := (by omega); have : w.heap.size + 1 < w3.heap.size := (by omega); have : w2.heap.size < w3.heap.size := (by omega))
        | (go_at_call 23; (with_reducible refine (right_any a b _).mono ?_); rintro e w4 ⟨rfl, hb4⟩; rw [h1]; obtain ⟨hc4, hf4, hk4, hz4⟩ := bcell3 hb4; (try simp only [World.size_alloc] at hz4); have : w.heap.size < w4.heap.size := (by omega); have : w.heap.size + 1 < w4.heap.size := (by omega))
        | (go_at_call 23; (with_reducible refine (right_any c d _).mono ?_); rintro e w5 ⟨rfl, hb5⟩; rw [h2]))
      go_ret
      exact ⟨rfl, by (repeat' (first | (with_reducible exact Below.refl _ _) | (with_reducible assumption) | (with_reducible refine Below.new ?_ _) | (with_reducible refine Below.alloc ?_ ?_ _) | (with_reducible refine Below.drew ?_) | (with_reducible refine Below.setCell ?_ ?_ _) | (refine Below.step ?_ (by assumption)) | go_size))⟩
  | false =>
    have e0 : bothE a b c d = 110 := by simp [bothE, h1]
    go_enter Try.func11, Try.ntmps11
    go_wp2_with (first
      | (go_at_call 18; (with_reducible refine (grainShown_any _).mono ?_); rintro e w1 ⟨rfl, hb1⟩; obtain ⟨hc1, hf1, hk1, hz1⟩ := bcell3 hb1; (try simp only [World.size_alloc] at hz1); have : w.heap.size < w1.heap.size := (by omega); have : w.heap.size + 1 < w1.heap.size := (by omega))
      | (go_at_call 35; (with_reducible refine (both_any a b c d _).mono ?_); rintro e w2 ⟨rfl, hb2⟩; rw [e0]; obtain ⟨hc2, hf2, hk2, hz2⟩ := bcell3 hb2; (try simp only [World.size_alloc] at hz2); have : w.heap.size < w2.heap.size := (by omega); have : w.heap.size + 1 < w2.heap.size := (by omega))
      | (go_at_call 35; (with_reducible refine (both_any c d a b _).mono ?_); rintro e w3 ⟨rfl, hb3⟩; rw [HE.out, e0]; obtain ⟨hc3, hf3, hk3, hz3⟩ := bcell3 hb3; (try simp only [World.size_alloc] at hz3); have : w.heap.size < w3.heap.size := (by omega); have : w.heap.size + 1 < w3.heap.size := (by omega); have : w2.heap.size < w3.heap.size := (by omega))
      | (go_at_call 23; (with_reducible refine (right_any a b _).mono ?_); rintro e w4 ⟨rfl, hb4⟩; rw [h1]))
    go_ret
    exact ⟨rfl, by (repeat' (first | (with_reducible exact Below.refl _ _) | (with_reducible assumption) | (with_reducible refine Below.new ?_ _) | (with_reducible refine Below.alloc ?_ ?_ _) | (with_reducible refine Below.drew ?_) | (with_reducible refine Below.setCell ?_ ?_ _) | (refine Below.step ?_ (by assumption)) | go_size))⟩

--set_option maxRecDepth 100000 in
theorem GrainBoth_lifted (os : Os) (started : os.Started) (H : Type) (enc : TypeId × Value → H) :
    ReturnsInHanded {} Try.checked os 11 .any (Rows.grainBothSpec.pre6 enc Try.prog Try.f11 Rows.grainBothRow.domain false) (Rows.grainBothSpec.post enc Try.prog Try.f11 false true false false) := by
  refine law_lift started (by kernel_rfl) Try.func11
    (ChangeSpec.witness6 (enc := enc) (C := Try.checked) false ⟨#[], #[.agg #[.int .i64 0, .int .i64 0], .agg #[.int .i64 0, .int .i64 0], .int .i64 0], []⟩ 8 (by kernel_rfl) (by kernel_rfl) (by kernel_rfl) (by kernel_rfl)) rfl rfl (by kernel_rfl) ?_ ?_
  · intro ds hl
    match ds, hl with
    | [_, _, _], _ => exact ⟨rfl, rfl, rfl⟩
  · intro W base args ds p hval hA hsz
    rw [Try.params11] at hA hval hsz
    obtain ⟨v0, vs0, d0, ds0, p0, q0, hargs, rfl, rfl, h0, r0⟩ := trodAll_cons hA
    obtain ⟨v1, vs1, d1, ds1, p1, q1, rfl, rfl, rfl, h1, r1⟩ := trodAll_cons r0
    obtain ⟨v2, vs2, d2, ds2, p2, q2, rfl, rfl, rfl, h2, r2⟩ := trodAll_cons r1
    obtain ⟨rfl, rfl, rfl⟩ := trodAll_nil r2
    obtain rfl : args = #[v0, v1, v2] := by cases args; simp_all
    obtain ⟨a0, c0, rfl, b0, e0⟩ := open_span (hval 0 29 v0 rfl rfl) h0
    obtain ⟨a1, c1, rfl, b1, e1⟩ := open_span (hval 1 29 v1 rfl rfl) h1
    obtain ⟨a2, rfl, b2⟩ := open_i64 Try.underlying2 (hval 2 2 v2 rfl rfl) h2
    exact GrainBoth_walk a0 c0 b0 e0 a1 c1 b1 e1 a2 b2 W

theorem GrainBoth_over : Rows.grainBothRow.holds Try.pinned (OpenSpec.ofChange Rows.grainBothSpec) :=
  OpenClaim.holds_of_wide 11 Try.f11 rfl rfl rfl rfl rfl rfl rfl ⟨rfl, rfl, rfl, rfl, rfl⟩ rfl rfl rfl rfl rfl (by kernel_rfl) Try.func11 (by kernel_rfl)
    (of_decide_eq_true (by kernel_rfl)) (by unfold Func.isWrapper; first | (rw [if_pos (by decide +kernel)]; kernel_rfl) | (rw [if_neg (by decide +kernel)]; exact ⟨rfl, rfl⟩))
    (fun os started H enc _ => GrainBoth_lifted os started H enc)

/-- The statement. -/
theorem GrainBoth_proved : Rows.GrainBothSaid := GrainBoth_over
end Go.Proofs.Ytekmcomddaoljaa
