/- GrainCoarser holds: what is coarser than what is coarser is coarser; a grain is coarser than itself, and two that are so of each other are one. No condition. -/
import Derived.Test.YtekmcomddaoljaaGrainS
import Derived.Test.YtekmcomddaoljaaOpenA
namespace Go.Proofs.Ytekmcomddaoljaa
set_option linter.unusedVariables false
set_option linter.unusedSimpArgs false
open Go.ChangeShapes Go.WideShapes Go.ChangeAt Go.RowKit Go.Joins

theorem coarserB_iff (a b : Int) : coarserB a b = true ↔ (1 ≤ a ∧ a ≤ 1000000000) ∧ (1 ≤ b ∧ b ≤ 1000000000) ∧ b % a = 0 := by
  simp [coarserB, isGrainB, and_assoc]

theorem coarser_self (a : Int) : coarserB a a = (decide (1 ≤ a) && decide (a ≤ 1000000000)) := by
  simp [coarserB, isGrainB]

theorem coarser_le {a b : Int} (h : coarserB a b = true) : a ≤ b := by
  obtain ⟨h1, h2, h3⟩ := (coarserB_iff a b).1 h
  exact Int.le_of_dvd (by omega) (Int.dvd_of_emod_eq_zero h3)

theorem coarser_trans {a b c : Int} (h : coarserB a b = true) (k : coarserB b c = true) : coarserB a c = true := by
  obtain ⟨h1, h2, h3⟩ := (coarserB_iff a b).1 h
  obtain ⟨k1, k2, k3⟩ := (coarserB_iff b c).1 k
  exact (coarserB_iff a c).2 ⟨h1, k2, Int.emod_eq_zero_of_dvd (Int.dvd_trans (Int.dvd_of_emod_eq_zero h3) (Int.dvd_of_emod_eq_zero k3))⟩

set_option maxHeartbeats 4000000 in
theorem GrainCoarser_walk (a : Int) (ha : I64 a) (b : Int) (hb : I64 b) (c : Int) (hc : I64 c) (w : World) :
    Calls Try.prog 6 #[.int .i64 a, .int .i64 b, .int .i64 c] w fun e w' => e = .returned (.bool true) ∧ Below w.heap.size w w' := by
  cases hx : coarserB a b with
  | true =>
    have hle := coarser_le hx
    have hbd := (coarserB_iff a b).1 hx
    have h1 : 1 ≤ a := hbd.1.1
    have h2 : a ≤ 1000000000 := hbd.1.2
    have hs : coarserB a a = true := by rw [coarser_self]; simp [h1, h2]
    clear hbd
    cases hz : coarserB b a with
    | true =>
      obtain rfl : a = b := by have := coarser_le hz; omega
      clear hz hs
      cases hy : coarserB a c
      all_goals
        go_enter Try.func6, Try.ntmps6
        go_wp2_with (first
          | (go_at_call 18; (with_reducible refine (grainShown_any _).mono ?_); rintro e w1 ⟨rfl, hb1⟩)
          | (go_at_call 20; (with_reducible refine (coarser_any _ _ _).mono ?_); rintro e w2 ⟨rfl, hb2⟩))
        go_ret
        exact ⟨rfl, by (repeat' (first | (with_reducible exact Below.refl _ _) | (with_reducible assumption) | (with_reducible refine Below.new ?_ _) | (with_reducible refine Below.alloc ?_ ?_ _) | (with_reducible refine Below.drew ?_) | (with_reducible refine Below.setCell ?_ ?_ _) | (refine Below.step ?_ (by assumption)) | go_size))⟩
    | false =>
      cases hy : coarserB b c with
      | true =>
        have hac := coarser_trans hx hy
        go_enter Try.func6, Try.ntmps6
        go_wp2_with (first
          | (go_at_call 18; (with_reducible refine (grainShown_any _).mono ?_); rintro e w1 ⟨rfl, hb1⟩)
          | (go_at_call 20; (with_reducible refine (coarser_any _ _ _).mono ?_); rintro e w2 ⟨rfl, hb2⟩))
        go_ret
        exact ⟨rfl, by (repeat' (first | (with_reducible exact Below.refl _ _) | (with_reducible assumption) | (with_reducible refine Below.new ?_ _) | (with_reducible refine Below.alloc ?_ ?_ _) | (with_reducible refine Below.drew ?_) | (with_reducible refine Below.setCell ?_ ?_ _) | (refine Below.step ?_ (by assumption)) | go_size))⟩
      | false =>
        go_enter Try.func6, Try.ntmps6
        go_wp2_with (first
          | (go_at_call 18; (with_reducible refine (grainShown_any _).mono ?_); rintro e w1 ⟨rfl, hb1⟩)
          | (go_at_call 20; (with_reducible refine (coarser_any _ _ _).mono ?_); rintro e w2 ⟨rfl, hb2⟩))
        go_ret
        exact ⟨rfl, by (repeat' (first | (with_reducible exact Below.refl _ _) | (with_reducible assumption) | (with_reducible refine Below.new ?_ _) | (with_reducible refine Below.alloc ?_ ?_ _) | (with_reducible refine Below.drew ?_) | (with_reducible refine Below.setCell ?_ ?_ _) | (refine Below.step ?_ (by assumption)) | go_size))⟩
  | false =>
    by_cases h1 : 1 ≤ a
    · by_cases h2 : a ≤ 1000000000
      · have hs : coarserB a a = true := by rw [coarser_self]; simp [h1, h2]
        go_enter Try.func6, Try.ntmps6
        go_wp2_with (first
          | (go_at_call 18; (with_reducible refine (grainShown_any _).mono ?_); rintro e w1 ⟨rfl, hb1⟩)
          | (go_at_call 20; (with_reducible refine (coarser_any _ _ _).mono ?_); rintro e w2 ⟨rfl, hb2⟩))
        go_ret
        exact ⟨rfl, by (repeat' (first | (with_reducible exact Below.refl _ _) | (with_reducible assumption) | (with_reducible refine Below.new ?_ _) | (with_reducible refine Below.alloc ?_ ?_ _) | (with_reducible refine Below.drew ?_) | (with_reducible refine Below.setCell ?_ ?_ _) | (refine Below.step ?_ (by assumption)) | go_size))⟩
      · have hs : coarserB a a = false := by rw [coarser_self]; simp [h2]
        have hd : decide (a ≤ 1000000000) = false := by simpa using h2
        go_enter Try.func6, Try.ntmps6
        go_wp2_with (first
          | (go_at_call 18; (with_reducible refine (grainShown_any _).mono ?_); rintro e w1 ⟨rfl, hb1⟩)
          | (go_at_call 20; (with_reducible refine (coarser_any _ _ _).mono ?_); rintro e w2 ⟨rfl, hb2⟩))
        go_ret
        exact ⟨rfl, by (repeat' (first | (with_reducible exact Below.refl _ _) | (with_reducible assumption) | (with_reducible refine Below.new ?_ _) | (with_reducible refine Below.alloc ?_ ?_ _) | (with_reducible refine Below.drew ?_) | (with_reducible refine Below.setCell ?_ ?_ _) | (refine Below.step ?_ (by assumption)) | go_size))⟩
    · have hs : coarserB a a = false := by rw [coarser_self]; simp [h1]
      have hd : decide (1 ≤ a) = false := by simpa using h1
      go_enter Try.func6, Try.ntmps6
      go_wp2_with (first
        | (go_at_call 18; (with_reducible refine (grainShown_any _).mono ?_); rintro e w1 ⟨rfl, hb1⟩)
        | (go_at_call 20; (with_reducible refine (coarser_any _ _ _).mono ?_); rintro e w2 ⟨rfl, hb2⟩))
      go_ret
      exact ⟨rfl, by (repeat' (first | (with_reducible exact Below.refl _ _) | (with_reducible assumption) | (with_reducible refine Below.new ?_ _) | (with_reducible refine Below.alloc ?_ ?_ _) | (with_reducible refine Below.drew ?_) | (with_reducible refine Below.setCell ?_ ?_ _) | (refine Below.step ?_ (by assumption)) | go_size))⟩

set_option maxRecDepth 100000 in
theorem GrainCoarser_lifted (os : Os) (started : os.Started) (H : Type) (enc : TypeId × Value → H) :
    ReturnsInHanded {} Try.checked os 6 .any (Rows.grainCoarserSpec.pre6 enc Try.prog Try.f6 Rows.grainCoarserRow.domain false) (Rows.grainCoarserSpec.post enc Try.prog Try.f6 false true false false) := by
  refine law_lift started (by kernel_rfl) Try.func6
    (ChangeSpec.witness6 (enc := enc) (C := Try.checked) false ⟨#[], #[.int .i64 0, .int .i64 0, .int .i64 0], []⟩ 8 (by kernel_rfl) (by kernel_rfl) (by kernel_rfl) (by kernel_rfl)) rfl rfl (by kernel_rfl) ?_ ?_
  · intro ds hl
    match ds, hl with
    | [_, _, _], _ => exact ⟨rfl, rfl, rfl⟩
  · intro W base args ds p hval hA hsz
    rw [Try.params6] at hA hval hsz
    obtain ⟨v0, vs0, d0, ds0, p0, q0, hargs, rfl, rfl, h0, r0⟩ := trodAll_cons hA
    obtain ⟨v1, vs1, d1, ds1, p1, q1, rfl, rfl, rfl, h1, r1⟩ := trodAll_cons r0
    obtain ⟨v2, vs2, d2, ds2, p2, q2, rfl, rfl, rfl, h2, r2⟩ := trodAll_cons r1
    obtain ⟨rfl, rfl, rfl⟩ := trodAll_nil r2
    obtain rfl : args = #[v0, v1, v2] := by cases args; simp_all
    obtain ⟨a0, rfl, b0⟩ := open_i64 Try.underlying2 (hval 0 2 v0 rfl rfl) h0
    obtain ⟨a1, rfl, b1⟩ := open_i64 Try.underlying2 (hval 1 2 v1 rfl rfl) h1
    obtain ⟨a2, rfl, b2⟩ := open_i64 Try.underlying2 (hval 2 2 v2 rfl rfl) h2
    exact GrainCoarser_walk a0 b0 a1 b1 a2 b2 W

theorem GrainCoarser_over : Rows.grainCoarserRow.holds Try.pinned (OpenSpec.ofChange Rows.grainCoarserSpec) :=
  OpenClaim.holds_of_wide 6 Try.f6 rfl rfl rfl rfl rfl rfl rfl ⟨rfl, rfl, rfl, rfl, rfl⟩ rfl rfl rfl rfl rfl (by kernel_rfl) Try.func6 (by kernel_rfl)
    (of_decide_eq_true (by kernel_rfl)) (by unfold Func.isWrapper; first | (rw [if_pos (by decide +kernel)]; kernel_rfl) | (rw [if_neg (by decide +kernel)]; exact ⟨rfl, rfl⟩))
    (fun os started H enc _ => GrainCoarser_lifted os started H enc)

/-- The statement. -/
theorem GrainCoarser_proved : Rows.GrainCoarserSaid := GrainCoarser_over
end Go.Proofs.Ytekmcomddaoljaa
