/- GrainTwice holds: cutting twice, first finely, then more coarsely, is cutting once. No condition. -/
import Derived.Test.YtekmcomddaoljaaGrainS
import Derived.Test.YtekmcomddaoljaaOpenA
namespace Go.Proofs.Ytekmcomddaoljaa
open Go.ChangeShapes Go.WideShapes Go.ChangeAt Go.RowKit Go.Joins

theorem twice_mod (t f m : Int) (ht : 0 ≤ t) (hf : 1 ≤ f) (hm : 1 ≤ m) : (t - t % f) - (t - t % f) % (f * m) = t - t % (f * m) := by
  have h1 : t - t % f = f * (t / f) := by have := Int.mul_ediv_add_emod t f; omega
  rw [h1, Int.mul_emod_mul_of_pos _ _ (by omega)]
  have h2 : (t / f) / m = t / (f * m) := Int.ediv_ediv_of_nonneg (by omega)
  have h3 : t / f - (t / f) % m = m * ((t / f) / m) := by have := Int.mul_ediv_add_emod (t / f) m; omega
  have h4 : t - t % (f * m) = f * m * (t / (f * m)) := by have := Int.mul_ediv_add_emod t (f * m); omega
  rw [← Int.mul_sub, h3, h4, h2, Int.mul_assoc]

theorem GrainTwice_walk (t : Int) (ht : I64 t) (fine : Int) (hf : I64 fine) (times : Int) (hm : I64 times) (w : World) :
    Calls Try.prog 3 #[.int .i64 t, .int .i64 fine, .int .i64 times] w fun e w' => e = .returned (.bool true) ∧ Below w.heap.size w w' := by
  by_cases hin : (1 ≤ times ∧ times ≤ 1000) ∧ (1 ≤ fine ∧ fine ≤ 1000000)
  · have hp1 : 1 ≤ fine * times := by
      have := Int.mul_le_mul hin.2.1 hin.1.1 (by omega) (by omega); omega
    have hp2 : fine * times ≤ 1000000000 := by
      have := Int.mul_le_mul hin.2.2 hin.1.2 (by omega) (by omega); omega
    have g1 : isGrainB fine = true := (isGrainB_iff _).2 (by omega)
    have g2 : isGrainB (fine * times) = true := (isGrainB_iff _).2 ⟨hp1, hp2⟩
    by_cases hT : isTimeB t = true
    · have hT' := (isTimeB_iff t).1 hT
      have hm1 := Int.emod_nonneg t (b := fine) (by omega)
      have hm2 := Int.emod_lt_of_pos t (b := fine) (by omega)
      have hm3 : t % fine ≤ t := by
        have h5 := Int.mul_ediv_add_emod t fine
        have h6 : 0 ≤ fine * (t / fine) := Int.mul_nonneg (by omega) (Int.ediv_nonneg (by omega) (by omega))
        omega
      have hv : cutV t fine = t - t % fine := by simp [cutV, hT, g1]
      obtain ⟨a, ha⟩ : ∃ a, a = t - t % fine := ⟨_, rfl⟩
      have hTa : isTimeB a = true := (isTimeB_iff a).2 (by omega)
      have hv1 : cutV t fine = a := by rw [hv, ha]
      have he1 : cutE t fine = 0 := by simp [cutE, hT, g1]
      have he2 : cutE a (fine * times) = 0 := by simp [cutE, hTa, g2]
      have he3 : cutE t (fine * times) = 0 := by simp [cutE, hT, g2]
      have hv2 : cutV a (fine * times) = cutV t (fine * times) := by
        rw [cutV, if_pos (by simp [hTa, g2]), cutV, if_pos (by simp [hT, g2]), ha]
        exact twice_mod t fine times hT'.1 hin.2.1 hin.1.1
      have hco : coarserB fine (fine * times) = true := by simp [coarserB, g1, g2, Int.mul_emod_right]
      have hle : a ≤ t := by omega
      have hlt : t - a < fine := by omega
      have ha0 : 0 ≤ a := by omega
      clear hv ha hm1 hm2 hm3 g1 g2 hT hTa
      go_enter Try.func3, Try.ntmps3
      go_wp2_with (first
        | (go_at_call 18; (with_reducible refine (grainShown_any _).mono ?_); rintro e w1 ⟨rfl, hb1⟩)
        | (go_at_call 19; (with_reducible refine (cut_any _ _ _).mono ?_); rintro e w2 ⟨rfl, hb2⟩)
        | (go_at_call 20; (with_reducible refine (coarser_any _ _ _).mono ?_); rintro e w3 ⟨rfl, hb3⟩))
      go_ret
      exact ⟨rfl, by (repeat' (first | (with_reducible exact Below.refl _ _) | (with_reducible assumption) | (with_reducible refine Below.new ?_ _) | (with_reducible refine Below.alloc ?_ ?_ _) | (with_reducible refine Below.drew ?_) | (with_reducible refine Below.setCell ?_ ?_ _) | (refine Below.step ?_ (by assumption)) | go_size))⟩
    · have he1 : cutE t fine = 110 := by simp [cutE, hT]
      have he3 : cutE t (fine * times) = 110 := by simp [cutE, hT]
      have hv3 : cutV t (fine * times) = 0 := by simp [cutV, hT]
      clear hT
      go_enter Try.func3, Try.ntmps3
      go_wp2_with (first
        | (go_at_call 18; (with_reducible refine (grainShown_any _).mono ?_); rintro e w1 ⟨rfl, hb1⟩)
        | (go_at_call 19; (with_reducible refine (cut_any _ _ _).mono ?_); rintro e w2 ⟨rfl, hb2⟩))
      go_ret
      exact ⟨rfl, by (repeat' (first | (with_reducible exact Below.refl _ _) | (with_reducible assumption) | (with_reducible refine Below.new ?_ _) | (with_reducible refine Below.alloc ?_ ?_ _) | (with_reducible refine Below.drew ?_) | (with_reducible refine Below.setCell ?_ ?_ _) | (refine Below.step ?_ (by assumption)) | go_size))⟩
  · go_enter Try.func3, Try.ntmps3
    go_wp2_with (first
      | (go_at_call 18; (with_reducible refine (grainShown_any _).mono ?_); rintro e w1 ⟨rfl, hb1⟩)
      | (go_at_call 19; fail))
    all_goals go_ret
    all_goals exact ⟨rfl, by (repeat' (first | (with_reducible exact Below.refl _ _) | (with_reducible assumption) | (with_reducible refine Below.new ?_ _) | (with_reducible refine Below.alloc ?_ ?_ _) | (with_reducible refine Below.drew ?_) | (with_reducible refine Below.setCell ?_ ?_ _) | (refine Below.step ?_ (by assumption)) | go_size))⟩

set_option maxRecDepth 100000 in
theorem GrainTwice_lifted (os : Os) (started : os.Started) (H : Type) (enc : TypeId × Value → H) :
    ReturnsInHanded {} Try.checked os 3 .any (Rows.grainTwiceSpec.pre6 enc Try.prog Try.f3 Rows.grainTwiceRow.domain false) (Rows.grainTwiceSpec.post enc Try.prog Try.f3 false true false false) := by
  refine law_lift started (by kernel_rfl) Try.func3
    (ChangeSpec.witness6 (enc := enc) (C := Try.checked) false ⟨#[], #[.int .i64 0, .int .i64 0, .int .i64 0], []⟩ 8 (by kernel_rfl) (by kernel_rfl) (by kernel_rfl) (by kernel_rfl)) rfl rfl (by kernel_rfl) ?_ ?_
  · intro ds hl
    match ds, hl with
    | [_, _, _], _ => exact ⟨rfl, rfl, rfl⟩
  · intro W base args ds p hval hA hsz
    rw [Try.params3] at hA hval hsz
    obtain ⟨v0, vs0, d0, ds0, p0, q0, hargs, rfl, rfl, h0, r0⟩ := trodAll_cons hA
    obtain ⟨v1, vs1, d1, ds1, p1, q1, rfl, rfl, rfl, h1, r1⟩ := trodAll_cons r0
    obtain ⟨v2, vs2, d2, ds2, p2, q2, rfl, rfl, rfl, h2, r2⟩ := trodAll_cons r1
    obtain ⟨rfl, rfl, rfl⟩ := trodAll_nil r2
    obtain rfl : args = #[v0, v1, v2] := by cases args; simp_all
    obtain ⟨a0, rfl, b0⟩ := open_i64 Try.underlying2 (hval 0 2 v0 rfl rfl) h0
    obtain ⟨a1, rfl, b1⟩ := open_i64 Try.underlying2 (hval 1 2 v1 rfl rfl) h1
    obtain ⟨a2, rfl, b2⟩ := open_i64 Try.underlying2 (hval 2 2 v2 rfl rfl) h2
    exact GrainTwice_walk a0 b0 a1 b1 a2 b2 W

theorem GrainTwice_over : Rows.grainTwiceRow.holds Try.pinned (OpenSpec.ofChange Rows.grainTwiceSpec) :=
  OpenClaim.holds_of_wide 3 Try.f3 rfl rfl rfl rfl rfl rfl rfl ⟨rfl, rfl, rfl, rfl, rfl⟩ rfl rfl rfl rfl rfl (by kernel_rfl) Try.func3 (by kernel_rfl)
    (of_decide_eq_true (by kernel_rfl)) (by unfold Func.isWrapper; first | (rw [if_pos (by decide +kernel)]; kernel_rfl) | (rw [if_neg (by decide +kernel)]; exact ⟨rfl, rfl⟩))
    (fun os started H enc _ => GrainTwice_lifted os started H enc)

/-- The statement. -/
theorem GrainTwice_proved : Rows.GrainTwiceSaid := GrainTwice_over
end Go.Proofs.Ytekmcomddaoljaa
