/- WideCompares holds: wide numbers of numbers are in their order, and a sum is greater by what is above 0. No condition. -/
import Derived.Test.YtekmcomddaoljaaWideS
import Derived.Test.YtekmcomddaoljaaWideD
import Derived.Test.YtekmcomddaoljaaOpenA
import Derived.Deep.DeepCutAuto
import Derived.Deep.RegionWith
namespace Go.Proofs.Ytekmcomddaoljaa
set_option linter.unusedVariables false
set_option linter.unusedSimpArgs false
open Go.ChangeShapes Go.WideShapes Go.ChangeAt Go.RowKit Go.Joins

theorem cmpW_num {a b c d x y : Int} (h1 : x = a * 18446744073709551616 + b) (h2 : y = c * 18446744073709551616 + d) (hb : 0 ≤ b ∧ b ≤ 18446744073709551615) (hd : 0 ≤ d ∧ d ≤ 18446744073709551615) : cmpW a b c d = sgnI x y := by
  unfold cmpW sgnI
  repeat' split
  all_goals omega
theorem words_small {x : Int} (h : -170141183460469231731687303715884105728 ≤ x ∧ x < 170141183460469231731687303715884105728) : x = hiW x * 18446744073709551616 + loW x := by
  unfold hiW loW; omega

set_option maxRecDepth 100000 in
set_option maxHeartbeats 4000000 in
theorem WideCompares_walk (n : Int) (hn : I64 n) (m : Int) (hm : I64 m) (a b : Int) (ha : I64 a) (hb : U64 b) (w : World) :
    Calls Try.prog 15 #[.int .i64 n, .int .i64 m, .agg #[.int .i64 a, .int .u64 b]] w fun e w' => e = .returned (.bool true) ∧ Below w.heap.size w w' := by
  have O1 := fun w => of_any n hn w
  have O2 := fun w => of_any m hm w
  have AD := fun w => add_any (a * 18446744073709551616 + b) n w
  rw [← wv_words ha hb] at AD
  have C1 := fun w => cmp_words (hiW n) (loW n) (hiW m) (loW m) w
  rw [cmpW_num (words_small (by unfold I64 at hn; omega)) (words_small (by unfold I64 at hm; omega)) (loW_is n) (loW_is m)] at C1
  have C2 : ¬ (4611686018427387904 ≤ a) → ¬ (a < -4611686018427387904) → ∀ w, Calls Try.prog 45 #[(Value.agg #[.int .i64 (hiW (a * 18446744073709551616 + b + n)), .int .u64 (loW (a * 18446744073709551616 + b + n))]), .agg #[.int .i64 a, .int .u64 b]] w fun e w' => e = .returned (.int .i64 (sgnI n 0)) ∧ Below w.heap.size w w' := fun q1 q2 w => by
    have := cmp_words (hiW (a * 18446744073709551616 + b + n)) (loW (a * 18446744073709551616 + b + n)) a b w
    rw [cmpW_num (words_small (by unfold I64 at hn ha; unfold U64 at hb; omega)) rfl (loW_is _) hb] at this
    rw [show sgnI n 0 = sgnI (a * 18446744073709551616 + b + n) (a * 18446744073709551616 + b) by unfold sgnI; (repeat' split) <;> omega]
    exact this
  generalize hiW (a * 18446744073709551616 + b + n) = Sh at AD C2; generalize loW (a * 18446744073709551616 + b + n) = Sl at AD C2
  generalize hiW n = Nh at O1 AD C1; generalize loW n = Nl at O1 AD C1
  generalize hiW m = Mh at O2 C1; generalize loW m = Ml at O2 C1
  replace O1 := hid O1; replace O2 := hid O2; replace AD := hid AD; replace C1 := hid C1; replace C2 := hid C2
  clear ha hb
  go_enter Try.func15, Try.ntmps15
  go_upto_if 15 with (go_at_call 30; (with_reducible refine (wideShown_any _).mono ?_); rintro e w1 ⟨rfl, hb1⟩; obtain ⟨hc1, hf1, hk1, hz1⟩ := bcell3 hb1; (try simp only [World.size_alloc] at hz1); have : w.heap.size < w1.heap.size := (by omega))
  go_cut [8] (fun s8 wx => s8 = .int .i64 (sgnI n m) ∧ Below (w.alloc (.cells #[.int .i64 a, .int .u64 b] 39)).heap.size (w.alloc (.cells #[.int .i64 a, .int .u64 b] 39)) wx)
  case first =>
    clear hc1 hf1 hk1
    go_wp2_with fail
    all_goals (go_meet; exact ⟨congrArg (Value.int .i64) (by unfold sgnI; (repeat' split) <;> omega), hb1⟩)
  case rest =>
    obtain ⟨rfl, hcb⟩ := hcut
    clear hc1 hf1 hk1 hb1 hz1 this
    obtain ⟨S, hS⟩ : ∃ S, sgnI n m = S := ⟨_, rfl⟩
    rw [hS] at C1 ⊢
    clear hS
    obtain ⟨hcc, hfc, hkc, hzc⟩ := bcell3 hcb
    have s0 : wc.cell? ⟨w.heap.size, 0, none⟩ = some (.int .i64 a) := by rw [hcc _ _ (by simp)]; go_simp
    have s1 : wc.cell? ⟨w.heap.size, 1, none⟩ = some (.int .u64 b) := by rw [hcc _ _ (by simp)]; go_simp
    simp only [World.size_alloc] at hzc
    have hsz : w.heap.size < wc.heap.size := by omega
    clear hcc hfc hkc
    have hB : Below w.heap.size w wc := by (repeat' (first | (with_reducible exact Below.refl _ _) | (with_reducible assumption) | (with_reducible refine Below.new ?_ _) | (with_reducible refine Below.alloc ?_ ?_ _) | (with_reducible refine Below.drew ?_) | (with_reducible refine Below.setCell ?_ ?_ _) | (refine Below.step ?_ (by assumption)) | go_size))
    clear hcb
    obtain ⟨V, rfl⟩ : ∃ V, V = wc := ⟨_, rfl⟩
    go_upto_region 7 with fail
    go_cut [9] (fun s9 wx => ∃ B : Nat, s9 = .pointer (some ⟨B, 0, none⟩) ∧ wx.cell? ⟨B, 0, none⟩ = some (.int .i64 Sh) ∧ wx.cell? ⟨B, 1, none⟩ = some (.int .u64 Sl) ∧ Below V.heap.size V wx)
    case first =>
      go_region_with (first
        | (go_at_call 39; (with_reducible refine (O1.out _).mono ?_); rintro e w2 ⟨rfl, hb2⟩; obtain ⟨hc2, hf2, hk2, hz2⟩ := bcell3 hb2; (try simp only [World.size_alloc] at hz2); (try have hq2 : V.heap.size < w2.heap.size := (by (simp only [World.size_drew, World.size_alloc] at hz2); omega)); have hbb2 : Below V.heap.size V w2 := (by (repeat' (first | (with_reducible exact Below.refl _ _) | (with_reducible assumption) | (with_reducible refine Below.new ?_ _) | (with_reducible refine Below.alloc ?_ ?_ _) | (with_reducible refine Below.drew ?_) | (with_reducible refine Below.setCell ?_ ?_ _) | (refine Below.step ?_ (by assumption)) | go_size))); have hs2 : w.heap.size < w2.heap.size := (by have := hbb2.size; omega); have e20 := cell_step s0 hbb2; have e21 := cell_step s1 hbb2)
        | (go_at_call 34; (with_reducible refine (AD.out _).mono ?_); rintro e w3 ⟨rfl, hb3⟩; obtain ⟨hc3, hf3, hk3, hz3⟩ := bcell3 hb3; (try simp only [World.size_alloc] at hz3); (try have hq3 : V.heap.size < w3.heap.size := (by (simp only [World.size_drew, World.size_alloc] at hz3); omega)); have hbb3 : Below V.heap.size V w3 := (by (repeat' (first | (with_reducible exact Below.refl _ _) | (with_reducible assumption) | (with_reducible refine Below.new ?_ _) | (with_reducible refine Below.alloc ?_ ?_ _) | (with_reducible refine Below.drew ?_) | (with_reducible refine Below.setCell ?_ ?_ _) | (refine Below.step ?_ (by assumption)) | go_size))); have e30 := cell_step s0 hbb3; have e31 := cell_step s1 hbb3))
      all_goals (go_wp2_with fail; go_meet; exact ⟨_, rfl, by go_simp, by go_simp, (by ((repeat' (first | (with_reducible exact Below.refl _ _) | (with_reducible assumption) | (with_reducible refine Below.new ?_ _) | (with_reducible refine Below.alloc ?_ ?_ _) | (with_reducible refine Below.drew ?_) | (with_reducible refine Below.setCell ?_ ?_ _) | (refine Below.step ?_ (by assumption)) | go_size))); all_goals first | exact hbb2.size | exact hbb3.size | (simp; omega))⟩)
    case rest =>
      obtain ⟨B, rfl, b0, b1, hbc⟩ := hcut
      have t0 := cell_step s0 hbc
      have t1 := cell_step s1 hbc
      have hB2 : Below w.heap.size w wc := hB.step hbc
      clear s0 s1 hbc hB hsz AD hzc
      obtain ⟨U, rfl⟩ : ∃ U, U = wc := ⟨_, rfl⟩
      go_upto_region 8 with fail
      go_cut [10] (fun s10 wx => ∃ o : Bool, s10 = .bool o ∧ (o = false → ¬ (4611686018427387904 ≤ a) ∧ ¬ (a < -4611686018427387904)) ∧ wx = U)
      case first =>
        by_cases q1 : 4611686018427387904 ≤ a
        · go_wp2_with fail
          go_meet
          exact ⟨_, rfl, by simp [q1], rfl⟩
        · have q1' : decide (4611686018427387904 ≤ a) = false := by simp [q1]
          by_cases q2 : a < -4611686018427387904
          · go_wp2_with fail
            go_meet
            exact ⟨_, rfl, by simp [q2], rfl⟩
          · go_wp2_with fail
            go_meet
            exact ⟨_, rfl, fun _ => ⟨q1, q2⟩, rfl⟩
      case rest =>
        obtain ⟨o, rfl, ho, rfl⟩ := hcut
        go_upto_if 32 with fail
        go_cut [11] (fun s11 wx => s11 = .int .i64 (sgnI n 0) ∧ wx = wc)
        case first =>
          go_wp2_with fail
          all_goals (go_meet; exact ⟨congrArg (Value.int .i64) (by unfold sgnI; (repeat' split) <;> omega), rfl⟩)
        case rest =>
          obtain ⟨rfl, rfl⟩ := hcut
          obtain ⟨T, hT⟩ : ∃ T, sgnI n 0 = T := ⟨_, rfl⟩
          rw [hT] at C2 ⊢
          clear hT
          cases o with
          | true =>
            clear ho
            go_wp2_with (first
              | (go_at_call 39; (first | with_reducible refine (O1.out _).mono ?_ | with_reducible refine (O2.out _).mono ?_); rintro e w4 ⟨rfl, hb4⟩; (replace t0 := cell_step t0 hb4); (replace t1 := cell_step t1 hb4); (replace b0 := cell_step b0 hb4); (replace b1 := cell_step b1 hb4); (replace hB2 := hB2.step hb4); clear hb4)
              | (go_at_call 45; (first | with_reducible refine (C1.out _).mono ?_); rintro e w4 ⟨rfl, hb4⟩; (replace t0 := cell_step t0 hb4); (replace t1 := cell_step t1 hb4); (replace b0 := cell_step b0 hb4); (replace b1 := cell_step b1 hb4); (replace hB2 := hB2.step hb4); clear hb4))
            go_ret
            exact ⟨rfl, hB2⟩
          | false =>
            have C3 := hid (C2.out (by have := (ho rfl).1; omega) (by have := (ho rfl).2; omega))
            clear ho
            go_wp2_with (first
              | (go_at_call 39; (first | with_reducible refine (O1.out _).mono ?_ | with_reducible refine (O2.out _).mono ?_); rintro e w4 ⟨rfl, hb4⟩; (replace t0 := cell_step t0 hb4); (replace t1 := cell_step t1 hb4); (replace b0 := cell_step b0 hb4); (replace b1 := cell_step b1 hb4); (replace hB2 := hB2.step hb4); clear hb4)
              | (go_at_call 45; (first | with_reducible refine (C1.out _).mono ?_ | with_reducible refine (C3.out _).mono ?_); rintro e w4 ⟨rfl, hb4⟩; (replace t0 := cell_step t0 hb4); (replace t1 := cell_step t1 hb4); (replace b0 := cell_step b0 hb4); (replace b1 := cell_step b1 hb4); (replace hB2 := hB2.step hb4); clear hb4))
            go_ret
            exact ⟨rfl, hB2⟩
set_option maxRecDepth 100000 in
theorem WideCompares_lifted (os : Os) (started : os.Started) (H : Type) (enc : TypeId × Value → H) :
    ReturnsInHanded {} Try.checked os 15 .any (Rows.wideComparesSpec.pre6 enc Try.prog Try.f15 Rows.wideComparesRow.domain false) (Rows.wideComparesSpec.post enc Try.prog Try.f15 false true false false) := by
  refine law_lift started (by kernel_rfl) Try.func15
    (ChangeSpec.witness6 (enc := enc) (C := Try.checked) false ⟨#[], #[.int .i64 0, .int .i64 0, .agg #[.int .i64 0, .int .u64 0]], []⟩ 8 (by kernel_rfl) (by kernel_rfl) (by kernel_rfl) (by kernel_rfl)) rfl rfl (by kernel_rfl) ?_ ?_
  · intro ds hl
    match ds, hl with
    | [_, _, _], _ => exact ⟨rfl, rfl, rfl⟩
  · intro W base args ds p hval hA hsz
    rw [Try.params15] at hA hval hsz
    obtain ⟨v0, vs0, d0, ds0, p0, q0, hargs, rfl, rfl, h0, r0⟩ := trodAll_cons hA
    obtain ⟨v1, vs1, d1, ds1, p1, q1, rfl, rfl, rfl, h1, r1⟩ := trodAll_cons r0
    obtain ⟨v2, vs2, d2, ds2, p2, q2, rfl, rfl, rfl, h2, r2⟩ := trodAll_cons r1
    obtain ⟨rfl, rfl, rfl⟩ := trodAll_nil r2
    obtain rfl : args = #[v0, v1, v2] := by cases args; simp_all
    obtain ⟨a0, rfl, b0⟩ := open_i64 Try.underlying2 (hval 0 2 v0 rfl rfl) h0
    obtain ⟨a1, rfl, b1⟩ := open_i64 Try.underlying2 (hval 1 2 v1 rfl rfl) h1
    obtain ⟨a2, c2, rfl, b2, e2⟩ := open_wide (hval 2 39 v2 rfl rfl) h2
    exact WideCompares_walk a0 b0 a1 b1 a2 c2 b2 e2 W

theorem WideCompares_over : Rows.wideComparesRow.holds Try.pinned (OpenSpec.ofChange Rows.wideComparesSpec) :=
  OpenClaim.holds_of_wide 15 Try.f15 rfl rfl rfl rfl rfl rfl rfl ⟨rfl, rfl, rfl, rfl, rfl⟩ rfl rfl rfl rfl rfl (by kernel_rfl) Try.func15 (by kernel_rfl)
    (of_decide_eq_true (by kernel_rfl)) (by unfold Func.isWrapper; first | (rw [if_pos (by decide +kernel)]; kernel_rfl) | (rw [if_neg (by decide +kernel)]; exact ⟨rfl, rfl⟩))
    (fun os started H enc _ => WideCompares_lifted os started H enc)

/-- The statement. -/
theorem WideCompares_proved : Rows.WideComparesSaid := WideCompares_over
end Go.Proofs.Ytekmcomddaoljaa
