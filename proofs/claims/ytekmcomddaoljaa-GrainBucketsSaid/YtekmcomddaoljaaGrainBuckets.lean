/- GrainBuckets holds: a span's buckets are apart by the grain, each is of the span and is its own cut; a time is of the span just if its cut is one of them. No condition. -/
import Derived.Test.YtekmcomddaoljaaGrainFits
import Derived.Test.YtekmcomddaoljaaQuiet
namespace Go.Proofs.Ytekmcomddaoljaa
set_option linter.unusedVariables false
set_option linter.unusedSimpArgs false
open Go.ChangeShapes Go.WideShapes Go.ChangeAt Go.RowKit Go.Joins

theorem buckets_not (f t g : Int) (h : bucketsOk f t g = false) (w : World) : Calls Try.prog 24 #[.agg #[.int .i64 f, .int .i64 t], .int .i64 g] w fun e w' => ∃ ao cap, e = .returned (.tuple #[.slice ao 0 cap, .int .i64 110]) ∧ Below w.heap.size w w' :=
  (buckets_any f t g w).mono fun e w' ⟨v, he, ho, _, hb⟩ => by
    have hL : bucketsL f t g = [] := by simp [bucketsL, h]
    have hE : bucketsE f t g = 110 := by simp [bucketsE, h]
    rw [hL] at ho
    rw [hE] at he
    obtain ⟨ao, cap, rfl⟩ := ho.form
    exact ⟨ao, cap, he, hb⟩
theorem buckets_ok (f t g : Int) (h : bucketsOk f t g = true) (w : World) : Calls Try.prog 24 #[.agg #[.int .i64 f, .int .i64 t], .int .i64 g] w fun e w' => ∃ ao cap, e = .returned (.tuple #[.slice ao (bucketsN f t g) cap, .int .i64 0]) ∧
    (0 < bucketsN f t g → ∃ a o, ao = some ⟨a, o, none⟩ ∧ ∀ k, k < bucketsN f t g → w'.cell? ⟨a, o + k, none⟩ = some (.int .i64 (f + (k : Int) * g))) ∧ Below w.heap.size w w' :=
  (buckets_any f t g w).mono fun e w' ⟨v, he, ho, _, hb⟩ => by
    have hL : bucketsL f t g = multsL f g (bucketsN f t g) := by simp [bucketsL, h]
    have hE : bucketsE f t g = 0 := by simp [bucketsE, h]
    have hi := IntsAt.own ho
    rw [hL] at hi ho
    rw [hE] at he
    obtain ⟨ao, cap, rfl, hc⟩ := hi
    rw [multsL_length] at he hc
    refine ⟨ao, cap, he, fun h0 => ?_, hb⟩
    obtain ⟨a, o, e1, e2⟩ := hc h0
    refine ⟨a, o, e1, fun k hk => ?_⟩
    rw [e2 k hk]
    simp [multsL, hk]

/-- Whether a time's cut is among the first k of a span's buckets. -/
def inB (f x g : Int) (k : Nat) : Bool := decide (cutE x g = 0) && decide (f ≤ cutV x g) && decide (cutV x g < f + (k : Int) * g)
theorem inB_zero (f x g : Int) : inB f x g 0 = false := by
  simp [inB]
theorem inB_110 {f x g : Int} (k : Nat) (h : cutE x g = 110) : inB f x g k = false := by simp [inB, h]
theorem cutE_two (x g : Int) : cutE x g = 0 ∨ cutE x g = 110 := by unfold cutE; split <;> simp
theorem cutE_zero {x g : Int} (h : cutE x g = 0) : (0 ≤ x ∧ x < 1000000000001) ∧ (1 ≤ g ∧ g ≤ 1000000000) ∧ cutV x g = x - x % g := by
  have hh : (isTimeB x && isGrainB g) = true := by
    cases hq : (isTimeB x && isGrainB g) with
    | true => rfl
    | false => simp [cutE, hq] at h
  have h2 := hh
  simp only [Bool.and_eq_true] at h2
  exact ⟨(isTimeB_iff _).1 h2.1, (isGrainB_iff _).1 h2.2, by simp [cutV, hh]⟩
theorem inB_true {f x g : Int} {k : Nat} (hg : 1 ≤ g) (h : inB f x g k = true) : inB f x g (k + 1) = true := by
  simp [inB] at h ⊢
  have : ((k : Int) + 1) * g = (k : Int) * g + g := by rw [Int.add_mul]; simp
  rw [this]
  exact ⟨h.1, by omega⟩
theorem inB_hit {f x g : Int} {k : Nat} (hg : 1 ≤ g) (h : cutE x g = 0) (h2 : f + (k : Int) * g = cutV x g) : inB f x g (k + 1) = true := by
  have h3 : 0 ≤ (k : Int) * g := Int.mul_nonneg (by omega) (by omega)
  simp [inB, h]
  have : ((k : Int) + 1) * g = (k : Int) * g + g := by rw [Int.add_mul]; simp
  rw [this]
  omega
theorem inB_miss {f x g : Int} {k : Nat} (hf : f % g = 0) (h : inB f x g k = false) (h2 : ¬ f + (k : Int) * g = cutV x g) : inB f x g (k + 1) = false := by
  by_cases h0 : cutE x g = 0
  · obtain ⟨hx, hg, hv⟩ := cutE_zero h0
    simp [inB, h0] at h ⊢
    intro h3
    have h4 := h h3
    have : ((k : Int) + 1) * g = (k : Int) * g + g := by rw [Int.add_mul]; simp
    rw [this]
    by_cases h5 : f + ((k : Int) * g + g) ≤ cutV x g
    · exact h5
    exfalso
    have e1 := Int.mul_ediv_add_emod x g
    have e2 := Int.mul_ediv_add_emod f g
    have e3 : g * (f / g + k) = g * (f / g) + (k : Int) * g := by rw [Int.mul_add, Int.mul_comm g (k : Int)]
    have e4 : g * (f / g + k + 1) = g * (f / g) + (k : Int) * g + g := by rw [Int.mul_add, e3]; simp
    have h6 : f / g + k < x / g := Int.lt_of_mul_lt_mul_left (a := g) (by omega) (by omega)
    have h7 : x / g < f / g + k + 1 := Int.lt_of_mul_lt_mul_left (a := g) (by omega) (by omega)
    omega
  · simp [inB, h0]
theorem inB_all {f t x g : Int} (hF : fitsB f t g = true) (h0 : cutE x g = 0) : inB f x g (bucketsN f t g) = hasB f t x := by
  have hF' := (fitsB_iff f t g).1 hF
  obtain ⟨hx, hg, hv⟩ := cutE_zero h0
  have hr : rightB f t = true := (rightB_iff f t).2 hF'.1
  have hc := cut_has (f := f) (t := t) (x := x) (g := g) (by omega) (by omega) (by omega) (by omega) hF'.2.2.1 hF'.2.2.2
  rw [← hv] at hc
  rw [Bool.eq_iff_iff]
  simp only [inB, hasB, h0, hr, decide_true, Bool.true_and, Bool.and_eq_true, decide_eq_true_eq]
  rw [← hc.1, ← hc.2]
  refine and_congr_right fun h1 => ?_
  have e1 := Int.mul_ediv_add_emod x g
  have e2 := Int.mul_ediv_add_emod f g
  have h6 : f / g ≤ x / g := by
    have : g * (f / g) ≤ g * (x / g) := by omega
    exact Int.le_of_mul_le_mul_left this (by omega)
  obtain ⟨j, hj⟩ : ∃ j : Nat, x / g = f / g + j := ⟨(x / g - f / g).toNat, by omega⟩
  have e3 : g * (f / g + j) = g * (f / g) + (j : Int) * g := by rw [Int.mul_add, Int.mul_comm g (j : Int)]
  have e5 : cutV x g = f + (j : Int) * g := by rw [hj] at e1; omega
  rw [e5, bucket_lt (t := t) (by omega) (by omega)]
  constructor
  · intro h
    have : (j : Int) * g < (bucketsN f t g : Int) * g := by omega
    have := Int.lt_of_mul_lt_mul_right this (by omega)
    omega
  · intro h
    have : (j : Int) * g < (bucketsN f t g : Int) * g := Int.mul_lt_mul_of_pos_right (by omega) (by omega)
    omega

/-- What is shown of each bucket. -/
theorem bucket_is {f t g : Int} (hF : fitsB f t g = true) (k : Nat) (hk : k < bucketsN f t g) :
    cutV (f + (k : Int) * g) g = f + (k : Int) * g ∧ cutE (f + (k : Int) * g) g = 0 ∧ hasB f t (f + (k : Int) * g) = true ∧ 0 ≤ (k : Int) * g ∧ f + (k : Int) * g < t := by
  have hF' := (fitsB_iff f t g).1 hF
  have h3 : 0 ≤ (k : Int) * g := Int.mul_nonneg (by omega) (by omega)
  have h4 := (bucket_lt (f := f) (t := t) (g := g) (by omega) (by omega) k).2 hk
  have h5 : (isTimeB (f + (k : Int) * g) && isGrainB g) = true := by
    rw [Bool.and_eq_true]
    exact ⟨(isTimeB_iff _).2 (by omega), (isGrainB_iff _).2 hF'.2.1⟩
  have h6 : (f + (k : Int) * g) % g = 0 := by rw [Int.add_mul_emod_self_right]; exact hF'.2.2.1
  have hr : rightB f t = true := (rightB_iff f t).2 hF'.1
  refine ⟨by simp [cutV, h5, h6], by simp [cutE, h5], ?_, h3, h4⟩
  simp [hasB, hr]
  omega

set_option maxRecDepth 100000 in
set_option maxHeartbeats 4000000 in
theorem GrainBuckets_walk (f t : Int) (hf : I64 f) (ht : I64 t) (g : Int) (hg : I64 g) (x : Int) (hx : I64 x) (w : World) :
    Calls Try.prog 5 #[.agg #[.int .i64 f, .int .i64 t], .int .i64 g, .int .i64 x] w fun e w' => e = .returned (.bool true) ∧ Below w.heap.size w w' := by
  cases h1 : bucketsOk f t g with
  | false =>
    go_enter Try.func5, Try.ntmps5
    go_wp2_with (first
      | (go_at_call 18; (with_reducible refine (grainShown_any _).mono ?_); rintro e w1 ⟨rfl, hb1⟩; obtain ⟨hc1, hf1, hk1, hz1⟩ := bcell3 hb1; (try simp only [World.size_alloc] at hz1); have : w.heap.size < w1.heap.size := (by omega))
      | (go_at_call 24; (with_reducible refine (buckets_not _ _ _ h1 _).mono ?_); rintro e w2 ⟨ao, cap, rfl, hb2⟩; obtain ⟨hc2, hf2, hk2, hz2⟩ := bcell3 hb2; (try simp only [World.size_alloc] at hz2); have : w.heap.size < w2.heap.size := (by omega)))
    go_ret
    exact ⟨rfl, by (repeat' (first | (with_reducible exact Below.refl _ _) | (with_reducible assumption) | (with_reducible refine Below.new ?_ _) | (with_reducible refine Below.alloc ?_ ?_ _) | (with_reducible refine Below.drew ?_) | (with_reducible refine Below.setCell ?_ ?_ _) | (refine Below.step ?_ (by assumption)) | go_size))⟩
  | true =>
    have hF : fitsB f t g = true := by simp [bucketsOk] at h1; exact h1.1
    have hN : bucketsN f t g ≤ 1000 := by simp [bucketsOk] at h1; exact h1.2
    have hF' := (fitsB_iff f t g).1 hF
    have HB := hid (bucket_is hF)
    have HA := hid (fun h => inB_all (x := x) hF h)
    have HK := hid (buckets_ok f t g h1)
    have HM := hid (fun k => inB_miss (x := x) (k := k) hF'.2.2.1)
    clear h1 hF
    obtain ⟨N, hNe⟩ : ∃ N, bucketsN f t g = N := ⟨_, rfl⟩
    rw [hNe] at HB HA HK hN
    clear hNe
    have hfg := hF'.1; have hgg := hF'.2.1
    clear hF'
    obtain ⟨A, hA⟩ : ∃ A, cutV x g = A := ⟨_, rfl⟩
    obtain h0 | h0 := cutE_two x g
    all_goals
      go_enter Try.func5, Try.ntmps5
      go_wp2_with (first
        | (go_at_call 18; (with_reducible refine (grainShown_any _).mono ?_); rintro e w1 ⟨rfl, hb1⟩; obtain ⟨hc1, hf1, hk1, hz1⟩ := bcell3 hb1; (try simp only [World.size_alloc] at hz1); have : w.heap.size < w1.heap.size := (by omega))
        | (go_at_call 24; (refine (HK.out _).mono ?_); rintro e w2 ⟨ao, cap, rfl, hi, hb2⟩; obtain ⟨hc2, hf2, hk2, hz2⟩ := bcell3 hb2; (try simp only [World.size_alloc] at hz2); have : w.heap.size < w2.heap.size := (by omega); have HI := hid hi; clear hi)
        | (go_at_call 19; (with_reducible refine (cut_any _ _ _).mono ?_); rintro e w3 ⟨rfl, hb3⟩; (try rw [h0]); (try rw [hA]); obtain ⟨hc3, hf3, hk3, hz3⟩ := bcell3 hb3; (try simp only [World.size_alloc] at hz3); have : w.heap.size < w3.heap.size := (by omega)))
      have S0 : w3.cell? ⟨w.heap.size, 0, none⟩ = some (.int .i64 f) := by go_simp
      have S1 : w3.cell? ⟨w.heap.size, 1, none⟩ = some (.int .i64 t) := by go_simp
      have hB3 : Below w.heap.size w w3 := by (repeat' (first | (with_reducible exact Below.refl _ _) | (with_reducible assumption) | (with_reducible refine Below.new ?_ _) | (with_reducible refine Below.alloc ?_ ?_ _) | (with_reducible refine Below.drew ?_) | (with_reducible refine Below.setCell ?_ ?_ _) | (refine Below.step ?_ (by assumption)) | go_size))
      clear hc1 hc2 hc3 hf1 hf2 hf3 hk1 hk2 hk3
      go_loopw [12, 13] (fun b i wr => ∃ k : Nat, k ≤ N ∧ b = .bool (inB f x g k) ∧ i = .int .i64 k ∧ Below w3.heap.size w3 wr) (fun _ i _ => N - (intOf i).toNat)
      case atStart => exact ⟨0, Nat.zero_le _, by rw [inB_zero], rfl, Below.refl _ _⟩
      case round =>
        obtain ⟨k, hk, rfl, rfl, hbel⟩ := hrel
        have d0 : wr.cell? ⟨w.heap.size, 0, none⟩ = some (.int .i64 f) := cell_step S0 hbel
        have d1 : wr.cell? ⟨w.heap.size, 1, none⟩ = some (.int .i64 t) := cell_step S1 hbel
        clear S0 S1
        by_cases hlt : k < N
        · obtain ⟨a0, o0, rfl, hcell⟩ := HI.out (by omega)
          have e0 := cell_step (cell_step (hcell k hlt) hb3) hbel
          obtain ⟨v1, v2, v3, v4, v5⟩ := HB.out k hlt
          have hnext : ∃ B, inB f x g (k + 1) = B ∧ (inB f x g k || (decide (f + (k : Int) * g = A) && decide (cutE x g = 0))) = B := by
            refine ⟨_, rfl, ?_⟩
            rw [← hA]
            cases hin : inB f x g k with
            | true => rw [inB_true hgg.1 hin]; rfl
            | false =>
              by_cases hq : f + (k : Int) * g = cutV x g
              · first
                  | rw [inB_hit hgg.1 h0 hq]; simp [hq, h0]
                  | rw [inB_110 _ h0]; simp [h0]
              · rw [HM.out _ hin hq]; simp [hq]
          obtain ⟨B, hnext, hB⟩ := hnext
          have HX := hid hnext; clear hnext hA
          cases k with
          | zero =>
            simp at e0 v1 v2 v3 v5 hB
            clear v4
            rw [inB_zero] at hB ⊢
            by_cases hq : f = A
            · subst hq
              simp [h0] at hB
              subst hB
              go_wp2_with (go_at_call 19; (with_reducible refine (cut_any _ _ _).mono ?_); rintro e w4 ⟨rfl, hb4⟩; (try rw [v1]); (try rw [v2]))
              have q0 := World.plus_cell (cell_step d0 hb4); have q1 := World.plus_cell (cell_step d1 hb4); have q2 := World.plus_cell (cell_step e0 hb4)
              refine wp_region_plus (by kernel_rfl) (by kernel_rfl) ?_
              repeat (first | go_big_quiet_skip | (go_big_quiet_want; go_big_quiet_op; first | go_big_quiet_on | go_big_quiet_call (((go_at_call 22; exact Calls.plus_of (Calls.bool_is (has_any _ _ _ _) (by first | assumption | rfl)))))))
              refine wpQuiet_nil ?_
              rintro _ ⟨xq, rfl⟩
              have kB := World.plus_below w4 xq
              go_wp2
              go_roundw
              case rel => exact ⟨_, hlt, by rw [HX.out], by go_num, (hbel.step hb4).step kB⟩
              case measure => simp [intOf]; omega
            · have hqf : (f == A) = false := by simpa using hq
              have hqd : decide (f = A) = false := by simpa using hq
              simp [hq] at hB
              subst hB
              clear hq
              go_wp2_with (go_at_call 19; (with_reducible refine (cut_any _ _ _).mono ?_); rintro e w4 ⟨rfl, hb4⟩; (try rw [v1]); (try rw [v2]))
              have q0 := World.plus_cell (cell_step d0 hb4); have q1 := World.plus_cell (cell_step d1 hb4); have q2 := World.plus_cell (cell_step e0 hb4)
              refine wp_region_plus (by kernel_rfl) (by kernel_rfl) ?_
              repeat (first | go_big_quiet_skip | (go_big_quiet_want; go_big_quiet_op; first | go_big_quiet_on | go_big_quiet_call (((go_at_call 22; exact Calls.plus_of (Calls.bool_is (has_any _ _ _ _) (by first | assumption | rfl)))))))
              refine wpQuiet_nil ?_
              rintro _ ⟨xq, rfl⟩
              have kB := World.plus_below w4 xq
              go_wp2
              go_roundw
              case rel => exact ⟨_, hlt, by rw [HX.out], by go_num, (hbel.step hb4).step kB⟩
              case measure => simp [intOf]; omega
          | succ j =>
            have e1 := cell_step (cell_step (hcell j (by omega)) hb3) hbel
            obtain ⟨u1, u2, u3, u4, u5⟩ := HB.out j (by omega)
            rw [← mults_step] at e0 v1 v2 v3 v5 hB
            obtain ⟨y, hy⟩ : ∃ y, f + (j : Int) * g = y := ⟨_, rfl⟩
            have hy0 : 0 ≤ y := by omega
            rw [hy] at e0 v1 v2 v3 v5 hB e1
            clear hy u1 u2 u3 u4 u5 v4
            cases hin : inB f x g (j + 1) with
            | true =>
              rw [hin] at hB
              simp at hB
              subst hB
              clear hin
              go_wp2_with (go_at_call 19; (with_reducible refine (cut_any _ _ _).mono ?_); rintro e w4 ⟨rfl, hb4⟩; (try rw [v1]); (try rw [v2]))
              have q0 := World.plus_cell (cell_step d0 hb4); have q1 := World.plus_cell (cell_step d1 hb4); have q2 := World.plus_cell (cell_step e0 hb4); have q3 := World.plus_cell (cell_step e1 hb4)
              refine wp_region_plus (by kernel_rfl) (by kernel_rfl) ?_
              repeat (first | go_big_quiet_skip | (go_big_quiet_want; go_big_quiet_op; first | go_big_quiet_on | go_big_quiet_call (((go_at_call 22; exact Calls.plus_of (Calls.bool_is (has_any _ _ _ _) (by first | assumption | rfl)))))))
              refine wpQuiet_nil ?_
              rintro _ ⟨xq, rfl⟩
              have kB := World.plus_below w4 xq
              go_wp2
              go_roundw
              case rel => exact ⟨_, hlt, by rw [HX.out], by go_num, (hbel.step hb4).step kB⟩
              case measure => simp [intOf]; omega
            | false =>
              rw [hin] at hB
              clear hin
              by_cases hq : y + g = A
              · subst hq
                simp [h0] at hB
                subst hB
                go_wp2_with (go_at_call 19; (with_reducible refine (cut_any _ _ _).mono ?_); rintro e w4 ⟨rfl, hb4⟩; (try rw [v1]); (try rw [v2]))
                have q0 := World.plus_cell (cell_step d0 hb4); have q1 := World.plus_cell (cell_step d1 hb4); have q2 := World.plus_cell (cell_step e0 hb4); have q3 := World.plus_cell (cell_step e1 hb4)
                refine wp_region_plus (by kernel_rfl) (by kernel_rfl) ?_
                repeat (first | go_big_quiet_skip | (go_big_quiet_want; go_big_quiet_op; first | go_big_quiet_on | go_big_quiet_call (((go_at_call 22; exact Calls.plus_of (Calls.bool_is (has_any _ _ _ _) (by first | assumption | rfl)))))))
                refine wpQuiet_nil ?_
                rintro _ ⟨xq, rfl⟩
                have kB := World.plus_below w4 xq
                go_wp2
                go_roundw
                case rel => exact ⟨_, hlt, by rw [HX.out], by go_num, (hbel.step hb4).step kB⟩
                case measure => simp [intOf]; omega
              · have hqf : (y + g == A) = false := by simpa using hq
                have hqd : decide (y + g = A) = false := by simpa using hq
                simp [hq] at hB
                subst hB
                clear hq
                go_wp2_with (go_at_call 19; (with_reducible refine (cut_any _ _ _).mono ?_); rintro e w4 ⟨rfl, hb4⟩; (try rw [v1]); (try rw [v2]))
                have q0 := World.plus_cell (cell_step d0 hb4); have q1 := World.plus_cell (cell_step d1 hb4); have q2 := World.plus_cell (cell_step e0 hb4); have q3 := World.plus_cell (cell_step e1 hb4)
                refine wp_region_plus (by kernel_rfl) (by kernel_rfl) ?_
                repeat (first | go_big_quiet_skip | (go_big_quiet_want; go_big_quiet_op; first | go_big_quiet_on | go_big_quiet_call (((go_at_call 22; exact Calls.plus_of (Calls.bool_is (has_any _ _ _ _) (by first | assumption | rfl)))))))
                refine wpQuiet_nil ?_
                rintro _ ⟨xq, rfl⟩
                have kB := World.plus_below w4 xq
                go_wp2
                go_roundw
                case rel => exact ⟨_, hlt, by rw [HX.out], by go_num, (hbel.step hb4).step kB⟩
                case measure => simp [intOf]; omega
        · obtain rfl : k = N := by omega
          have hfin : inB f x g k = (decide (cutE x g = 0) && hasB f t x) := by
            first
              | (rw [HA.out h0, h0]; simp)
              | (rw [inB_110 _ h0, h0]; simp)
          rw [h0] at hfin
          simp at hfin
          rw [hfin]
          clear hfin hA
          go_wp2_with (go_at_call 22; (with_reducible refine (has_any _ _ _ _).mono ?_); rintro e w4 ⟨rfl, hb4⟩)
          go_ret
          exact ⟨ret_bool (by simp; omega), by (repeat' (first | (with_reducible exact Below.refl _ _) | (with_reducible assumption) | (with_reducible refine Below.new ?_ _) | (with_reducible refine Below.alloc ?_ ?_ _) | (with_reducible refine Below.drew ?_) | (with_reducible refine Below.setCell ?_ ?_ _) | (refine Below.step ?_ (by assumption)) | go_size))⟩
set_option maxRecDepth 100000 in
theorem GrainBuckets_lifted (os : Os) (started : os.Started) (H : Type) (enc : TypeId × Value → H) :
    ReturnsInHanded {} Try.checked os 5 .any (Rows.grainBucketsSpec.pre6 enc Try.prog Try.f5 Rows.grainBucketsRow.domain false) (Rows.grainBucketsSpec.post enc Try.prog Try.f5 false true false false) := by
  refine law_lift started (by kernel_rfl) Try.func5
    (ChangeSpec.witness6 (enc := enc) (C := Try.checked) false ⟨#[], #[.agg #[.int .i64 0, .int .i64 0], .int .i64 0, .int .i64 0], []⟩ 8 (by kernel_rfl) (by kernel_rfl) (by kernel_rfl) (by kernel_rfl)) rfl rfl (by kernel_rfl) ?_ ?_
  · intro ds hl
    match ds, hl with
    | [_, _, _], _ => exact ⟨rfl, rfl, rfl⟩
  · intro W base args ds p hval hA hsz
    rw [Try.params5] at hA hval hsz
    obtain ⟨v0, vs0, d0, ds0, p0, q0, hargs, rfl, rfl, h0, r0⟩ := trodAll_cons hA
    obtain ⟨v1, vs1, d1, ds1, p1, q1, rfl, rfl, rfl, h1, r1⟩ := trodAll_cons r0
    obtain ⟨v2, vs2, d2, ds2, p2, q2, rfl, rfl, rfl, h2, r2⟩ := trodAll_cons r1
    obtain ⟨rfl, rfl, rfl⟩ := trodAll_nil r2
    obtain rfl : args = #[v0, v1, v2] := by cases args; simp_all
    obtain ⟨a0, c0, rfl, b0, e0⟩ := open_span (hval 0 29 v0 rfl rfl) h0
    obtain ⟨a1, rfl, b1⟩ := open_i64 Try.underlying2 (hval 1 2 v1 rfl rfl) h1
    obtain ⟨a2, rfl, b2⟩ := open_i64 Try.underlying2 (hval 2 2 v2 rfl rfl) h2
    exact GrainBuckets_walk a0 c0 b0 e0 a1 b1 a2 b2 W

theorem GrainBuckets_over : Rows.grainBucketsRow.holds Try.pinned (OpenSpec.ofChange Rows.grainBucketsSpec) :=
  OpenClaim.holds_of_wide 5 Try.f5 rfl rfl rfl rfl rfl rfl rfl ⟨rfl, rfl, rfl, rfl, rfl⟩ rfl rfl rfl rfl rfl (by kernel_rfl) Try.func5 (by kernel_rfl)
    (of_decide_eq_true (by kernel_rfl)) (by unfold Func.isWrapper; first | (rw [if_pos (by decide +kernel)]; kernel_rfl) | (rw [if_neg (by decide +kernel)]; exact ⟨rfl, rfl⟩))
    (fun os started H enc _ => GrainBuckets_lifted os started H enc)

/-- The statement. -/
theorem GrainBuckets_proved : Rows.GrainBucketsSaid := GrainBuckets_over
end Go.Proofs.Ytekmcomddaoljaa
