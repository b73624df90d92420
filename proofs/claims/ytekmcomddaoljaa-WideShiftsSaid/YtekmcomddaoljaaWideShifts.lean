/- WideShifts holds: a shift is that of its parts, one behind the other; it is a product by a power of two. No condition. -/
import Derived.Test.YtekmcomddaoljaaWideS
import Derived.Test.YtekmcomddaoljaaWideE
import Derived.Test.YtekmcomddaoljaaWideF
import Derived.Test.YtekmcomddaoljaaOpenA
namespace Go.Proofs.Ytekmcomddaoljaa
set_option linter.unusedVariables false
set_option linter.unusedSimpArgs false
open Go.ChangeShapes Go.WideShapes Go.ChangeAt Go.RowKit Go.Joins

theorem shiftV_nat (n : Int) {N : Nat} (h : N ≤ 127) : shiftV n (N : Int) = n * 2 ^ N := by
  rw [shiftV, if_pos (by omega)]; simp
theorem shiftV_two (n : Int) {N M : Nat} (h : N + M ≤ 127) : shiftV (shiftV n (N : Int)) (M : Int) = shiftV n ((N : Int) + M) := by
  rw [← Int.natCast_add, shiftV_nat n h, shiftV_nat n (by omega), shiftV_nat _ (by omega), Int.pow_add, Int.mul_assoc]

set_option maxRecDepth 100000 in
set_option maxHeartbeats 4000000 in
theorem wideShifts_not (n s t x : Int) (h : ¬ ((0 ≤ s ∧ s ≤ 62) ∧ 0 ≤ t ∧ t ≤ 62)) (w : World) :
    Calls Try.prog 14 #[(Value.agg #[.int .i64 (hiW (n)), .int .u64 (loW (n))]), .int .i64 s, .int .i64 t, .int .i64 x] w fun e w' => e = .returned (.bool true) ∧ Below w.heap.size w w' := by
  by_cases q1 : s < 0
  · clear h
    go_enter Try.func14, Try.ntmps14
    go_wp2_with (go_at_call 30; (with_reducible refine (wideShown_any _).mono ?_); rintro e w1 ⟨rfl, hb1⟩; obtain ⟨hc1, hf1, hk1, hz1⟩ := bcell3 hb1; (try simp only [World.size_alloc] at hz1); have : w.heap.size < w1.heap.size := (by omega))
    go_ret
    exact ⟨rfl, by (repeat' (first | (with_reducible exact Below.refl _ _) | (with_reducible assumption) | (with_reducible refine Below.new ?_ _) | (with_reducible refine Below.alloc ?_ ?_ _) | (with_reducible refine Below.drew ?_) | (with_reducible refine Below.setCell ?_ ?_ _) | (refine Below.step ?_ (by assumption)) | go_size))⟩
  have r1 : 0 ≤ s := by omega
  clear q1
  by_cases q2 : t < 0
  · clear h
    go_enter Try.func14, Try.ntmps14
    go_wp2_with (go_at_call 30; (with_reducible refine (wideShown_any _).mono ?_); rintro e w1 ⟨rfl, hb1⟩; obtain ⟨hc1, hf1, hk1, hz1⟩ := bcell3 hb1; (try simp only [World.size_alloc] at hz1); have : w.heap.size < w1.heap.size := (by omega))
    go_ret
    exact ⟨rfl, by (repeat' (first | (with_reducible exact Below.refl _ _) | (with_reducible assumption) | (with_reducible refine Below.new ?_ _) | (with_reducible refine Below.alloc ?_ ?_ _) | (with_reducible refine Below.drew ?_) | (with_reducible refine Below.setCell ?_ ?_ _) | (refine Below.step ?_ (by assumption)) | go_size))⟩
  have r2 : 0 ≤ t := by omega
  clear q2
  by_cases q3 : 62 < s
  · clear h
    go_enter Try.func14, Try.ntmps14
    go_wp2_with (go_at_call 30; (with_reducible refine (wideShown_any _).mono ?_); rintro e w1 ⟨rfl, hb1⟩; obtain ⟨hc1, hf1, hk1, hz1⟩ := bcell3 hb1; (try simp only [World.size_alloc] at hz1); have : w.heap.size < w1.heap.size := (by omega))
    go_ret
    exact ⟨rfl, by (repeat' (first | (with_reducible exact Below.refl _ _) | (with_reducible assumption) | (with_reducible refine Below.new ?_ _) | (with_reducible refine Below.alloc ?_ ?_ _) | (with_reducible refine Below.drew ?_) | (with_reducible refine Below.setCell ?_ ?_ _) | (refine Below.step ?_ (by assumption)) | go_size))⟩
  have r3 : s ≤ 62 := by omega
  have q4 : 62 < t := by omega
  clear q3 h
  go_enter Try.func14, Try.ntmps14
  go_wp2_with (go_at_call 30; (with_reducible refine (wideShown_any _).mono ?_); rintro e w1 ⟨rfl, hb1⟩; obtain ⟨hc1, hf1, hk1, hz1⟩ := bcell3 hb1; (try simp only [World.size_alloc] at hz1); have : w.heap.size < w1.heap.size := (by omega))
  go_ret
  exact ⟨rfl, by (repeat' (first | (with_reducible exact Below.refl _ _) | (with_reducible assumption) | (with_reducible refine Below.new ?_ _) | (with_reducible refine Below.alloc ?_ ?_ _) | (with_reducible refine Below.drew ?_) | (with_reducible refine Below.setCell ?_ ?_ _) | (refine Below.step ?_ (by assumption)) | go_size))⟩

theorem pow_62 {N : Nat} (h : N ≤ 62) : -9223372036854775808 ≤ (2 : Int) ^ N ∧ (2 : Int) ^ N ≤ 9223372036854775807 ∧ wrap64 (2 ^ N) = 2 ^ N := by
  have h1 : (2 : Nat) ^ N ≤ 2 ^ 62 := Nat.pow_le_pow_right (by decide) h
  have h2 : (2 : Int) ^ N = ((2 ^ N : Nat) : Int) := by simp
  have h3 : (2 : Nat) ^ 62 = 4611686018427387904 := by decide
  rw [h3] at h1
  rw [h2]
  generalize 2 ^ N = P at h1
  unfold wrap64
  omega

set_option maxRecDepth 100000 in
set_option maxHeartbeats 4000000 in
theorem wideShifts_core (n x : Int) (N M : Nat) (hN : N ≤ 62) (hM : M ≤ 62) (hx : I64 x) (w : World) :
    Calls Try.prog 14 #[(Value.agg #[.int .i64 (hiW (n)), .int .u64 (loW (n))]), .int .i64 (N : Int), .int .i64 (M : Int), .int .i64 x] w fun e w' => e = .returned (.bool true) ∧ Below w.heap.size w w' := by
  have A1 := fun w => shift_any n (N : Int) w
  have A2 := fun w => shift_any (shiftV n (N : Int)) (M : Int) w
  have A3 := fun w => shift_any n ((N : Int) + M) w
  have A4 := fun w => of_any x hx w
  have A5 := fun w => shift_any x (N : Int) w
  have A6 := fun w => mul_any x (2 ^ N) hx ⟨(pow_62 hN).1, (pow_62 hN).2.1⟩ w
  have A7 := fun w => shift_any n 0 w
  have hP := hid (pow_62 hN).2.2
  rw [shiftV_two n (by omega)] at A2
  rw [shiftV_nat x (by omega)] at A5
  rw [show shiftV n 0 = n by simp [shiftV]] at A7
  generalize hiW (x * 2 ^ N) = Yh at A5 A6; generalize loW (x * 2 ^ N) = Yl at A5 A6
  generalize hiW (shiftV n ((N : Int) + M)) = Rh at A2 A3; generalize loW (shiftV n ((N : Int) + M)) = Rl at A2 A3
  generalize hiW (shiftV n (N : Int)) = Ph at A1 A2; generalize loW (shiftV n (N : Int)) = Pl at A1 A2
  generalize hiW x = Xh at A4 A5; generalize loW x = Xl at A4 A5
  generalize hiW n = Nh at A1 A3 A7 ⊢; generalize loW n = Nl at A1 A3 A7 ⊢
  replace A1 := hid A1; replace A2 := hid A2; replace A3 := hid A3; replace A4 := hid A4; replace A5 := hid A5; replace A6 := hid A6; replace A7 := hid A7
  go_enter Try.func14, Try.ntmps14
  go_wp2_with (go_at_call 30; (with_reducible refine (wideShown_any _).mono ?_); rintro e w1 ⟨rfl, hb1⟩; obtain ⟨hc1, hf1, hk1, hz1⟩ := bcell3 hb1; (try simp only [World.size_alloc] at hz1); have : w.heap.size < w1.heap.size := (by omega))
  have hB1 : Below w.heap.size w w1 := by (repeat' (first | (with_reducible exact Below.refl _ _) | (with_reducible assumption) | (with_reducible refine Below.new ?_ _) | (with_reducible refine Below.alloc ?_ ?_ _) | (with_reducible refine Below.drew ?_) | (with_reducible refine Below.setCell ?_ ?_ _) | (refine Below.step ?_ (by assumption)) | go_size))
  have s0 : w1.cell? ⟨w.heap.size, 0, none⟩ = some (.int .i64 Nh) := by go_simp
  have s1 : w1.cell? ⟨w.heap.size, 1, none⟩ = some (.int .u64 Nl) := by go_simp
  have p0 := World.plus_cell s0; have p1 := World.plus_cell s1
  clear hc1 hf1 hk1 s0 s1
  refine wp_region_plus (by kernel_rfl) (by kernel_rfl) ?_
  repeat (first | go_big_quiet_skip | (go_big_quiet_want; go_big_quiet_op; first | go_big_quiet_on | go_big_quiet_call ((first | (go_at_call 42; first | with_reducible exact Calls.plus_of (A1.out _) | with_reducible exact Calls.plus_of (A2.out _) | with_reducible exact Calls.plus_of (A3.out _) | with_reducible exact Calls.plus_of (A5.out _) | with_reducible exact Calls.plus_of (A7.out _)) | (go_at_call 39; with_reducible exact Calls.plus_of (A4.out _)) | (go_at_call 40; (try rw [hP.out]); (try rw [Int.one_mul]); (try rw [hP.out]); with_reducible exact Calls.plus_of (A6.out _))))))
  refine wpQuiet_nil ?_
  rintro _ ⟨xq, rfl⟩
  have kB := World.plus_below w1 xq
  go_wp2
  go_ret
  exact ⟨rfl, by (repeat' (first | (with_reducible exact Below.refl _ _) | (with_reducible assumption) | (with_reducible refine Below.new ?_ _) | (with_reducible refine Below.alloc ?_ ?_ _) | (with_reducible refine Below.drew ?_) | (with_reducible refine Below.setCell ?_ ?_ _) | (refine Below.step ?_ (by assumption)) | go_size))⟩

theorem WideShifts_walk (a b : Int) (ha : I64 a) (hb : U64 b) (s : Int) (hs : I64 s) (t : Int) (ht : I64 t) (x : Int) (hx : I64 x) (w : World) :
    Calls Try.prog 14 #[.agg #[.int .i64 a, .int .u64 b], .int .i64 s, .int .i64 t, .int .i64 x] w fun e w' => e = .returned (.bool true) ∧ Below w.heap.size w w' := by
  rw [wv_words ha hb]
  by_cases h : (0 ≤ s ∧ s ≤ 62) ∧ 0 ≤ t ∧ t ≤ 62
  · obtain ⟨N, rfl⟩ := Int.eq_ofNat_of_zero_le h.1.1
    obtain ⟨M, rfl⟩ := Int.eq_ofNat_of_zero_le h.2.1
    exact wideShifts_core _ x N M (by omega) (by omega) hx w
  · exact wideShifts_not _ s t x h w
set_option maxRecDepth 100000 in
theorem WideShifts_lifted (os : Os) (started : os.Started) (H : Type) (enc : TypeId × Value → H) :
    ReturnsInHanded {} Try.checked os 14 .any (Rows.wideShiftsSpec.pre6 enc Try.prog Try.f14 Rows.wideShiftsRow.domain false) (Rows.wideShiftsSpec.post enc Try.prog Try.f14 false true false false) := by
  refine law_lift started (by kernel_rfl) Try.func14
    (ChangeSpec.witness6 (enc := enc) (C := Try.checked) false ⟨#[], #[.agg #[.int .i64 0, .int .u64 0], .int .i64 0, .int .i64 0, .int .i64 0], []⟩ 8 (by kernel_rfl) (by kernel_rfl) (by kernel_rfl) (by kernel_rfl)) rfl rfl (by kernel_rfl) ?_ ?_
  · intro ds hl
    match ds, hl with
    | [_, _, _, _], _ => exact ⟨rfl, rfl, rfl⟩
  · intro W base args ds p hval hA hsz
    rw [Try.params14] at hA hval hsz
    obtain ⟨v0, vs0, d0, ds0, p0, q0, hargs, rfl, rfl, h0, r0⟩ := trodAll_cons hA
    obtain ⟨v1, vs1, d1, ds1, p1, q1, rfl, rfl, rfl, h1, r1⟩ := trodAll_cons r0
    obtain ⟨v2, vs2, d2, ds2, p2, q2, rfl, rfl, rfl, h2, r2⟩ := trodAll_cons r1
    obtain ⟨v3, vs3, d3, ds3, p3, q3, rfl, rfl, rfl, h3, r3⟩ := trodAll_cons r2
    obtain ⟨rfl, rfl, rfl⟩ := trodAll_nil r3
    obtain rfl : args = #[v0, v1, v2, v3] := by cases args; simp_all
    obtain ⟨a0, c0, rfl, b0, e0⟩ := open_wide (hval 0 39 v0 rfl rfl) h0
    obtain ⟨a1, rfl, b1⟩ := open_i64 Try.underlying3 (hval 1 3 v1 rfl rfl) h1
    obtain ⟨a2, rfl, b2⟩ := open_i64 Try.underlying3 (hval 2 3 v2 rfl rfl) h2
    obtain ⟨a3, rfl, b3⟩ := open_i64 Try.underlying2 (hval 3 2 v3 rfl rfl) h3
    exact WideShifts_walk a0 c0 b0 e0 a1 b1 a2 b2 a3 b3 W

theorem WideShifts_over : Rows.wideShiftsRow.holds Try.pinned (OpenSpec.ofChange Rows.wideShiftsSpec) :=
  OpenClaim.holds_of_wide 14 Try.f14 rfl rfl rfl rfl rfl rfl rfl ⟨rfl, rfl, rfl, rfl, rfl⟩ rfl rfl rfl rfl rfl (by kernel_rfl) Try.func14 (by kernel_rfl)
    (of_decide_eq_true (by kernel_rfl)) (by unfold Func.isWrapper; first | (rw [if_pos (by decide +kernel)]; kernel_rfl) | (rw [if_neg (by decide +kernel)]; exact ⟨rfl, rfl⟩))
    (fun os started H enc _ => WideShifts_lifted os started H enc)

/-- The statement. -/
theorem WideShifts_proved : Rows.WideShiftsSaid := WideShifts_over
end Go.Proofs.Ytekmcomddaoljaa
