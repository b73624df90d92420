/- WideTimes holds: a product is that many times added, and does not hang on the order. No condition. -/
import Derived.Test.YtekmcomddaoljaaWideS
import Derived.Test.YtekmcomddaoljaaWideF
import Derived.Test.YtekmcomddaoljaaOpenA
namespace Go.Proofs.Ytekmcomddaoljaa
set_option linter.unusedVariables false
set_option linter.unusedSimpArgs false
open Go.ChangeShapes Go.WideShapes Go.ChangeAt Go.RowKit Go.Joins

set_option maxRecDepth 100000 in
set_option maxHeartbeats 4000000 in
theorem wideTimes_not (n s x : Int) (h : ¬ (0 ≤ s ∧ s ≤ 100)) (w : World) :
    Calls Try.prog 12 #[.int .i64 n, .int .i64 s, .int .i64 x] w fun e w' => e = .returned (.bool true) ∧ Below w.heap.size w w' := by
  by_cases q1 : s < 0
  · clear h
    go_enter Try.func12, Try.ntmps12
    go_wp2_with (go_at_call 30; (with_reducible refine (wideShown_any _).mono ?_); rintro e w1 ⟨rfl, hb1⟩; obtain ⟨hc1, hf1, hk1, hz1⟩ := bcell3 hb1; (try simp only [World.size_alloc] at hz1); )
    go_ret
    exact ⟨rfl, by (repeat' (first | (with_reducible exact Below.refl _ _) | (with_reducible assumption) | (with_reducible refine Below.new ?_ _) | (with_reducible refine Below.alloc ?_ ?_ _) | (with_reducible refine Below.drew ?_) | (with_reducible refine Below.setCell ?_ ?_ _) | (refine Below.step ?_ (by assumption)) | go_size))⟩
  have r1 : 0 ≤ s := by omega
  have q4 : 100 < s := by omega
  clear q1 h
  go_enter Try.func12, Try.ntmps12
  go_wp2_with (go_at_call 30; (with_reducible refine (wideShown_any _).mono ?_); rintro e w1 ⟨rfl, hb1⟩; obtain ⟨hc1, hf1, hk1, hz1⟩ := bcell3 hb1; (try simp only [World.size_alloc] at hz1); )
  go_ret
  exact ⟨rfl, by (repeat' (first | (with_reducible exact Below.refl _ _) | (with_reducible assumption) | (with_reducible refine Below.new ?_ _) | (with_reducible refine Below.alloc ?_ ?_ _) | (with_reducible refine Below.drew ?_) | (with_reducible refine Below.setCell ?_ ?_ _) | (refine Below.step ?_ (by assumption)) | go_size))⟩

theorem i64_100 {N : Nat} (h : N ≤ 100) : I64 (N : Int) := by unfold I64; omega

set_option maxRecDepth 100000 in
set_option maxHeartbeats 4000000 in
theorem wideTimes_core (n x : Int) (N : Nat) (hN : N ≤ 100) (hn : I64 n) (hx : I64 x) (w : World) :
    Calls Try.prog 12 #[.int .i64 n, .int .i64 (N : Int), .int .i64 x] w fun e w' => e = .returned (.bool true) ∧ Below w.heap.size w w' := by
  have M1 := fun w => mul_any n (N : Int) hn (i64_100 hN) w
  have M2 := fun w => mul_any n x hn hx w
  have M3 := fun w => mul_any x n hx hn w
  rw [Int.mul_comm x n] at M3
  have O1 := fun w => of_any 0 (by decide) w
  have O2 := fun w => of_any n hn w
  have AD := fun k w => add_any (n * (k : Nat)) n w
  have AD2 : ∀ k : Nat, n * (k : Int) + n = n * ((k + 1 : Nat) : Int) := fun k => by rw [Int.natCast_add, Int.mul_add]; simp
  simp only [AD2] at AD
  rw [show (0 : Int) = n * ((0 : Nat) : Int) by simp] at O1
  obtain ⟨H, hH⟩ : ∃ H : Nat → Int, ∀ k : Nat, hiW (n * (k : Int)) = H k := ⟨_, fun _ => rfl⟩
  obtain ⟨L, hL⟩ : ∃ L : Nat → Int, ∀ k : Nat, loW (n * (k : Int)) = L k := ⟨_, fun _ => rfl⟩
  simp only [hH, hL] at AD O1 M1
  generalize hiW (n * x) = Yh at M2 M3; generalize loW (n * x) = Yl at M2 M3
  generalize hiW n = Nh at O2 AD; generalize loW n = Nl at O2 AD
  clear AD2 hH hL
  simp at O1
  replace M1 := hid M1; replace M2 := hid M2; replace M3 := hid M3; replace O1 := hid O1; replace O2 := hid O2; replace AD := hid AD
  go_enter Try.func12, Try.ntmps12
  go_wp2_with (first
    | (go_at_call 30; (with_reducible refine (wideShown_any _).mono ?_); rintro e w1 ⟨rfl, hb1⟩; obtain ⟨hc1, hf1, hk1, hz1⟩ := bcell3 hb1; (try simp only [World.size_alloc] at hz1); )
    | (go_at_call 39; (with_reducible refine (O1.out _).mono ?_); rintro e w2 ⟨rfl, hb2⟩; obtain ⟨hc2, hf2, hk2, hz2⟩ := bcell3 hb2; (try simp only [World.size_alloc] at hz2); ))
  go_loopw [9] (fun i wr => ∃ k : Nat, k ≤ N ∧ i = .int .i64 k ∧ wr.heap[w2.heap.size]? = some (.cells #[.int .i64 (H k), .int .u64 (L k)] 39 (0, 0)) ∧ Below w.heap.size w wr) (fun i _ => N - (intOf i).toNat)
  case atStart => exact ⟨0, Nat.zero_le _, rfl, heap_at rfl, by (repeat' (first | (with_reducible exact Below.refl _ _) | (with_reducible assumption) | (with_reducible refine Below.new ?_ _) | (with_reducible refine Below.alloc ?_ ?_ _) | (with_reducible refine Below.drew ?_) | (with_reducible refine Below.setCell ?_ ?_ _) | (refine Below.step ?_ (by assumption)) | go_size))⟩
  case round =>
    obtain ⟨k, hk, rfl, hB, hbel⟩ := hrel
    obtain ⟨c0, c1, g0, g1, b1⟩ := two_is hB
    by_cases hlt : k < N
    · go_wp2
      have p0 := World.plus_cell c0; have p1 := World.plus_cell c1
      refine wp_region_plus_tail (4) (by kernel_rfl) (by kernel_rfl) ?_
      simp only [List.take_succ_cons, List.take_zero, List.drop_succ_cons, List.drop_zero]
      repeat (first | go_big_quiet_skip | (go_big_quiet_want; go_big_quiet_op; first | go_big_quiet_on | go_big_quiet_call ((first | (go_at_call 39; with_reducible exact Calls.plus_of (O2.out _)) | (go_at_call 34; with_reducible exact Calls.plus_of (AD.out k _))))))
      refine wpQuiet_nil ?_
      rintro _ ⟨xq, rfl⟩
      have kB := World.plus_below wr xq
      have hB2 := (kB.block _ b1).trans hB
      obtain ⟨d0, d1, f0, f1, b2⟩ := two_is hB2
      go_wp2
      go_roundw
      case rel => exact ⟨k + 1, hlt, by go_num, two_set hB2, by (repeat' (first | (with_reducible exact Below.refl _ _) | (with_reducible assumption) | (with_reducible refine Below.new ?_ _) | (with_reducible refine Below.alloc ?_ ?_ _) | (with_reducible refine Below.drew ?_) | (with_reducible refine Below.setCell ?_ ?_ _) | (refine Below.step ?_ (by assumption)) | go_size))⟩
      case measure => simp [intOf]; omega
    · obtain rfl : k = N := by omega
      go_wp2
      have p0 := World.plus_cell c0; have p1 := World.plus_cell c1
      refine wp_region_plus (by kernel_rfl) (by kernel_rfl) ?_
      repeat (first | go_big_quiet_skip | (go_big_quiet_want; go_big_quiet_op; first | go_big_quiet_on | go_big_quiet_call (((go_at_call 40; first | with_reducible exact Calls.plus_of (M1.out _) | with_reducible exact Calls.plus_of (M2.out _) | with_reducible exact Calls.plus_of (M3.out _))))))
      refine wpQuiet_nil ?_
      rintro _ ⟨xq, rfl⟩
      have kB := World.plus_below wr xq
      go_wp2
      go_ret
      exact ⟨rfl, by (repeat' (first | (with_reducible exact Below.refl _ _) | (with_reducible assumption) | (with_reducible refine Below.new ?_ _) | (with_reducible refine Below.alloc ?_ ?_ _) | (with_reducible refine Below.drew ?_) | (with_reducible refine Below.setCell ?_ ?_ _) | (refine Below.step ?_ (by assumption)) | go_size))⟩

theorem WideTimes_walk (n : Int) (hn : I64 n) (s : Int) (hs : I64 s) (x : Int) (hx : I64 x) (w : World) :
    Calls Try.prog 12 #[.int .i64 n, .int .i64 s, .int .i64 x] w fun e w' => e = .returned (.bool true) ∧ Below w.heap.size w w' := by
  by_cases h : 0 ≤ s ∧ s ≤ 100
  · obtain ⟨N, rfl⟩ := Int.eq_ofNat_of_zero_le h.1
    exact wideTimes_core n x N (by omega) hn hx w
  · exact wideTimes_not n s x h w
set_option maxRecDepth 100000 in
theorem WideTimes_lifted (os : Os) (started : os.Started) (H : Type) (enc : TypeId × Value → H) :
    ReturnsInHanded {} Try.checked os 12 .any (Rows.wideTimesSpec.pre6 enc Try.prog Try.f12 Rows.wideTimesRow.domain false) (Rows.wideTimesSpec.post enc Try.prog Try.f12 false true false false) := by
  refine law_lift started (by kernel_rfl) Try.func12
    (ChangeSpec.witness6 (enc := enc) (C := Try.checked) false ⟨#[], #[.int .i64 0, .int .i64 0, .int .i64 0], []⟩ 8 (by kernel_rfl) (by kernel_rfl) (by kernel_rfl) (by kernel_rfl)) rfl rfl (by kernel_rfl) ?_ ?_
  · intro ds hl
    match ds, hl with
    | [_, _, _], _ => exact ⟨rfl, rfl, rfl⟩
  · intro W base args ds p hval hA hsz
    rw [Try.params12] at hA hval hsz
    obtain ⟨v0, vs0, d0, ds0, p0, q0, hargs, rfl, rfl, h0, r0⟩ := trodAll_cons hA
    obtain ⟨v1, vs1, d1, ds1, p1, q1, rfl, rfl, rfl, h1, r1⟩ := trodAll_cons r0
    obtain ⟨v2, vs2, d2, ds2, p2, q2, rfl, rfl, rfl, h2, r2⟩ := trodAll_cons r1
    obtain ⟨rfl, rfl, rfl⟩ := trodAll_nil r2
    obtain rfl : args = #[v0, v1, v2] := by cases args; simp_all
    obtain ⟨a0, rfl, b0⟩ := open_i64 Try.underlying2 (hval 0 2 v0 rfl rfl) h0
    obtain ⟨a1, rfl, b1⟩ := open_i64 Try.underlying3 (hval 1 3 v1 rfl rfl) h1
    obtain ⟨a2, rfl, b2⟩ := open_i64 Try.underlying2 (hval 2 2 v2 rfl rfl) h2
    exact WideTimes_walk a0 b0 a1 b1 a2 b2 W

theorem WideTimes_over : Rows.wideTimesRow.holds Try.pinned (OpenSpec.ofChange Rows.wideTimesSpec) :=
  OpenClaim.holds_of_wide 12 Try.f12 rfl rfl rfl rfl rfl rfl rfl ⟨rfl, rfl, rfl, rfl, rfl⟩ rfl rfl rfl rfl rfl (by kernel_rfl) Try.func12 (by kernel_rfl)
    (of_decide_eq_true (by kernel_rfl)) (by unfold Func.isWrapper; first | (rw [if_pos (by decide +kernel)]; kernel_rfl) | (rw [if_neg (by decide +kernel)]; exact ⟨rfl, rfl⟩))
    (fun os started H enc _ => WideTimes_lifted os started H enc)

/-- The statement. -/
theorem WideTimes_proved : Rows.WideTimesSaid := WideTimes_over
end Go.Proofs.Ytekmcomddaoljaa
