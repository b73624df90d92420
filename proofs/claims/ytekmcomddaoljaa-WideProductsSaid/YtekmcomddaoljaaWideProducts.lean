/- WideProducts holds: products, powers of two, wide numbers of numbers: as the reference has them. No condition. -/
import Derived.Test.YtekmcomddaoljaaWideS
import Derived.Test.YtekmcomddaoljaaWideF
import Derived.Test.YtekmcomddaoljaaWideG
import Derived.Test.YtekmcomddaoljaaOpenA
namespace Go.Proofs.Ytekmcomddaoljaa
set_option linter.unusedVariables false
set_option linter.unusedSimpArgs false
open Go.ChangeShapes Go.WideShapes Go.ChangeAt Go.RowKit Go.Joins

set_option maxRecDepth 100000 in
set_option maxHeartbeats 4000000 in
theorem wideProducts_core (n m q s : Int) (hn : I64 n) (hm : I64 m) (w : World) :
    Calls Try.prog 13 #[.int .i64 n, .int .i64 m, (Value.agg #[.int .i64 (hiW (q)), .int .u64 (loW (q))]), .int .i64 s] w fun e w' => e = .returned (.bool true) ∧ Below w.heap.size w w' := by
  go_enter Try.func13, Try.ntmps13
  go_wp2_with (go_at_call 30; (with_reducible refine (wideShown_any _).mono ?_); rintro e w1 ⟨rfl, hb1⟩; obtain ⟨hc1, hf1, hk1, hz1⟩ := bcell3 hb1; (try simp only [World.size_alloc] at hz1); have : w.heap.size < w1.heap.size := (by omega))
  have hB1 : Below w.heap.size w w1 := by (repeat' (first | (with_reducible exact Below.refl _ _) | (with_reducible assumption) | (with_reducible refine Below.new ?_ _) | (with_reducible refine Below.alloc ?_ ?_ _) | (with_reducible refine Below.drew ?_) | (with_reducible refine Below.setCell ?_ ?_ _) | (refine Below.step ?_ (by assumption)) | go_size))
  have s0 : w1.cell? ⟨w.heap.size, 0, none⟩ = some (.int .i64 (hiW q)) := by go_simp
  have s1 : w1.cell? ⟨w.heap.size, 1, none⟩ = some (.int .u64 (loW q)) := by go_simp
  have p0 := World.plus_cell s0; have p1 := World.plus_cell s1
  clear hc1 hf1 hk1 s0 s1
  refine wp_region_plus (by kernel_rfl) (by kernel_rfl) ?_
  repeat (first | go_big_quiet_skip | (go_big_quiet_want; go_big_quiet_op; first | go_big_quiet_on | go_big_quiet_call ((first | (go_at_call 40; exact Calls.plus_of (mul_any n m hn hm _)) | (go_at_call 41; exact Calls.plus_of (refMul_any n m hn hm _)) | (go_at_call 42; exact Calls.plus_of (shift_any q s _)) | (go_at_call 43; exact Calls.plus_of (refShift_any q s _)) | (go_at_call 39; exact Calls.plus_of (of_any n hn _)) | (go_at_call 44; exact Calls.plus_of (refOf_any n hn _))))))
  refine wpQuiet_nil ?_
  rintro _ ⟨xq, rfl⟩
  have kB := World.plus_below w1 xq
  go_wp2
  go_ret
  exact ⟨rfl, by (repeat' (first | (with_reducible exact Below.refl _ _) | (with_reducible assumption) | (with_reducible refine Below.new ?_ _) | (with_reducible refine Below.alloc ?_ ?_ _) | (with_reducible refine Below.drew ?_) | (with_reducible refine Below.setCell ?_ ?_ _) | (refine Below.step ?_ (by assumption)) | go_size))⟩

theorem WideProducts_walk (n : Int) (hn : I64 n) (m : Int) (hm : I64 m) (a b : Int) (ha : I64 a) (hb : U64 b) (s : Int) (hs : I64 s) (w : World) :
    Calls Try.prog 13 #[.int .i64 n, .int .i64 m, .agg #[.int .i64 a, .int .u64 b], .int .i64 s] w fun e w' => e = .returned (.bool true) ∧ Below w.heap.size w w' := by
  rw [wv_words ha hb]
  exact wideProducts_core n m _ s hn hm w
set_option maxRecDepth 100000 in
theorem WideProducts_lifted (os : Os) (started : os.Started) (H : Type) (enc : TypeId × Value → H) :
    ReturnsInHanded {} Try.checked os 13 .any (Rows.wideProductsSpec.pre6 enc Try.prog Try.f13 Rows.wideProductsRow.domain false) (Rows.wideProductsSpec.post enc Try.prog Try.f13 false true false false) := by
  refine law_lift started (by kernel_rfl) Try.func13
    (ChangeSpec.witness6 (enc := enc) (C := Try.checked) false ⟨#[], #[.int .i64 0, .int .i64 0, .agg #[.int .i64 0, .int .u64 0], .int .i64 0], []⟩ 8 (by kernel_rfl) (by kernel_rfl) (by kernel_rfl) (by kernel_rfl)) rfl rfl (by kernel_rfl) ?_ ?_
  · intro ds hl
    match ds, hl with
    | [_, _, _, _], _ => exact ⟨rfl, rfl, rfl⟩
  · intro W base args ds p hval hA hsz
    rw [Try.params13] at hA hval hsz
    obtain ⟨v0, vs0, d0, ds0, p0, q0, hargs, rfl, rfl, h0, r0⟩ := trodAll_cons hA
    obtain ⟨v1, vs1, d1, ds1, p1, q1, rfl, rfl, rfl, h1, r1⟩ := trodAll_cons r0
    obtain ⟨v2, vs2, d2, ds2, p2, q2, rfl, rfl, rfl, h2, r2⟩ := trodAll_cons r1
    obtain ⟨v3, vs3, d3, ds3, p3, q3, rfl, rfl, rfl, h3, r3⟩ := trodAll_cons r2
    obtain ⟨rfl, rfl, rfl⟩ := trodAll_nil r3
    obtain rfl : args = #[v0, v1, v2, v3] := by cases args; simp_all
    obtain ⟨a0, rfl, b0⟩ := open_i64 Try.underlying2 (hval 0 2 v0 rfl rfl) h0
    obtain ⟨a1, rfl, b1⟩ := open_i64 Try.underlying2 (hval 1 2 v1 rfl rfl) h1
    obtain ⟨a2, c2, rfl, b2, e2⟩ := open_wide (hval 2 39 v2 rfl rfl) h2
    obtain ⟨a3, rfl, b3⟩ := open_i64 Try.underlying3 (hval 3 3 v3 rfl rfl) h3
    exact WideProducts_walk a0 b0 a1 b1 a2 c2 b2 e2 a3 b3 W

theorem WideProducts_over : Rows.wideProductsRow.holds Try.pinned (OpenSpec.ofChange Rows.wideProductsSpec) :=
  OpenClaim.holds_of_wide 13 Try.f13 rfl rfl rfl rfl rfl rfl rfl ⟨rfl, rfl, rfl, rfl, rfl⟩ rfl rfl rfl rfl rfl (by kernel_rfl) Try.func13 (by kernel_rfl)
    (of_decide_eq_true (by kernel_rfl)) (by unfold Func.isWrapper; first | (rw [if_pos (by decide +kernel)]; kernel_rfl) | (rw [if_neg (by decide +kernel)]; exact ⟨rfl, rfl⟩))
    (fun os started H enc _ => WideProducts_lifted os started H enc)

/-- The statement. -/
theorem WideProducts_proved : Rows.WideProductsSaid := WideProducts_over
end Go.Proofs.Ytekmcomddaoljaa
