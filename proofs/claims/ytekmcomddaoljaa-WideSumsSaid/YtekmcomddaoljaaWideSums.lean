/- WideSums holds: sums, turned numbers, which one is greater, numbers of 64 bits: as the reference has them. No condition. -/
import Derived.Test.YtekmcomddaoljaaWideS
import Derived.Test.YtekmcomddaoljaaWideG
import Derived.Test.YtekmcomddaoljaaOpenA
namespace Go.Proofs.Ytekmcomddaoljaa
set_option linter.unusedVariables false
set_option linter.unusedSimpArgs false
open Go.ChangeShapes Go.WideShapes Go.ChangeAt Go.RowKit Go.Joins

set_option maxRecDepth 100000 in
set_option maxHeartbeats 4000000 in
theorem wideSums_core (n m : Int) (w : World) :
    Calls Try.prog 16 #[(Value.agg #[.int .i64 (hiW (n)), .int .u64 (loW (n))]), (Value.agg #[.int .i64 (hiW (m)), .int .u64 (loW (m))])] w fun e w' => e = .returned (.bool true) ∧ Below w.heap.size w w' := by
  go_enter Try.func16, Try.ntmps16
  go_wp2_with (first
    | (go_at_call 30; (with_reducible refine (wideShown_any _).mono ?_); rintro e w1 ⟨rfl, hb1⟩; obtain ⟨hc1, hf1, hk1, hz1⟩ := bcell3 hb1; (try simp only [World.size_alloc] at hz1); have : w.heap.size < w1.heap.size := (by omega); have : w.heap.size + 1 < w1.heap.size := (by omega))
    | (go_at_call 46; (with_reducible refine (to_any n _).mono ?_); rintro e w2 ⟨rfl, hb2⟩; obtain ⟨hc2, hf2, hk2, hz2⟩ := bcell3 hb2; (try simp only [World.size_alloc] at hz2); have : w.heap.size < w2.heap.size := (by omega); have : w.heap.size + 1 < w2.heap.size := (by omega))
    | (go_at_call 47; (with_reducible refine (refTo_any n _).mono ?_); rintro e w3 ⟨rfl, hb3⟩; obtain ⟨hc3, hf3, hk3, hz3⟩ := bcell3 hb3; (try simp only [World.size_alloc] at hz3); have : w.heap.size < w3.heap.size := (by omega); have : w.heap.size + 1 < w3.heap.size := (by omega)))
  have hB3 : Below w.heap.size w w3 := by (repeat' (first | (with_reducible exact Below.refl _ _) | (with_reducible assumption) | (with_reducible refine Below.new ?_ _) | (with_reducible refine Below.alloc ?_ ?_ _) | (with_reducible refine Below.drew ?_) | (with_reducible refine Below.setCell ?_ ?_ _) | (refine Below.step ?_ (by assumption)) | go_size))
  have s0 : w3.cell? ⟨w.heap.size, 0, none⟩ = some (.int .i64 (hiW n)) := by go_simp
  have s1 : w3.cell? ⟨w.heap.size, 1, none⟩ = some (.int .u64 (loW n)) := by go_simp
  have s2 : w3.cell? ⟨w.heap.size + 1, 0, none⟩ = some (.int .i64 (hiW m)) := by go_simp
  have s3 : w3.cell? ⟨w.heap.size + 1, 1, none⟩ = some (.int .u64 (loW m)) := by go_simp
  have p0 := World.plus_cell s0; have p1 := World.plus_cell s1; have p2 := World.plus_cell s2; have p3 := World.plus_cell s3
  clear hc1 hc2 hc3 hf1 hf2 hf3 hk1 hk2 hk3 s0 s1 s2 s3
  refine wp_region_plus (by kernel_rfl) (by kernel_rfl) ?_
  repeat (first | go_big_quiet_skip | (go_big_quiet_want; go_big_quiet_op; first | go_big_quiet_on | go_big_quiet_call ((first | (go_at_call 34; exact Calls.plus_of (add_any n m _)) | (go_at_call 48; exact Calls.plus_of (refAdd_any n m _)) | (go_at_call 49; exact Calls.plus_of (neg_any n _)) | (go_at_call 50; exact Calls.plus_of (refNeg_any n _)) | (go_at_call 45; exact Calls.plus_of (cmp_words _ _ _ _ _)) | (go_at_call 51; exact Calls.plus_of (refCmp_words _ _ _ _ _))))))
  refine wpQuiet_nil ?_
  rintro _ ⟨xq, rfl⟩
  have kB := World.plus_below w3 xq
  go_wp2
  go_ret
  exact ⟨rfl, by (repeat' (first | (with_reducible exact Below.refl _ _) | (with_reducible assumption) | (with_reducible refine Below.new ?_ _) | (with_reducible refine Below.alloc ?_ ?_ _) | (with_reducible refine Below.drew ?_) | (with_reducible refine Below.setCell ?_ ?_ _) | (refine Below.step ?_ (by assumption)) | go_size))⟩

theorem WideSums_walk (a b : Int) (ha : I64 a) (hb : U64 b) (c d : Int) (hc : I64 c) (hd : U64 d) (w : World) :
    Calls Try.prog 16 #[.agg #[.int .i64 a, .int .u64 b], .agg #[.int .i64 c, .int .u64 d]] w fun e w' => e = .returned (.bool true) ∧ Below w.heap.size w w' := by
  rw [wv_words ha hb, wv_words hc hd]
  exact wideSums_core _ _ w
set_option maxRecDepth 100000 in
theorem WideSums_lifted (os : Os) (started : os.Started) (H : Type) (enc : TypeId × Value → H) :
    ReturnsInHanded {} Try.checked os 16 .any (Rows.wideSumsSpec.pre6 enc Try.prog Try.f16 Rows.wideSumsRow.domain false) (Rows.wideSumsSpec.post enc Try.prog Try.f16 false true false false) := by
  refine law_lift started (by kernel_rfl) Try.func16
    (ChangeSpec.witness6 (enc := enc) (C := Try.checked) false ⟨#[], #[.agg #[.int .i64 0, .int .u64 0], .agg #[.int .i64 0, .int .u64 0]], []⟩ 8 (by kernel_rfl) (by kernel_rfl) (by kernel_rfl) (by kernel_rfl)) rfl rfl (by kernel_rfl) ?_ ?_
  · intro ds hl
    match ds, hl with
    | [_, _], _ => exact ⟨rfl, rfl, rfl⟩
  · intro W base args ds p hval hA hsz
    rw [Try.params16] at hA hval hsz
    obtain ⟨v0, vs0, d0, ds0, p0, q0, hargs, rfl, rfl, h0, r0⟩ := trodAll_cons hA
    obtain ⟨v1, vs1, d1, ds1, p1, q1, rfl, rfl, rfl, h1, r1⟩ := trodAll_cons r0
    obtain ⟨rfl, rfl, rfl⟩ := trodAll_nil r1
    obtain rfl : args = #[v0, v1] := by cases args; simp_all
    obtain ⟨a0, c0, rfl, b0, e0⟩ := open_wide (hval 0 39 v0 rfl rfl) h0
    obtain ⟨a1, c1, rfl, b1, e1⟩ := open_wide (hval 1 39 v1 rfl rfl) h1
    exact WideSums_walk a0 c0 b0 e0 a1 c1 b1 e1 W

theorem WideSums_over : Rows.wideSumsRow.holds Try.pinned (OpenSpec.ofChange Rows.wideSumsSpec) :=
  OpenClaim.holds_of_wide 16 Try.f16 rfl rfl rfl rfl rfl rfl rfl ⟨rfl, rfl, rfl, rfl, rfl⟩ rfl rfl rfl rfl rfl (by kernel_rfl) Try.func16 (by kernel_rfl)
    (of_decide_eq_true (by kernel_rfl)) (by unfold Func.isWrapper; first | (rw [if_pos (by decide +kernel)]; kernel_rfl) | (rw [if_neg (by decide +kernel)]; exact ⟨rfl, rfl⟩))
    (fun os started H enc _ => WideSums_lifted os started H enc)

/-- The statement. -/
theorem WideSums_proved : Rows.WideSumsSaid := WideSums_over
end Go.Proofs.Ytekmcomddaoljaa
