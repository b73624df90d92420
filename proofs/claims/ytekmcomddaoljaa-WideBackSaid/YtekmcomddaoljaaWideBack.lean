/- WideBack holds: what is added and taken away again is what it was; numbers of 64 bits are one to one with theirs. No condition. -/
import Derived.Test.YtekmcomddaoljaaWideS
import Derived.Test.YtekmcomddaoljaaOpenA
namespace Go.Proofs.Ytekmcomddaoljaa
set_option linter.unusedVariables false
set_option linter.unusedSimpArgs false
open Go.ChangeShapes Go.WideShapes Go.ChangeAt Go.RowKit Go.Joins

theorem to_i64 {n : Int} (hn : I64 n) : toV n = n ∧ toE n = 0 := by
  have h1 : wrap64 (loW n) = n := by unfold wrap64 loW; omega
  have h2 : fitsW n = true := by simp only [fitsW, decide_eq_true_eq, h1]; unfold hiW; omega
  rw [toV, toE, if_pos h2, if_pos h2, h1]
  exact ⟨rfl, rfl⟩
theorem cmpW_neg (a b c d : Int) : cmpW c d a b = -cmpW a b c d := by
  unfold cmpW sgnI
  repeat' split
  all_goals omega
theorem cmpW_is (a b c d : Int) : -1 ≤ cmpW a b c d ∧ cmpW a b c d ≤ 1 := by
  unfold cmpW sgnI
  repeat' split
  all_goals omega

set_option maxRecDepth 100000 in
set_option maxHeartbeats 4000000 in
theorem wideBack_core (n m q : Int) (hq : I64 q) (w : World) :
    Calls Try.prog 17 #[(Value.agg #[.int .i64 (hiW (n)), .int .u64 (loW (n))]), (Value.agg #[.int .i64 (hiW (m)), .int .u64 (loW (m))]), .int .i64 q] w fun e w' => e = .returned (.bool true) ∧ Below w.heap.size w w' := by
  obtain ⟨e1, e2⟩ := to_i64 hq
  have A1 := fun w => add_any n m w
  have A2 := fun w => add_any (n + m) (-m) w
  have A3 := fun w => add_any m n w
  have A4 := fun w => neg_any m w
  rw [show n + m + -m = n by omega] at A2
  rw [Int.add_comm m n] at A3
  have C1 := fun w => cmp_words (hiW n) (loW n) (hiW m) (loW m) w
  have C2 := fun w => cmp_words (hiW m) (loW m) (hiW n) (loW n) w
  have hb := cmpW_is (hiW n) (loW n) (hiW m) (loW m)
  rw [cmpW_neg (hiW n) (loW n) (hiW m) (loW m)] at C2
  have hC : wrap64 (cmpW (hiW n) (loW n) (hiW m) (loW m)) = cmpW (hiW n) (loW n) (hiW m) (loW m) := by
    unfold wrap64; omega
  generalize cmpW (hiW n) (loW n) (hiW m) (loW m) = C at C1 C2 hC
  clear hb
  generalize hiW (n + m) = Sh at A1 A2 A3; generalize loW (n + m) = Sl at A1 A2 A3
  generalize hiW (-m) = Kh at A2 A4; generalize loW (-m) = Kl at A2 A4
  generalize hiW n = Nh at A1 A2 A3 C1 C2 ⊢; generalize loW n = Nl at A1 A2 A3 C1 C2 ⊢
  generalize hiW m = Mh at A1 A3 A4 C1 C2 ⊢; generalize loW m = Ml at A1 A3 A4 C1 C2 ⊢
  replace A1 := hid A1; replace A2 := hid A2; replace A3 := hid A3; replace A4 := hid A4; replace C1 := hid C1; replace C2 := hid C2
  go_enter Try.func17, Try.ntmps17
  go_wp2_with (first
    | (go_at_call 30; (with_reducible refine (wideShown_any _).mono ?_); rintro e w1 ⟨rfl, hb1⟩; obtain ⟨hc1, hf1, hk1, hz1⟩ := bcell3 hb1; (try simp only [World.size_alloc] at hz1); have : w.heap.size < w1.heap.size := (by omega); have : w.heap.size + 1 < w1.heap.size := (by omega))
    | (go_at_call 39; refine (of_any q hq _).mono ?_; rintro e w2 ⟨rfl, hb2⟩; obtain ⟨hc2, hf2, hk2, hz2⟩ := bcell3 hb2; (try simp only [World.size_alloc] at hz2); have : w.heap.size < w2.heap.size := (by omega); have : w.heap.size + 1 < w2.heap.size := (by omega))
    | (go_at_call 46; (with_reducible refine (to_any q _).mono ?_); rintro e w3 ⟨rfl, hb3⟩; rw [e1, e2]; obtain ⟨hc3, hf3, hk3, hz3⟩ := bcell3 hb3; (try simp only [World.size_alloc] at hz3); have : w.heap.size < w3.heap.size := (by omega); have : w.heap.size + 1 < w3.heap.size := (by omega)))
  have hB3 : Below w.heap.size w w3 := by (repeat' (first | (with_reducible exact Below.refl _ _) | (with_reducible assumption) | (with_reducible refine Below.new ?_ _) | (with_reducible refine Below.alloc ?_ ?_ _) | (with_reducible refine Below.drew ?_) | (with_reducible refine Below.setCell ?_ ?_ _) | (refine Below.step ?_ (by assumption)) | go_size))
  have s0 : w3.cell? ⟨w.heap.size, 0, none⟩ = some (.int .i64 Nh) := by go_simp
  have s1 : w3.cell? ⟨w.heap.size, 1, none⟩ = some (.int .u64 Nl) := by go_simp
  have s2 : w3.cell? ⟨w.heap.size + 1, 0, none⟩ = some (.int .i64 Mh) := by go_simp
  have s3 : w3.cell? ⟨w.heap.size + 1, 1, none⟩ = some (.int .u64 Ml) := by go_simp
  have p0 := World.plus_cell s0; have p1 := World.plus_cell s1; have p2 := World.plus_cell s2; have p3 := World.plus_cell s3
  clear hc1 hc2 hc3 hf1 hf2 hf3 hk1 hk2 hk3 s0 s1 s2 s3
  refine wp_region_plus (by kernel_rfl) (by kernel_rfl) ?_
  repeat (first | go_big_quiet_skip | (go_big_quiet_want; go_big_quiet_op; first | go_big_quiet_on | go_big_quiet_call ((first | (go_at_call 34; first | with_reducible exact Calls.plus_of (A1.out _) | with_reducible exact Calls.plus_of (A2.out _) | with_reducible exact Calls.plus_of (A3.out _)) | (go_at_call 49; with_reducible exact Calls.plus_of (A4.out _)) | (go_at_call 45; first | with_reducible exact Calls.plus_of (C1.out _) | with_reducible exact Calls.plus_of (C2.out _))))))
  refine wpQuiet_nil ?_
  rintro _ ⟨xq, rfl⟩
  have kB := World.plus_below w3 xq
  go_wp2
  go_ret

  exact ⟨ret_bool (by simp [hC]), by (repeat' (first | (with_reducible exact Below.refl _ _) | (with_reducible assumption) | (with_reducible refine Below.new ?_ _) | (with_reducible refine Below.alloc ?_ ?_ _) | (with_reducible refine Below.drew ?_) | (with_reducible refine Below.setCell ?_ ?_ _) | (refine Below.step ?_ (by assumption)) | go_size))⟩

theorem WideBack_walk (a b : Int) (ha : I64 a) (hb : U64 b) (c d : Int) (hc : I64 c) (hd : U64 d) (q : Int) (hq : I64 q) (w : World) :
    Calls Try.prog 17 #[.agg #[.int .i64 a, .int .u64 b], .agg #[.int .i64 c, .int .u64 d], .int .i64 q] w fun e w' => e = .returned (.bool true) ∧ Below w.heap.size w w' := by
  rw [wv_words ha hb, wv_words hc hd]
  exact wideBack_core _ _ q hq w
set_option maxRecDepth 100000 in
theorem WideBack_lifted (os : Os) (started : os.Started) (H : Type) (enc : TypeId × Value → H) :
    ReturnsInHanded {} Try.checked os 17 .any (Rows.wideBackSpec.pre6 enc Try.prog Try.f17 Rows.wideBackRow.domain false) (Rows.wideBackSpec.post enc Try.prog Try.f17 false true false false) := by
  refine law_lift started (by kernel_rfl) Try.func17
    (ChangeSpec.witness6 (enc := enc) (C := Try.checked) false ⟨#[], #[.agg #[.int .i64 0, .int .u64 0], .agg #[.int .i64 0, .int .u64 0], .int .i64 0], []⟩ 8 (by kernel_rfl) (by kernel_rfl) (by kernel_rfl) (by kernel_rfl)) rfl rfl (by kernel_rfl) ?_ ?_
  · intro ds hl
    match ds, hl with
    | [_, _, _], _ => exact ⟨rfl, rfl, rfl⟩
  · intro W base args ds p hval hA hsz
    rw [Try.params17] at hA hval hsz
    obtain ⟨v0, vs0, d0, ds0, p0, q0, hargs, rfl, rfl, h0, r0⟩ := trodAll_cons hA
    obtain ⟨v1, vs1, d1, ds1, p1, q1, rfl, rfl, rfl, h1, r1⟩ := trodAll_cons r0
    obtain ⟨v2, vs2, d2, ds2, p2, q2, rfl, rfl, rfl, h2, r2⟩ := trodAll_cons r1
    obtain ⟨rfl, rfl, rfl⟩ := trodAll_nil r2
    obtain rfl : args = #[v0, v1, v2] := by cases args; simp_all
    obtain ⟨a0, c0, rfl, b0, e0⟩ := open_wide (hval 0 39 v0 rfl rfl) h0
    obtain ⟨a1, c1, rfl, b1, e1⟩ := open_wide (hval 1 39 v1 rfl rfl) h1
    obtain ⟨a2, rfl, b2⟩ := open_i64 Try.underlying2 (hval 2 2 v2 rfl rfl) h2
    exact WideBack_walk a0 c0 b0 e0 a1 c1 b1 e1 a2 b2 W

theorem WideBack_over : Rows.wideBackRow.holds Try.pinned (OpenSpec.ofChange Rows.wideBackSpec) :=
  OpenClaim.holds_of_wide 17 Try.f17 rfl rfl rfl rfl rfl rfl rfl ⟨rfl, rfl, rfl, rfl, rfl⟩ rfl rfl rfl rfl rfl (by kernel_rfl) Try.func17 (by kernel_rfl)
    (of_decide_eq_true (by kernel_rfl)) (by unfold Func.isWrapper; first | (rw [if_pos (by decide +kernel)]; kernel_rfl) | (rw [if_neg (by decide +kernel)]; exact ⟨rfl, rfl⟩))
    (fun os started H enc _ => WideBack_lifted os started H enc)

/-- The statement. -/
theorem WideBack_proved : Rows.WideBackSaid := WideBack_over
end Go.Proofs.Ytekmcomddaoljaa
