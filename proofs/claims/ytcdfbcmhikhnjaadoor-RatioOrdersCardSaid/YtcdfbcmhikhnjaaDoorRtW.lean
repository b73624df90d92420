/- Ratio: the law's 'shown'. -/
import Derived.Test.YtcdfbcmhikhnjaaDoorRtV
import Derived.Test.YtcdfbcmhikhnjaaDoorRtI
namespace Go.Proofs.YtcdfbcmhikhnjaaDoor
set_option linter.unusedVariables false
set_option linter.unusedSimpArgs false
set_option maxRecDepth 100000
open Go.ChangeShapes Go.WideShapes Go.ChangeAt Go.RowKit Go.Fl
attribute [local go_sem] ord_lt ord_eq ord_gt ord_ne

theorem show_1 : ofF 3 2 < 2 ^ 64 ∧ textB (ofF 3 2) = [51, 112, 45, 49] := by decide +kernel
theorem show_2 : ofF (-7) 0 < 2 ^ 64 ∧ textB (ofF (-7) 0) = [45, 105, 110, 102] := by decide +kernel
theorem show_3 : ofF 0 0 < 2 ^ 64 ∧ textB (ofF 0 0) = [110, 97, 110] := by decide +kernel
theorem show_4 : ofF 1 3 < 2 ^ 64 ∧ textB (ofF 1 3) = [54, 48, 48, 52, 55, 57, 57, 53, 48, 51, 49, 54, 48, 54, 54, 49, 112, 45, 53, 52] := by decide +kernel
theorem show_e : ofE 2 = 0 ∧ ofE 0 = 0 ∧ ofE 3 = 0 ∧ ofE (-1) = 90 := by decide
theorem lay_text {F : Nat} {l : List UInt8} (h : F < 2 ^ 64 ∧ textB F = l) (w : World) (hT : Tabs w) : Calls Tryd.prog 28 #[.float .f64 F] w fun e w' => e = .returned (strL l) ∧ Below w.heap.size w w' := by
  have := text_any F h.1 w hT
  rw [h.2] at this
  exact this
set_option maxHeartbeats 2000000 in
theorem shown_any (w : World) (hT : Tabs w) : Calls Tryd.prog 10 #[] w fun e w' => e = .returned (.bool true) ∧ Below w.heap.size w w' := by
  obtain ⟨e1, e2, e3, e4⟩ := show_e
  have O1 := hid (fun W => of_any 3 (by decide) W); have O2 := hid (fun W => of_any (-7) (by decide) W); have O3 := hid (fun W => of_any 0 (by decide) W); have O4 := hid (fun W => of_any 1 (by decide) W)
  have R1 := hid (fun W => ratio_of 3 2 (by decide) (by decide) W); have R2 := hid (fun W => ratio_of (-7) 0 (by decide) (by decide) W); have R3 := hid (fun W => ratio_of 0 0 (by decide) (by decide) W); have R4 := hid (fun W => ratio_of 1 3 (by decide) (by decide) W); have R5 := hid (fun W => ratio_of 1 (-1) (by decide) (by decide) W)
  rw [e1] at R1; rw [e2] at R2 R3; rw [e3] at R4; rw [e4] at R5
  have T1 := hid (fun W (h : Tabs W) => lay_text show_1 W h); have T2 := hid (fun W (h : Tabs W) => lay_text show_2 W h); have T3 := hid (fun W (h : Tabs W) => lay_text show_3 W h); have T4 := hid (fun W (h : Tabs W) => lay_text show_4 W h)
  clear e1 e2 e3 e4
  generalize ofF 3 2 = f1 at *; generalize ofF (-7) 0 = f2 at *; generalize ofF 0 0 = f3 at *; generalize ofF 1 3 = f4 at *; generalize ofF 1 (-1) = f5 at *
  obtain ⟨v1, h1⟩ : ∃ v, (Value.agg #[.int .i64 (hiW ((3 : Int))), .int .u64 (loW ((3 : Int)))]) = v := ⟨_, rfl⟩; obtain ⟨v2, h2⟩ : ∃ v, (Value.agg #[.int .i64 (hiW ((-7 : Int))), .int .u64 (loW ((-7 : Int)))]) = v := ⟨_, rfl⟩; obtain ⟨v3, h3⟩ : ∃ v, (Value.agg #[.int .i64 (hiW ((0 : Int))), .int .u64 (loW ((0 : Int)))]) = v := ⟨_, rfl⟩; obtain ⟨v4, h4⟩ : ∃ v, (Value.agg #[.int .i64 (hiW ((1 : Int))), .int .u64 (loW ((1 : Int)))]) = v := ⟨_, rfl⟩
  rw [h1] at O1 R1; rw [h2] at O2 R2; rw [h3] at O3 R3; rw [h4] at O4 R4 R5
  have hTT : ∀ W, Below w.heap.size w W → Tabs W := fun W h => hT.below h (Nat.le_refl _)
  replace hTT := hid hTT
  clear h1 h2 h3 h4 hT
  go_enter Tryd.func10, Tryd.ntmps10
  go_wp2_with (first
    | (go_at_call 21; first
      | ((with_reducible refine (O1.out _).mono ?_); rintro e x1 ⟨rfl, hx1⟩)
      | ((with_reducible refine (O2.out _).mono ?_); rintro e x2 ⟨rfl, hx2⟩)
      | ((with_reducible refine (O3.out _).mono ?_); rintro e x3 ⟨rfl, hx3⟩)
      | ((with_reducible refine (O4.out _).mono ?_); rintro e x4 ⟨rfl, hx4⟩))
    | (go_at_call 14; first
      | ((with_reducible refine (R1.out _).mono ?_); rintro e y1 ⟨rfl, hy1⟩)
      | ((with_reducible refine (R2.out _).mono ?_); rintro e y2 ⟨rfl, hy2⟩)
      | ((with_reducible refine (R3.out _).mono ?_); rintro e y3 ⟨rfl, hy3⟩)
      | ((with_reducible refine (R4.out _).mono ?_); rintro e y4 ⟨rfl, hy4⟩)
      | ((with_reducible refine (R5.out _).mono ?_); rintro e y5 ⟨rfl, hy5⟩))
    | (go_at_call 28; first
      | ((with_reducible refine (T1.out _ (hTT.out _ (by (repeat' (first | (with_reducible exact Below.refl _ _) | (with_reducible assumption) | (with_reducible refine Below.new ?_ _) | (with_reducible refine Below.alloc ?_ ?_ _) | (with_reducible refine Below.drew ?_) | (with_reducible refine Below.drewN ?_ _) | (with_reducible refine Below.setCell ?_ ?_ _) | (refine Below.step ?_ (by assumption)) | go_size))))).mono ?_); rintro e z1 ⟨rfl, hz1⟩)
      | ((with_reducible refine (T2.out _ (hTT.out _ (by (repeat' (first | (with_reducible exact Below.refl _ _) | (with_reducible assumption) | (with_reducible refine Below.new ?_ _) | (with_reducible refine Below.alloc ?_ ?_ _) | (with_reducible refine Below.drew ?_) | (with_reducible refine Below.drewN ?_ _) | (with_reducible refine Below.setCell ?_ ?_ _) | (refine Below.step ?_ (by assumption)) | go_size))))).mono ?_); rintro e z2 ⟨rfl, hz2⟩)
      | ((with_reducible refine (T3.out _ (hTT.out _ (by (repeat' (first | (with_reducible exact Below.refl _ _) | (with_reducible assumption) | (with_reducible refine Below.new ?_ _) | (with_reducible refine Below.alloc ?_ ?_ _) | (with_reducible refine Below.drew ?_) | (with_reducible refine Below.drewN ?_ _) | (with_reducible refine Below.setCell ?_ ?_ _) | (refine Below.step ?_ (by assumption)) | go_size))))).mono ?_); rintro e z3 ⟨rfl, hz3⟩)
      | ((with_reducible refine (T4.out _ (hTT.out _ (by (repeat' (first | (with_reducible exact Below.refl _ _) | (with_reducible assumption) | (with_reducible refine Below.new ?_ _) | (with_reducible refine Below.alloc ?_ ?_ _) | (with_reducible refine Below.drew ?_) | (with_reducible refine Below.drewN ?_ _) | (with_reducible refine Below.setCell ?_ ?_ _) | (refine Below.step ?_ (by assumption)) | go_size))))).mono ?_); rintro e z4 ⟨rfl, hz4⟩)))
  go_ret
  exact ⟨rfl, by (repeat' (first | (with_reducible exact Below.refl _ _) | (with_reducible assumption) | (with_reducible refine Below.new ?_ _) | (with_reducible refine Below.alloc ?_ ?_ _) | (with_reducible refine Below.drew ?_) | (with_reducible refine Below.drewN ?_ _) | (with_reducible refine Below.setCell ?_ ?_ _) | (refine Below.step ?_ (by assumption)) | go_size))⟩
end Go.Proofs.YtcdfbcmhikhnjaaDoor
