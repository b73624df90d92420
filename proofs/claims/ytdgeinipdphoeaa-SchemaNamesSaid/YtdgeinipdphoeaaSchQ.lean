/- Schemas: the law's 'shown' is true. -/
import Derived.Test.YtdgeinipdphoeaaSchP
namespace Go.Proofs.Ytdgeinipdphoeaa
set_option linter.unusedVariables false
set_option linter.unusedSimpArgs false
set_option maxRecDepth 100000
open Go.ChangeShapes Go.WideShapes Go.ChangeAt Go.RowKit

/-- A literal. -/
theorem SlAt.lit (w : World) (cs : Array Value) (T : TypeId) (n size : Nat) (h : cs.size = n * size) (hn : n ≤ 1000) : SlAt (w.alloc (.cells cs T)) (.slice (some ⟨w.heap.size, 0, none⟩) n n) n size cs.toList := by
  refine ⟨by simpa using h, _, n, rfl, Nat.le_refl _, (by unfold maxLen; omega), (fun h => by cases h), fun _ => ⟨w.heap.size, 0, rfl, fun j u hj => ?_⟩⟩
  rw [World.cell?_alloc_at _ _ _ _ rfl]
  simpa using hj
abbrev bA : ByteArray := { data := #[97] }
abbrev bB : ByteArray := { data := #[98] }
abbrev bN : ByteArray := { data := #[110] }
abbrev bAB : ByteArray := { data := #[97, 98] }
theorem shown_right : rightS [bA, bB] [bN] 1 = true := by decide +kernel
theorem shown_fits : fitsS [bA, bB] [bN] 1 300 [⟨bAB, false⟩, ⟨{ data := #[] }, true⟩] 1 = true := by
  unfold fitsS; rw [shown_right]; decide +kernel
theorem shown_unfit : fitsS [bA, bB] [bN] 1 (-1) [] 0 = false := by
  unfold fitsS; rw [shown_right]; decide +kernel
theorem shown_bytes : rowE 300 [⟨bAB, false⟩, ⟨{ data := #[] }, true⟩] [-2] = [172, 2, 3, 97, 98, 0, 3] := by
  have h1 : putB 300 = [172, 2] := by rw [putB, if_neg (by decide), putB, if_pos (by decide)]; rfl
  have h2 : putB 3 = [3] := by rw [putB, if_pos (by decide)]; rfl
  have h3 : putB 0 = [0] := by rw [putB, if_pos (by decide)]; rfl
  have e1 : valE ⟨bAB, false⟩ = [3, 97, 98] := by show putB 3 ++ _ = _; rw [h2]; rfl
  have e2 : valE ⟨{ data := #[] }, true⟩ = [0] := by show putB 0 ++ _ = _; rw [h3]; rfl
  have e3 : numE (-2) = [3] := by show putB 3 = _; exact h2
  unfold rowE
  rw [show (300 : Int).toNat = 300 from rfl, h1]
  simp [e1, e2, e3]

set_option maxHeartbeats 2000000 in
theorem shown10_any (w : World) : Calls Try.prog 13 #[] w fun e w' => e = .returned (.bool true) ∧ Below w.heap.size w w' := by
  have td : Texts [bA, bB] := ⟨by simp, fun s hs => by simp at hs; rcases hs with rfl | rfl <;> decide⟩
  have tm : Texts [bN] := ⟨by simp, fun s hs => by simp at hs; subst hs; decide⟩
  have tv : Vals [⟨bAB, false⟩, ⟨{ data := #[] }, true⟩] := ⟨by simp, fun v hv => by simp at hv; rcases hv with rfl | rfl <;> decide⟩
  have H0 : Hid (∀ W : World, StrsSl (W.alloc (.cells #[.string bA, .string bB] 9)) (.slice (some ⟨W.heap.size, 0, none⟩) 2 2) [bA, bB]) := fun W => SlAt.lit W #[.string bA, .string bB] _ 2 1 rfl (by decide)
  have H1 : Hid (∀ W : World, StrsSl (W.alloc (.cells #[.string bN] 9)) (.slice (some ⟨W.heap.size, 0, none⟩) 1 1) [bN]) := fun W => SlAt.lit W #[_] _ 1 1 rfl (by decide)
  have H2 : Hid (∀ W : World, ValsSl (W.alloc (.cells #[.string bAB, .bool false, .string { data := #[] }, .bool true] 54)) (.slice (some ⟨W.heap.size, 0, none⟩) 2 2) [⟨bAB, false⟩, ⟨{ data := #[] }, true⟩]) := fun W => SlAt.lit W #[_, _, _, _] _ 2 2 rfl (by decide)
  have H3 : Hid (∀ W : World, IntsSl (W.alloc (.cells #[.int .i64 (-2)] 2)) (.slice (some ⟨W.heap.size, 0, none⟩) 1 1) [-2]) := fun W => SlAt.lit W #[_] _ 1 1 rfl (by decide)
  have HR := hid (fun W vd vm h1 h2 => right_any vd vm [bA, bB] [bN] 1 W h1 h2 td tm)
  have HF := hid (fun W vd vm vr vn h1 h2 h3 h4 => fits_any vd vm vr vn [bA, bB] [bN] 1 300 [⟨bAB, false⟩, ⟨{ data := #[] }, true⟩] 1 _ W h1 h2 td tm h3 tv (h4 : IntsSl W vn [-2]))
  have HE := hid (fun W vd vm vr vn h1 h2 h3 h4 => encode_ok vd vm vr vn [bA, bB] [bN] 1 300 [⟨bAB, false⟩, ⟨{ data := #[] }, true⟩] [-2] W h1 h2 td tm h3 tv h4 (fun n hn => by simp at hn; omega) shown_fits)
  have HB := hid (fun W vd vm vr vn h1 h2 h3 h4 => encode_bad vd vm vr vn [bA, bB] [bN] 1 (-1) [] [] W h1 h2 td tm h3 ⟨by simp, by simp⟩ h4 shown_unfit)
  rw [shown_right] at HR HB
  rw [shown_fits] at HF
  rw [shown_bytes] at HE
  clear td tm tv
  have h0 := H0.out w
  have h1 := H1.out (w.alloc (.cells #[.string bA, .string bB] 9))
  obtain ⟨W3, hW3⟩ : ∃ W3, ((w.alloc (.cells #[.string bA, .string bB] 9)).alloc (.cells #[.string bN] 9)).alloc (.cells #[.slice (some ⟨w.heap.size, 0, none⟩) 2 2, .slice (some ⟨w.heap.size + 1, 0, none⟩) 1 1, .int .i64 1] 24) = W3 := ⟨_, rfl⟩
  have h2 := H2.out W3
  have h3 := H3.out (W3.alloc (.cells #[.string bAB, .bool false, .string { data := #[] }, .bool true] 54))
  have hz3 : W3.heap.size = w.heap.size + 1 + 1 + 1 := by rw [← hW3]; simp
  obtain ⟨W6, hW6⟩ : ∃ W6, ((W3.alloc (.cells #[.string bAB, .bool false, .string { data := #[] }, .bool true] 54)).alloc (.cells #[.int .i64 (-2)] 2)).alloc (.cells #[.int .i64 300, .slice (some ⟨w.heap.size + 1 + 1 + 1, 0, none⟩) 2 2, .slice (some ⟨w.heap.size + 1 + 1 + 1 + 1, 0, none⟩) 1 1] 28) = W6 := ⟨_, rfl⟩
  have hz6 : W6.heap.size = w.heap.size + 1 + 1 + 1 + 1 + 1 + 1 := by rw [← hW6]; simp [hz3]
  simp only [World.size_alloc, hz3] at h1 h2 h3
  have hb0 : Below W3.heap.size W3 W6 := by rw [← hW6]; (repeat' (first | (with_reducible exact Below.refl _ _) | (with_reducible assumption) | (with_reducible refine Below.new ?_ _) | (with_reducible refine Below.alloc ?_ ?_ _) | (with_reducible refine Below.drew ?_) | (with_reducible refine Below.drewN ?_ _) | (with_reducible refine Below.setCell ?_ ?_ _) | (refine Below.step ?_ (by assumption)) | go_size))
  have hbw : Below w.heap.size w W6 := by rw [← hW6, ← hW3]; (repeat' (first | (with_reducible exact Below.refl _ _) | (with_reducible assumption) | (with_reducible refine Below.new ?_ _) | (with_reducible refine Below.alloc ?_ ?_ _) | (with_reducible refine Below.drew ?_) | (with_reducible refine Below.drewN ?_ _) | (with_reducible refine Below.setCell ?_ ?_ _) | (refine Below.step ?_ (by assumption)) | go_size))
  have b0 : Below (w.alloc (.cells #[.string bA, .string bB] 9)).heap.size (w.alloc (.cells #[.string bA, .string bB] 9)) W6 := by rw [← hW6, ← hW3]; (repeat' (first | (with_reducible exact Below.refl _ _) | (with_reducible assumption) | (with_reducible refine Below.new ?_ _) | (with_reducible refine Below.alloc ?_ ?_ _) | (with_reducible refine Below.drew ?_) | (with_reducible refine Below.drewN ?_ _) | (with_reducible refine Below.setCell ?_ ?_ _) | (refine Below.step ?_ (by assumption)) | go_size))
  have b1 : Below ((w.alloc (.cells #[.string bA, .string bB] 9)).alloc (.cells #[.string bN] 9)).heap.size ((w.alloc (.cells #[.string bA, .string bB] 9)).alloc (.cells #[.string bN] 9)) W6 := by rw [← hW6, ← hW3]; (repeat' (first | (with_reducible exact Below.refl _ _) | (with_reducible assumption) | (with_reducible refine Below.new ?_ _) | (with_reducible refine Below.alloc ?_ ?_ _) | (with_reducible refine Below.drew ?_) | (with_reducible refine Below.drewN ?_ _) | (with_reducible refine Below.setCell ?_ ?_ _) | (refine Below.step ?_ (by assumption)) | go_size))
  have b2 : Below (W3.alloc (.cells #[.string bAB, .bool false, .string { data := #[] }, .bool true] 54)).heap.size (W3.alloc (.cells #[.string bAB, .bool false, .string { data := #[] }, .bool true] 54)) W6 := by rw [← hW6]; (repeat' (first | (with_reducible exact Below.refl _ _) | (with_reducible assumption) | (with_reducible refine Below.new ?_ _) | (with_reducible refine Below.alloc ?_ ?_ _) | (with_reducible refine Below.drew ?_) | (with_reducible refine Below.drewN ?_ _) | (with_reducible refine Below.setCell ?_ ?_ _) | (refine Below.step ?_ (by assumption)) | go_size))
  have b3 : Below ((W3.alloc (.cells #[.string bAB, .bool false, .string { data := #[] }, .bool true] 54)).alloc (.cells #[.int .i64 (-2)] 2)).heap.size ((W3.alloc (.cells #[.string bAB, .bool false, .string { data := #[] }, .bool true] 54)).alloc (.cells #[.int .i64 (-2)] 2)) W6 := by rw [← hW6]; (repeat' (first | (with_reducible exact Below.refl _ _) | (with_reducible assumption) | (with_reducible refine Below.new ?_ _) | (with_reducible refine Below.alloc ?_ ?_ _) | (with_reducible refine Below.drew ?_) | (with_reducible refine Below.drewN ?_ _) | (with_reducible refine Below.setCell ?_ ?_ _) | (refine Below.step ?_ (by assumption)) | go_size))
  have G0 := hid (h0.below b0); have G1 := hid (h1.below b1); have G2 := hid (h2.below b2); have G3 := hid (h3.below b3)
  have e0 : W6.cell? ⟨w.heap.size + 1 + 1, 0, none⟩ = some (.slice (some ⟨w.heap.size, 0, none⟩) 2 2) := by clear hz6 hb0 hbw b0 b1 b2 b3 G0 G1 G2 G3 h0 h1 h2 h3; subst hW6; clear hz3; subst hW3; go_simp
  have e1 : W6.cell? ⟨w.heap.size + 1 + 1, 1, none⟩ = some (.slice (some ⟨w.heap.size + 1, 0, none⟩) 1 1) := by clear hz6 hb0 hbw b0 b1 b2 b3 G0 G1 G2 G3 h0 h1 h2 h3; subst hW6; clear hz3; subst hW3; go_simp
  have e2 : W6.cell? ⟨w.heap.size + 1 + 1, 2, none⟩ = some (.int .i64 1) := by clear hz6 hb0 hbw b0 b1 b2 b3 G0 G1 G2 G3 h0 h1 h2 h3; subst hW6; clear hz3; subst hW3; go_simp
  have e3 : W6.cell? ⟨w.heap.size + 1 + 1 + 1 + 1 + 1, 0, none⟩ = some (.int .i64 300) := by clear hz6 hb0 hbw b0 b1 b2 b3 G0 G1 G2 G3 h0 h1 h2 h3; subst hW6; clear hz3; subst hW3; go_simp
  have e4 : W6.cell? ⟨w.heap.size + 1 + 1 + 1 + 1 + 1, 1, none⟩ = some (.slice (some ⟨w.heap.size + 1 + 1 + 1, 0, none⟩) 2 2) := by clear hz6 hb0 hbw b0 b1 b2 b3 G0 G1 G2 G3 h0 h1 h2 h3; subst hW6; clear hz3; subst hW3; go_simp
  have e5 : W6.cell? ⟨w.heap.size + 1 + 1 + 1 + 1 + 1, 2, none⟩ = some (.slice (some ⟨w.heap.size + 1 + 1 + 1 + 1, 0, none⟩) 1 1) := by clear hz6 hb0 hbw b0 b1 b2 b3 G0 G1 G2 G3 h0 h1 h2 h3; subst hW6; clear hz3; subst hW3; go_simp
  clear h0 h1 h2 h3 b0 b1 b2 b3 hb0
  rw [← hW3] at hW6
  have HW6 := hid hW6; have HZ6 := hid hz6
  clear hW3 hz3 hW6 hz6
  go_enter Try.func13, Try.ntmps13
  go_wp2_with fail
  rw [HW6.out]
  refine (HE.out W6 _ _ _ _ G0.out G1.out G2.out G3.out).mono ?_
  rintro e w7 ⟨rfl, hb7⟩
  have f0 := cell_step e0 hb7; have f1 := cell_step e1 hb7; have f2 := cell_step e2 hb7; have f3 := cell_step e3 hb7; have f4 := cell_step e4 hb7; have f5 := cell_step e5 hb7
  have hz7 := hb7.size
  rw [HZ6.out] at hz7
  have B7 := hid (hbw.trans (hb7.mono (by rw [HZ6.out]; omega)))
  have K0 := hid (G0.out.below hb7); have K1 := hid (G1.out.below hb7); have K2 := hid (G2.out.below hb7); have K3 := hid (G3.out.below hb7)
  clear e0 e1 e2 e3 e4 e5 hb7 hbw
  go_wp2_with fail
  refine (HB.out w7 _ _ _ _ K0.out K1.out (SlAt.nil _ _) (SlAt.nil _ _)).mono ?_
  rintro e w8 ⟨rfl, hb8⟩
  have g0 := cell_step f0 hb8; have g1 := cell_step f1 hb8; have g2 := cell_step f2 hb8; have g3 := cell_step f3 hb8; have g4 := cell_step f4 hb8; have g5 := cell_step f5 hb8
  clear f0 f1 f2 f3 f4 f5
  have hz8 := hb8.size
  have B8 := hid (B7.out.trans (hb8.mono (by omega)))
  have L0 := hid (K0.out.below hb8); have L1 := hid (K1.out.below hb8); have L2 := hid (K2.out.below hb8); have L3 := hid (K3.out.below hb8)
  clear hb8
  go_wp2_with fail
  refine (HR.out w8 _ _ L0.out L1.out).mono ?_
  rintro e w9 ⟨rfl, hb9⟩
  have k0 := cell_step g0 hb9; have k1 := cell_step g1 hb9; have k2 := cell_step g2 hb9; have k3 := cell_step g3 hb9; have k4 := cell_step g4 hb9; have k5 := cell_step g5 hb9
  clear g0 g1 g2 g3 g4 g5
  have hz9 := hb9.size
  have B9 := hid (B8.out.trans (hb9.mono (by omega)))
  have M0 := hid (L0.out.below hb9); have M1 := hid (L1.out.below hb9); have M2 := hid (L2.out.below hb9); have M3 := hid (L3.out.below hb9)
  clear hb9
  go_wp2_with fail
  refine (HF.out w9 _ _ _ _ M0.out M1.out M2.out M3.out).mono ?_
  rintro e w10 ⟨rfl, hb10⟩
  have B10 := hid (B9.out.trans (hb10.mono (by omega)))
  go_wp2
  go_ret
  exact ⟨rfl, B10.out⟩
end Go.Proofs.Ytdgeinipdphoeaa
