/- Texts joined: SchQ, SchS, SchT, SeqR, SeqR2, SchU, SchV, SchY. -/
import Derived.Test.YtdgeinipdphoeaaDoorHf
import Derived.Test.YtdgeinipdphoeaaDoorHc
import Derived.Test.YtdgeinipdphoeaaDoorHb
import Derived.Stop.RegionWithIn
import Derived.Sort.QuietIn
/- Schemas: the law's 'shown' is true. -/
namespace Go.Proofs.YtdgeinipdphoeaaDoor
set_option linter.unusedVariables false
set_option linter.unusedSimpArgs false
set_option maxRecDepth 100000
open Go.ChangeShapes Go.WideShapes Go.ChangeAt Go.RowKit

/-- A literal. -/
theorem SlAt.lit (w : World) (cs : Array Value) (T : TypeId) (n size : Nat) (h : cs.size = n * size) (hn : n ≤ 1000) : SlAt (w.alloc (.cells cs T)) (.slice (some ⟨w.heap.size, 0, none⟩) n n) n size cs.toList := by
  refine ⟨by simpa using h, _, n, rfl, Nat.le_refl _, (by unfold maxLen; omega), (fun h => by cases h), fun _ => ⟨w.heap.size, 0, rfl, fun j u hj => ?_⟩⟩
  rw [World.cell?_alloc_at _ _ _ _ rfl]
  simpa using hj
abbrev bA : ByteArray := { data := #[97] }
abbrev bB : ByteArray := { data := #[98] }
abbrev bN : ByteArray := { data := #[110] }
abbrev bAB : ByteArray := { data := #[97, 98] }
theorem shown_right : rightS [bA, bB] [bN] 1 = true := by decide +kernel
theorem shown_fits : fitsS [bA, bB] [bN] 1 300 [⟨bAB, false⟩, ⟨{ data := #[] }, true⟩] 1 = true := by
  unfold fitsS; rw [shown_right]; decide +kernel
theorem shown_unfit : fitsS [bA, bB] [bN] 1 (-1) [] 0 = false := by
  unfold fitsS; rw [shown_right]; decide +kernel
theorem shown_bytes : rowE 300 [⟨bAB, false⟩, ⟨{ data := #[] }, true⟩] [-2] = [172, 2, 3, 97, 98, 0, 3] := by
  have h1 : putB 300 = [172, 2] := by rw [putB, if_neg (by decide), putB, if_pos (by decide)]; rfl
  have h2 : putB 3 = [3] := by rw [putB, if_pos (by decide)]; rfl
  have h3 : putB 0 = [0] := by rw [putB, if_pos (by decide)]; rfl
  have e1 : valE ⟨bAB, false⟩ = [3, 97, 98] := by show putB 3 ++ _ = _; rw [h2]; rfl
  have e2 : valE ⟨{ data := #[] }, true⟩ = [0] := by show putB 0 ++ _ = _; rw [h3]; rfl
  have e3 : numE (-2) = [3] := by show putB 3 = _; exact h2
  unfold rowE
  rw [show (300 : Int).toNat = 300 from rfl, h1]
  simp [e1, e2, e3]

set_option maxHeartbeats 2000000 in
theorem shown10_any (w : World) : Calls Tryd.prog 5 #[] w fun e w' => e = .returned (.bool true) ∧ Below w.heap.size w w' := by
  have td : Texts [bA, bB] := ⟨by simp, fun s hs => by simp at hs; rcases hs with rfl | rfl <;> decide⟩
  have tm : Texts [bN] := ⟨by simp, fun s hs => by simp at hs; subst hs; decide⟩
  have tv : Vals [⟨bAB, false⟩, ⟨{ data := #[] }, true⟩] := ⟨by simp, fun v hv => by simp at hv; rcases hv with rfl | rfl <;> decide⟩
  have H0 : Hid (∀ W : World, StrsSl (W.alloc (.cells #[.string bA, .string bB] 9)) (.slice (some ⟨W.heap.size, 0, none⟩) 2 2) [bA, bB]) := fun W => SlAt.lit W #[.string bA, .string bB] _ 2 1 rfl (by decide)
  have H1 : Hid (∀ W : World, StrsSl (W.alloc (.cells #[.string bN] 9)) (.slice (some ⟨W.heap.size, 0, none⟩) 1 1) [bN]) := fun W => SlAt.lit W #[_] _ 1 1 rfl (by decide)
  have H2 : Hid (∀ W : World, ValsSl (W.alloc (.cells #[.string bAB, .bool false, .string { data := #[] }, .bool true] 41)) (.slice (some ⟨W.heap.size, 0, none⟩) 2 2) [⟨bAB, false⟩, ⟨{ data := #[] }, true⟩]) := fun W => SlAt.lit W #[_, _, _, _] _ 2 2 rfl (by decide)
  have H3 : Hid (∀ W : World, IntsSl (W.alloc (.cells #[.int .i64 (-2)] 2)) (.slice (some ⟨W.heap.size, 0, none⟩) 1 1) [-2]) := fun W => SlAt.lit W #[_] _ 1 1 rfl (by decide)
  have HR := hid (fun W vd vm h1 h2 => right_any vd vm [bA, bB] [bN] 1 W h1 h2 td tm)
  have HF := hid (fun W vd vm vr vn h1 h2 h3 h4 => fits_any vd vm vr vn [bA, bB] [bN] 1 300 [⟨bAB, false⟩, ⟨{ data := #[] }, true⟩] 1 _ W h1 h2 td tm h3 tv (h4 : IntsSl W vn [-2]))
  have HE := hid (fun W vd vm vr vn h1 h2 h3 h4 => encode_ok vd vm vr vn [bA, bB] [bN] 1 300 [⟨bAB, false⟩, ⟨{ data := #[] }, true⟩] [-2] W h1 h2 td tm h3 tv h4 (fun n hn => by simp at hn; omega) shown_fits)
  have HB := hid (fun W vd vm vr vn h1 h2 h3 h4 => encode_bad vd vm vr vn [bA, bB] [bN] 1 (-1) [] [] W h1 h2 td tm h3 ⟨by simp, by simp⟩ h4 shown_unfit)
  rw [shown_right] at HR HB
  rw [shown_fits] at HF
  rw [shown_bytes] at HE
  clear td tm tv
  have h0 := H0.out w
  have h1 := H1.out (w.alloc (.cells #[.string bA, .string bB] 9))
  obtain ⟨W3, hW3⟩ : ∃ W3, ((w.alloc (.cells #[.string bA, .string bB] 9)).alloc (.cells #[.string bN] 9)).alloc (.cells #[.slice (some ⟨w.heap.size, 0, none⟩) 2 2, .slice (some ⟨w.heap.size + 1, 0, none⟩) 1 1, .int .i64 1] 24) = W3 := ⟨_, rfl⟩
  have h2 := H2.out W3
  have h3 := H3.out (W3.alloc (.cells #[.string bAB, .bool false, .string { data := #[] }, .bool true] 41))
  have hz3 : W3.heap.size = w.heap.size + 1 + 1 + 1 := by rw [← hW3]; simp
  obtain ⟨W6, hW6⟩ : ∃ W6, ((W3.alloc (.cells #[.string bAB, .bool false, .string { data := #[] }, .bool true] 41)).alloc (.cells #[.int .i64 (-2)] 2)).alloc (.cells #[.int .i64 300, .slice (some ⟨w.heap.size + 1 + 1 + 1, 0, none⟩) 2 2, .slice (some ⟨w.heap.size + 1 + 1 + 1 + 1, 0, none⟩) 1 1] 28) = W6 := ⟨_, rfl⟩
  have hz6 : W6.heap.size = w.heap.size + 1 + 1 + 1 + 1 + 1 + 1 := by rw [← hW6]; simp [hz3]
  simp only [World.size_alloc, hz3] at h1 h2 h3
  have hb0 : Below W3.heap.size W3 W6 := by rw [← hW6]; (repeat' (first | (with_reducible exact Below.refl _ _) | (with_reducible assumption) | (with_reducible refine Below.new ?_ _) | (with_reducible refine Below.alloc ?_ ?_ _) | (with_reducible refine Below.drew ?_) | (with_reducible refine Below.drewN ?_ _) | (with_reducible refine Below.setCell ?_ ?_ _) | (refine Below.step ?_ (by assumption)) | go_size))
  have hbw : Below w.heap.size w W6 := by rw [← hW6, ← hW3]; (repeat' (first | (with_reducible exact Below.refl _ _) | (with_reducible assumption) | (with_reducible refine Below.new ?_ _) | (with_reducible refine Below.alloc ?_ ?_ _) | (with_reducible refine Below.drew ?_) | (with_reducible refine Below.drewN ?_ _) | (with_reducible refine Below.setCell ?_ ?_ _) | (refine Below.step ?_ (by assumption)) | go_size))
  have b0 : Below (w.alloc (.cells #[.string bA, .string bB] 9)).heap.size (w.alloc (.cells #[.string bA, .string bB] 9)) W6 := by rw [← hW6, ← hW3]; (repeat' (first | (with_reducible exact Below.refl _ _) | (with_reducible assumption) | (with_reducible refine Below.new ?_ _) | (with_reducible refine Below.alloc ?_ ?_ _) | (with_reducible refine Below.drew ?_) | (with_reducible refine Below.drewN ?_ _) | (with_reducible refine Below.setCell ?_ ?_ _) | (refine Below.step ?_ (by assumption)) | go_size))
  have b1 : Below ((w.alloc (.cells #[.string bA, .string bB] 9)).alloc (.cells #[.string bN] 9)).heap.size ((w.alloc (.cells #[.string bA, .string bB] 9)).alloc (.cells #[.string bN] 9)) W6 := by rw [← hW6, ← hW3]; (repeat' (first | (with_reducible exact Below.refl _ _) | (with_reducible assumption) | (with_reducible refine Below.new ?_ _) | (with_reducible refine Below.alloc ?_ ?_ _) | (with_reducible refine Below.drew ?_) | (with_reducible refine Below.drewN ?_ _) | (with_reducible refine Below.setCell ?_ ?_ _) | (refine Below.step ?_ (by assumption)) | go_size))
  have b2 : Below (W3.alloc (.cells #[.string bAB, .bool false, .string { data := #[] }, .bool true] 41)).heap.size (W3.alloc (.cells #[.string bAB, .bool false, .string { data := #[] }, .bool true] 41)) W6 := by rw [← hW6]; (repeat' (first | (with_reducible exact Below.refl _ _) | (with_reducible assumption) | (with_reducible refine Below.new ?_ _) | (with_reducible refine Below.alloc ?_ ?_ _) | (with_reducible refine Below.drew ?_) | (with_reducible refine Below.drewN ?_ _) | (with_reducible refine Below.setCell ?_ ?_ _) | (refine Below.step ?_ (by assumption)) | go_size))
  have b3 : Below ((W3.alloc (.cells #[.string bAB, .bool false, .string { data := #[] }, .bool true] 41)).alloc (.cells #[.int .i64 (-2)] 2)).heap.size ((W3.alloc (.cells #[.string bAB, .bool false, .string { data := #[] }, .bool true] 41)).alloc (.cells #[.int .i64 (-2)] 2)) W6 := by rw [← hW6]; (repeat' (first | (with_reducible exact Below.refl _ _) | (with_reducible assumption) | (with_reducible refine Below.new ?_ _) | (with_reducible refine Below.alloc ?_ ?_ _) | (with_reducible refine Below.drew ?_) | (with_reducible refine Below.drewN ?_ _) | (with_reducible refine Below.setCell ?_ ?_ _) | (refine Below.step ?_ (by assumption)) | go_size))
  have G0 := hid (h0.below b0); have G1 := hid (h1.below b1); have G2 := hid (h2.below b2); have G3 := hid (h3.below b3)
  have e0 : W6.cell? ⟨w.heap.size + 1 + 1, 0, none⟩ = some (.slice (some ⟨w.heap.size, 0, none⟩) 2 2) := by clear hz6 hb0 hbw b0 b1 b2 b3 G0 G1 G2 G3 h0 h1 h2 h3; subst hW6; clear hz3; subst hW3; go_simp
  have e1 : W6.cell? ⟨w.heap.size + 1 + 1, 1, none⟩ = some (.slice (some ⟨w.heap.size + 1, 0, none⟩) 1 1) := by clear hz6 hb0 hbw b0 b1 b2 b3 G0 G1 G2 G3 h0 h1 h2 h3; subst hW6; clear hz3; subst hW3; go_simp
  have e2 : W6.cell? ⟨w.heap.size + 1 + 1, 2, none⟩ = some (.int .i64 1) := by clear hz6 hb0 hbw b0 b1 b2 b3 G0 G1 G2 G3 h0 h1 h2 h3; subst hW6; clear hz3; subst hW3; go_simp
  have e3 : W6.cell? ⟨w.heap.size + 1 + 1 + 1 + 1 + 1, 0, none⟩ = some (.int .i64 300) := by clear hz6 hb0 hbw b0 b1 b2 b3 G0 G1 G2 G3 h0 h1 h2 h3; subst hW6; clear hz3; subst hW3; go_simp
  have e4 : W6.cell? ⟨w.heap.size + 1 + 1 + 1 + 1 + 1, 1, none⟩ = some (.slice (some ⟨w.heap.size + 1 + 1 + 1, 0, none⟩) 2 2) := by clear hz6 hb0 hbw b0 b1 b2 b3 G0 G1 G2 G3 h0 h1 h2 h3; subst hW6; clear hz3; subst hW3; go_simp
  have e5 : W6.cell? ⟨w.heap.size + 1 + 1 + 1 + 1 + 1, 2, none⟩ = some (.slice (some ⟨w.heap.size + 1 + 1 + 1 + 1, 0, none⟩) 1 1) := by clear hz6 hb0 hbw b0 b1 b2 b3 G0 G1 G2 G3 h0 h1 h2 h3; subst hW6; clear hz3; subst hW3; go_simp
  clear h0 h1 h2 h3 b0 b1 b2 b3 hb0
  rw [← hW3] at hW6
  have HW6 := hid hW6; have HZ6 := hid hz6
  clear hW3 hz3 hW6 hz6
  go_enter Tryd.func5, Tryd.ntmps5
  go_wp2_with fail
  rw [HW6.out]
  refine (HE.out W6 _ _ _ _ G0.out G1.out G2.out G3.out).mono ?_
  rintro e w7 ⟨rfl, hb7⟩
  have f0 := cell_step e0 hb7; have f1 := cell_step e1 hb7; have f2 := cell_step e2 hb7; have f3 := cell_step e3 hb7; have f4 := cell_step e4 hb7; have f5 := cell_step e5 hb7
  have hz7 := hb7.size
  rw [HZ6.out] at hz7
  have B7 := hid (hbw.trans (hb7.mono (by rw [HZ6.out]; omega)))
  have K0 := hid (G0.out.below hb7); have K1 := hid (G1.out.below hb7); have K2 := hid (G2.out.below hb7); have K3 := hid (G3.out.below hb7)
  clear e0 e1 e2 e3 e4 e5 hb7 hbw
  go_wp2_with fail
  refine (HB.out w7 _ _ _ _ K0.out K1.out (SlAt.nil _ _) (SlAt.nil _ _)).mono ?_
  rintro e w8 ⟨rfl, hb8⟩
  have g0 := cell_step f0 hb8; have g1 := cell_step f1 hb8; have g2 := cell_step f2 hb8; have g3 := cell_step f3 hb8; have g4 := cell_step f4 hb8; have g5 := cell_step f5 hb8
  clear f0 f1 f2 f3 f4 f5
  have hz8 := hb8.size
  have B8 := hid (B7.out.trans (hb8.mono (by omega)))
  have L0 := hid (K0.out.below hb8); have L1 := hid (K1.out.below hb8); have L2 := hid (K2.out.below hb8); have L3 := hid (K3.out.below hb8)
  clear hb8
  go_wp2_with fail
  refine (HR.out w8 _ _ L0.out L1.out).mono ?_
  rintro e w9 ⟨rfl, hb9⟩
  have k0 := cell_step g0 hb9; have k1 := cell_step g1 hb9; have k2 := cell_step g2 hb9; have k3 := cell_step g3 hb9; have k4 := cell_step g4 hb9; have k5 := cell_step g5 hb9
  clear g0 g1 g2 g3 g4 g5
  have hz9 := hb9.size
  have B9 := hid (B8.out.trans (hb9.mono (by omega)))
  have M0 := hid (L0.out.below hb9); have M1 := hid (L1.out.below hb9); have M2 := hid (L2.out.below hb9); have M3 := hid (L3.out.below hb9)
  clear hb9
  go_wp2_with fail
  refine (HF.out w9 _ _ _ _ M0.out M1.out M2.out M3.out).mono ?_
  rintro e w10 ⟨rfl, hb10⟩
  have B10 := hid (B9.out.trans (hb10.mono (by omega)))
  go_wp2
  go_ret
  exact ⟨rfl, B10.out⟩
end Go.Proofs.YtdgeinipdphoeaaDoor
/- Reading a number of a row's bytes. -/
namespace Go.Proofs.YtdgeinipdphoeaaDoor
set_option linter.unusedVariables false
set_option linter.unusedSimpArgs false
set_option maxRecDepth 100000
open Go.ChangeShapes Go.WideShapes Go.ChangeAt Go.RowKit

/-- What is wrong with a number at the head of bytes (0: nothing), the number, and how many bytes it takes. -/
def numV (most : Nat) (l : List UInt8) : Nat × Nat × Nat :=
  if (nextV l).1 ≠ 0 then ((nextV l).1, 0, 0) else if most < (nextV l).2.1 then (101, 0, 0) else (0, (nextV l).2.1, (nextV l).2.2)
/-- The error. -/
def wrongE (c : Nat) : Value := if c = 0 then .nilIface else wrongV (c : Int)

set_option maxHeartbeats 1000000 in
theorem number_is (am an : Addr) (s : ByteArray) (hs : s.size ≤ 9223372036854775807) (most : Nat) (hm : most < 18446744073709551616) {C N K : Nat} (hv : numV most (bytesOf s) = (C, N, K)) (b : Nat) (w : World)
    (hb : w.heap[b]? = some (.cells #[.string s] 60 (0, 0))) (hsent : Sent am an w) :
    Calls Tryd.prog 40 #[.pointer (some ⟨b, 0, none⟩), .int .u64 (most : Int)] w fun e w' => e = .returned (.tuple #[.int .u64 (N : Int), wrongE C]) ∧ w'.heap[b]? = some (.cells #[.string (s.extract K s.size)] 60 (0, 0)) ∧ OnlyAt b w w' := by
  obtain ⟨c, n, k, hx⟩ : ∃ c n k, nextV (bytesOf s) = (c, n, k) := ⟨_, _, _, rfl⟩
  have hc := code_or hx
  unfold numV at hv
  rw [hx] at hv
  have HG := hid (get_is am an s hs hx w hsent)
  have HB := hid hb
  have c0 := cell_of_one hb
  clear hb hsent hx hs
  by_cases h0 : c = 0
  · subst h0
    by_cases h1 : most < n
    · simp [h1] at hv
      obtain ⟨rfl, rfl, rfl⟩ := hv
      go_enter Tryd.func40, Tryd.ntmps40
      go_wp2_with (go_at_call 50; ((with_reducible refine (HG.out).mono ?_); rintro e w1 ⟨rfl, hb1⟩; have c1 := cell_step c0 hb1))
      go_ret2
      exact ⟨rfl, by rw [extract_whole]; exact blk_below HB.out hb1, (OnlyAt.refl b w).step hb1⟩
    · simp [h1] at hv
      obtain ⟨rfl, rfl, rfl⟩ := hv
      go_enter Tryd.func40, Tryd.ntmps40
      go_wp2_with (go_at_call 50; ((with_reducible refine (HG.out).mono ?_); rintro e w1 ⟨rfl, hb1⟩; have c1 := cell_step c0 hb1; have hbb := hid (blk_below HB.out hb1); have f1 := free_of_one hbb.out))
      go_ret2
      refine ⟨rfl, ?_, ((OnlyAt.refl b w).step hb1).setCell _⟩
      rw [heap_set_same hbb.out]
  · have hc2 : c = 20 ∨ c = 21 := by omega
    rw [if_pos h0] at hv
    have hne : ((c : Int) == 0) = false := by simp; omega
    obtain ⟨rfl, rfl, rfl⟩ : c = C ∧ 0 = N ∧ 0 = K := by simpa using hv
    go_enter Tryd.func40, Tryd.ntmps40
    go_wp2_with (go_at_call 50; ((with_reducible refine (HG.out).mono ?_); rintro e w1 ⟨rfl, hb1⟩; have c1 := cell_step c0 hb1))
    go_ret2
    exact ⟨by unfold wrongE; rw [if_neg h0]; rfl, by rw [extract_whole]; exact blk_below HB.out hb1, (OnlyAt.refl b w).step hb1⟩
end Go.Proofs.YtdgeinipdphoeaaDoor
/- Reading a value of a row's bytes. -/
namespace Go.Proofs.YtdgeinipdphoeaaDoor
set_option linter.unusedVariables false
set_option linter.unusedSimpArgs false
set_option maxRecDepth 100000
open Go.ChangeShapes Go.WideShapes Go.ChangeAt Go.RowKit

abbrev noV : ByteArray := { data := #[] }
/-- What is wrong with a value at the head of bytes (0: nothing), the value, and how many bytes have been taken. -/
def readV (s : ByteArray) : Nat × ValD × Nat :=
  if (numV 101 (bytesOf s)).1 ≠ 0 then ((numV 101 (bytesOf s)).1, ⟨noV, false⟩, (numV 101 (bytesOf s)).2.2)
  else if (numV 101 (bytesOf s)).2.1 = 0 then (0, ⟨noV, true⟩, (numV 101 (bytesOf s)).2.2)
  else if s.size - (numV 101 (bytesOf s)).2.2 < (numV 101 (bytesOf s)).2.1 - 1 then (21, ⟨noV, false⟩, (numV 101 (bytesOf s)).2.2)
  else (0, ⟨(s.extract (numV 101 (bytesOf s)).2.2 s.size).extract 0 ((numV 101 (bytesOf s)).2.1 - 1), false⟩, (numV 101 (bytesOf s)).2.2 + ((numV 101 (bytesOf s)).2.1 - 1))

theorem numV_code {most : Nat} {l : List UInt8} {C N K : Nat} (h : numV most l = (C, N, K)) : C = 0 ∨ C = 20 ∨ C = 21 ∨ C = 101 := by
  obtain ⟨c, n, k, hx⟩ : ∃ c n k, nextV l = (c, n, k) := ⟨_, _, _, rfl⟩
  have hc := code_or hx
  unfold numV at h
  rw [hx] at h
  split at h
  · cases h; rcases hc with h | h | h <;> simp_all
  · split at h <;> cases h <;> simp
theorem numV_le {most : Nat} {l : List UInt8} {C N K : Nat} (h : numV most l = (C, N, K)) : N ≤ most := by
  unfold numV at h
  split at h
  · cases h; omega
  · split at h <;> cases h <;> omega

theorem two_at {w : World} {b : Nat} {x y : Value} {t : TypeId} (h : w.heap[b]? = some (.cells #[x, y] t (0, 0))) : w.cell? ⟨b, 0, none⟩ = some x ∧ w.cell? ⟨b, 1, none⟩ = some y ∧ w.frozen? ⟨b, 0, none⟩ = false ∧ w.frozen? ⟨b, 1, none⟩ = false := by
  unfold World.cell? World.frozen?
  rw [h]
  simp
theorem OnlyAt.setNew {b c : Nat} {w w' : World} (h : OnlyAt b w w') (hc : w.heap.size ≤ c) {o : Nat} {s : Option Nat} (v : Value) : OnlyAt b w (w'.setCell ⟨c, o, s⟩ v) :=
  ⟨h.os, h.tape, h.output, by simpa using h.size, fun k hk hne => (heap_set_other (by omega)).trans (h.block k hk hne)⟩
theorem OnlyAt.of_alloc {b : Nat} {w w' : World} {o : Obj} (h : OnlyAt b (w.alloc o) w') : OnlyAt b w w' :=
  ⟨h.os, h.tape, h.output, by have := h.size; simp at this; omega, fun k hk hne => (h.block k (by simp; omega) hne).trans ((show Below w.heap.size w (w.alloc o) by (repeat' (first | (with_reducible exact Below.refl _ _) | (with_reducible assumption) | (with_reducible refine Below.new ?_ _) | (with_reducible refine Below.alloc ?_ ?_ _) | (with_reducible refine Below.drew ?_) | (with_reducible refine Below.drewN ?_ _) | (with_reducible refine Below.setCell ?_ ?_ _) | (refine Below.step ?_ (by assumption)) | go_size))).block k hk)⟩
theorem OnlyAt.allocd {b : Nat} {w w' : World} (h : OnlyAt b w w') (o : Obj) : OnlyAt b w (w'.alloc o) :=
  h.step (show Below w'.heap.size w' (w'.alloc o) by (repeat' (first | (with_reducible exact Below.refl _ _) | (with_reducible assumption) | (with_reducible refine Below.new ?_ _) | (with_reducible refine Below.alloc ?_ ?_ _) | (with_reducible refine Below.drew ?_) | (with_reducible refine Below.drewN ?_ _) | (with_reducible refine Below.setCell ?_ ?_ _) | (refine Below.step ?_ (by assumption)) | go_size)))
theorem sx_extract (s : ByteArray) (a : Nat) : bytesOf (s.extract a s.size) = (bytesOf s).drop a := by
  show (s.extract a s.size).data.toList = s.data.toList.drop a
  simp
  rw [List.take_of_length_le (by simp)]
theorem sx_inj {s t : ByteArray} (h : bytesOf s = bytesOf t) : s = t := by
  cases s; cases t
  simp [bytesOf] at h
  simp [h]
theorem sx_end (s : ByteArray) (a b : Nat) : (s.extract a s.size).extract b (s.extract a s.size).size = s.extract (a + b) s.size := by
  apply sx_inj
  rw [sx_extract, sx_extract, sx_extract, List.drop_drop]

theorem set_new {w : World} {b c : Nat} {o o' : Obj} (hb : w.heap[b]? = some o) (hc : w.heap[c]? = some o') (hne : b < c) :
    (∀ x y u T, ((w.alloc (.cells #[x, y] T)).setCell ⟨b, 0, none⟩ u).cell? ⟨w.heap.size, 0, none⟩ = some x) ∧ (∀ x y u T, ((w.alloc (.cells #[x, y] T)).setCell ⟨b, 0, none⟩ u).cell? ⟨w.heap.size, 1, none⟩ = some y)
    ∧ (∀ x y u T, ((w.alloc (.cells #[x, y] T)).setCell ⟨b, 0, none⟩ u).heap[w.heap.size]? = some (.cells #[x, y] T (0, 0))) ∧ b < w.heap.size := by
  have hl := blk_lt hb
  have h : ∀ x y u T, ((w.alloc (.cells #[x, y] T)).setCell ⟨b, 0, none⟩ u).heap[w.heap.size]? = some (.cells #[x, y] T (0, 0)) := fun x y u T => (heap_set_other (by omega)).trans (heap_at rfl)
  exact ⟨fun x y u T => (two_at (h x y u T)).1, fun x y u T => (two_at (h x y u T)).2.1, h, hl⟩
theorem set_old {w : World} {b c : Nat} {x y : Value} {T : TypeId} (hc : w.heap[c]? = some (.cells #[x, y] T (0, 0))) (hne : b ≠ c) :
    (∀ o u, ((w.setCell ⟨b, 0, none⟩ u).alloc o).cell? ⟨c, 0, none⟩ = some x) ∧ (∀ o u, ((w.setCell ⟨b, 0, none⟩ u).alloc o).frozen? ⟨c, 0, none⟩ = false)
    ∧ (∀ o u, ((w.setCell ⟨b, 0, none⟩ u).alloc o).cell? ⟨c, 1, none⟩ = some y) ∧ (∀ o u, ((w.setCell ⟨b, 0, none⟩ u).alloc o).frozen? ⟨c, 1, none⟩ = false) := by
  have h1 : ∀ u, (w.setCell ⟨b, 0, none⟩ u).heap[c]? = some (.cells #[x, y] T (0, 0)) := fun u => (heap_set_other (Ne.symm hne)).trans hc
  have h : ∀ o u, ((w.setCell ⟨b, 0, none⟩ u).alloc o).heap[c]? = some (.cells #[x, y] T (0, 0)) := fun o u => blk_below (h1 u) (by (repeat' (first | (with_reducible exact Below.refl _ _) | (with_reducible assumption) | (with_reducible refine Below.new ?_ _) | (with_reducible refine Below.alloc ?_ ?_ _) | (with_reducible refine Below.drew ?_) | (with_reducible refine Below.drewN ?_ _) | (with_reducible refine Below.setCell ?_ ?_ _) | (refine Below.step ?_ (by assumption)) | go_size)))
  exact ⟨fun o u => (two_at (h o u)).1, fun o u => (two_at (h o u)).2.2.1, fun o u => (two_at (h o u)).2.1, fun o u => (two_at (h o u)).2.2.2⟩
set_option maxHeartbeats 1000000 in
theorem value_is (am an : Addr) (s : ByteArray) (hs : s.size ≤ 9223372036854775807) {C K : Nat} {v : ValD} (hv : readV s = (C, v, K)) (b : Nat) (w : World)
    (hb : w.heap[b]? = some (.cells #[.string s] 60 (0, 0))) (hsent : Sent am an w) :
    Calls Tryd.prog 52 #[.pointer (some ⟨b, 0, none⟩)] w fun e w' => e = .returned (.tuple #[.agg #[.string v.s, .bool v.nl], wrongE C]) ∧ w'.heap[b]? = some (.cells #[.string (s.extract K s.size)] 60 (0, 0)) ∧ OnlyAt b w w' := by
  obtain ⟨c, n, k, hx⟩ : ∃ c n k, numV 101 (bytesOf s) = (c, n, k) := ⟨_, _, _, rfl⟩
  have hc := numV_code hx
  have hn := numV_le hx
  unfold readV at hv
  rw [hx] at hv
  have hlt : b < w.heap.size := blk_lt hb
  have HN : Hid (∀ W : World, W.heap[b]? = some (.cells #[.string s] 60 (0, 0)) → Sent am an W → Calls Tryd.prog 40 #[.pointer (some ⟨b, 0, none⟩), .int .u64 101] W fun e w' => e = .returned (.tuple #[.int .u64 (n : Int), wrongE c]) ∧ w'.heap[b]? = some (.cells #[.string (s.extract k s.size)] 60 (0, 0)) ∧ OnlyAt b W w') :=
    hid (fun W h1 h2 => number_is am an s hs 101 (by decide) hx b W h1 h2)
  have HB := hid hb
  have HS := hid hsent
  have HZ := hid hs
  clear hb hsent hx hs
  have hC : ∀ w1 : World, OnlyAt b (w.alloc (.cells #[.string { data := #[] }, .bool false] 41)) w1 → w1.heap[w.heap.size]? = some (.cells #[.string { data := #[] }, .bool false] 41 (0, 0)) := fun w1 h => by
    rw [h.block _ (by simp) (by omega)]; exact heap_at rfl
  by_cases h0 : c = 0
  · subst h0
    cases n with
    | zero =>
      simp at hv
      obtain ⟨rfl, rfl, rfl⟩ := hv
      rw [show wrongE 0 = .nilIface from rfl] at HN
      go_enter Tryd.func52, Tryd.ntmps52
      go_wp2_with (go_at_call 40; ((with_reducible refine (HN.out _ (blk_below HB.out (by (repeat' (first | (with_reducible exact Below.refl _ _) | (with_reducible assumption) | (with_reducible refine Below.new ?_ _) | (with_reducible refine Below.alloc ?_ ?_ _) | (with_reducible refine Below.drew ?_) | (with_reducible refine Below.drewN ?_ _) | (with_reducible refine Below.setCell ?_ ?_ _) | (refine Below.step ?_ (by assumption)) | go_size)))) (HS.out.below (by (repeat' (first | (with_reducible exact Below.refl _ _) | (with_reducible assumption) | (with_reducible refine Below.new ?_ _) | (with_reducible refine Below.alloc ?_ ?_ _) | (with_reducible refine Below.drew ?_) | (with_reducible refine Below.drewN ?_ _) | (with_reducible refine Below.setCell ?_ ?_ _) | (refine Below.step ?_ (by assumption)) | go_size))))).mono ?_); rintro e w1 ⟨rfl, hb1, ho1⟩; have hq := hid (hC _ ho1); have c1 := cell_of_one hb1; have f1 := free_of_one hb1; obtain ⟨d1, d2, d3, d4⟩ := two_at hq.out))
      ((show bodyPost _ _ _ _ _ _); refine bodyPost_ret (by simp only [results, Tryd.results52]; go_simp; try rfl) rfl ?_)
      exact ⟨rfl, (heap_set_other (by omega)).trans ((heap_set_other (by omega)).trans hb1), (ho1.of_alloc.setNew (Nat.le_refl _) _).setNew (Nat.le_refl _) _⟩
    | succ m =>
      rw [show wrongE 0 = .nilIface from rfl] at HN
      have hsz : (s.extract k s.size).size = s.size - k := by rw [ByteArray.size_extract]; omega
      by_cases h1 : s.size - k < m
      · simp [h1] at hv
        obtain ⟨rfl, rfl, rfl⟩ := hv
        go_enter Tryd.func52, Tryd.ntmps52
        go_wp2_with (go_at_call 40; ((with_reducible refine (HN.out _ (blk_below HB.out (by (repeat' (first | (with_reducible exact Below.refl _ _) | (with_reducible assumption) | (with_reducible refine Below.new ?_ _) | (with_reducible refine Below.alloc ?_ ?_ _) | (with_reducible refine Below.drew ?_) | (with_reducible refine Below.drewN ?_ _) | (with_reducible refine Below.setCell ?_ ?_ _) | (refine Below.step ?_ (by assumption)) | go_size)))) (HS.out.below (by (repeat' (first | (with_reducible exact Below.refl _ _) | (with_reducible assumption) | (with_reducible refine Below.new ?_ _) | (with_reducible refine Below.alloc ?_ ?_ _) | (with_reducible refine Below.drew ?_) | (with_reducible refine Below.drewN ?_ _) | (with_reducible refine Below.setCell ?_ ?_ _) | (refine Below.step ?_ (by assumption)) | go_size))))).mono ?_); rintro e w1 ⟨rfl, hb1, ho1⟩; have hq := hid (hC _ ho1); have c1 := cell_of_one hb1; have f1 := free_of_one hb1; obtain ⟨d1, d2, d3, d4⟩ := two_at hq.out))
        ((show bodyPost _ _ _ _ _ _); refine bodyPost_ret (by simp only [results, Tryd.results52]; go_simp; try rfl) rfl ?_)
        exact ⟨rfl, (heap_set_other (by omega)).trans ((heap_set_other (by omega)).trans hb1), (ho1.of_alloc.setNew (Nat.le_refl _) _).setNew (Nat.le_refl _) _⟩
      · simp [h1] at hv
        obtain ⟨rfl, rfl, rfl⟩ := hv
        have h2 : m ≤ s.size - k := by omega
        clear h1
        have hqb : s.size - k ≤ 9223372036854775807 := by have := HZ.out; omega
        generalize s.size - k = q at *
        go_enter Tryd.func52, Tryd.ntmps52
        go_wp2_with (go_at_call 40; ((with_reducible refine (HN.out _ (blk_below HB.out (by (repeat' (first | (with_reducible exact Below.refl _ _) | (with_reducible assumption) | (with_reducible refine Below.new ?_ _) | (with_reducible refine Below.alloc ?_ ?_ _) | (with_reducible refine Below.drew ?_) | (with_reducible refine Below.drewN ?_ _) | (with_reducible refine Below.setCell ?_ ?_ _) | (refine Below.step ?_ (by assumption)) | go_size)))) (HS.out.below (by (repeat' (first | (with_reducible exact Below.refl _ _) | (with_reducible assumption) | (with_reducible refine Below.new ?_ _) | (with_reducible refine Below.alloc ?_ ?_ _) | (with_reducible refine Below.drew ?_) | (with_reducible refine Below.drewN ?_ _) | (with_reducible refine Below.setCell ?_ ?_ _) | (refine Below.step ?_ (by assumption)) | go_size))))).mono ?_); rintro e w1 ⟨rfl, hb1, ho1⟩; have hq := hid (hC _ ho1); have c1 := cell_of_one hb1; have f1 := free_of_one hb1; obtain ⟨d1, d2, d3, d4⟩ := two_at hq.out; have c2 := fun o => cell_new c1 o; have f2 : ∀ o, (w1.alloc o).frozen? ⟨b, 0, none⟩ = false := fun o => (World.frozen?_alloc_old w1 o ⟨b, 0, none⟩ (Nat.ne_of_lt (blk_lt hb1))).trans f1; obtain ⟨e1, e2, e3, e4⟩ := set_new hb1 hq.out (by omega); obtain ⟨g1, g2, g3, g4⟩ := set_old hq.out (show b ≠ w.heap.size by omega)))
        ((show bodyPost _ _ _ _ _ _); refine bodyPost_ret (by simp only [results, Tryd.results52]; go_simp; try rfl) rfl ?_)
        refine ⟨rfl, (heap_set_other (by omega)).trans ((heap_set_other (by omega)).trans ((blk_below (heap_set_same hb1) (by (repeat' (first | (with_reducible exact Below.refl _ _) | (with_reducible assumption) | (with_reducible refine Below.new ?_ _) | (with_reducible refine Below.alloc ?_ ?_ _) | (with_reducible refine Below.drew ?_) | (with_reducible refine Below.drewN ?_ _) | (with_reducible refine Below.setCell ?_ ?_ _) | (refine Below.step ?_ (by assumption)) | go_size)))).trans (by rw [← hsz, sx_end]))), (((ho1.of_alloc.setCell _).allocd _).setNew (Nat.le_refl _) _).setNew (Nat.le_refl _) _⟩
  · rw [if_pos h0] at hv
    have hne : ((c : Int) == 0) = false := by simp; omega
    obtain ⟨rfl, rfl, rfl⟩ : c = C ∧ ⟨noV, false⟩ = v ∧ k = K := by simpa using hv
    rw [show wrongE c = wrongV c by unfold wrongE; rw [if_neg h0]] at HN ⊢
    go_enter Tryd.func52, Tryd.ntmps52
    go_wp2_with (go_at_call 40; ((with_reducible refine (HN.out _ (blk_below HB.out (by (repeat' (first | (with_reducible exact Below.refl _ _) | (with_reducible assumption) | (with_reducible refine Below.new ?_ _) | (with_reducible refine Below.alloc ?_ ?_ _) | (with_reducible refine Below.drew ?_) | (with_reducible refine Below.drewN ?_ _) | (with_reducible refine Below.setCell ?_ ?_ _) | (refine Below.step ?_ (by assumption)) | go_size)))) (HS.out.below (by (repeat' (first | (with_reducible exact Below.refl _ _) | (with_reducible assumption) | (with_reducible refine Below.new ?_ _) | (with_reducible refine Below.alloc ?_ ?_ _) | (with_reducible refine Below.drew ?_) | (with_reducible refine Below.drewN ?_ _) | (with_reducible refine Below.setCell ?_ ?_ _) | (refine Below.step ?_ (by assumption)) | go_size))))).mono ?_); rintro e w1 ⟨rfl, hb1, ho1⟩; have hq := hid (hC _ ho1); have c1 := cell_of_one hb1; have f1 := free_of_one hb1; obtain ⟨d1, d2, d3, d4⟩ := two_at hq.out))
    ((show bodyPost _ _ _ _ _ _); refine bodyPost_ret (by simp only [results, Tryd.results52]; go_simp; try rfl) rfl ?_)
    exact ⟨rfl, (heap_set_other (by omega)).trans ((heap_set_other (by omega)).trans hb1), (ho1.of_alloc.setNew (Nat.le_refl _) _).setNew (Nat.le_refl _) _⟩
end Go.Proofs.YtdgeinipdphoeaaDoor
/- A range over a function whose iterator turns blocks of its own between the rounds and tells what they hold ('SeqR'), and the caller's law. -/
namespace Go.Proofs.YtdgeinipdphoeaaDoor
set_option linter.unusedVariables false
set_option linter.unusedSimpArgs false
open Go.RowKit

/-- A run that has turned the blocks from lo on, below hi, alone, and has made new ones. -/
structure OnlyIn (lo hi : Nat) (w w' : World) : Prop where
  os : w'.os = w.os
  tape : w'.tape = w.tape
  output : w'.output = w.output
  size : w.heap.size ≤ w'.heap.size
  block : ∀ k, k < w.heap.size → (k < lo ∨ hi ≤ k) → w'.heap[k]? = w.heap[k]?
theorem OnlyIn.refl (lo hi : Nat) (w : World) : OnlyIn lo hi w w := ⟨rfl, rfl, rfl, Nat.le_refl _, fun _ _ _ => rfl⟩
theorem OnlyIn.trans {lo hi : Nat} {a b c : World} (h : OnlyIn lo hi a b) (k : OnlyIn lo hi b c) : OnlyIn lo hi a c :=
  ⟨k.os.trans h.os, k.tape.trans h.tape, k.output.trans h.output, Nat.le_trans h.size k.size, fun i hi' ho => (k.block i (Nat.lt_of_lt_of_le hi' h.size) ho).trans (h.block i hi' ho)⟩
theorem OnlyIn.drew {lo hi : Nat} {a b : World} (h : OnlyIn lo hi a b) : OnlyIn lo hi a b.drew := ⟨h.os, h.tape, h.output, h.size, h.block⟩
theorem OnlyIn.setCell {lo hi : Nat} {a b : World} (h : OnlyIn lo hi a b) {k o : Nat} {s : Option Nat} (hk : lo ≤ k ∧ k < hi) (v : Value) : OnlyIn lo hi a (b.setCell ⟨k, o, s⟩ v) :=
  ⟨h.os, h.tape, h.output, by simpa using h.size, fun i hi' ho => (heap_set_other (by omega)).trans (h.block i hi' ho)⟩

/-- It abides whatever is done to the blocks from lo on, below hi. -/
def OwnR (lo hi : Nat) (p : World → Prop) : Prop := ∀ W W', hi ≤ W.heap.size → p W → OnlyIn lo hi W W' → p W'

/-- As 'SeqI'; the iterator may turn its own blocks between the rounds; S k is what they are like in round k, S N at the end. -/
def SeqR (P : Program) (g : Nat) (lb : Array Value) (enc : Nat → Array Value) (S : Nat → World → Prop) (n₀ lo hi : Nat) (N : Nat) (w : World) : Prop :=
  ∀ (n l : Nat) (J Jx : Nat → World → Prop) (W : World), 1 ≤ n → Below w.heap.size w W → (∀ k, Abide W.heap.size (J k)) → (∀ k, Abide W.heap.size (Jx k)) → (∀ k, OwnR lo hi (J k)) →
    (∀ k, k < N → ∀ W1, J k W1 → S k W1 → YieldAt Fence.wide (n - 1) P l (enc k) W1 fun e W' =>
      (e = .returned (.bool true) ∧ J (k + 1) W' ∧ Prot n₀ lo hi W1 W') ∨ (e = .returned (.bool false) ∧ Jx k W')) →
    J 0 W →
    CallsIn Fence.wide n P g (#[.func (.yield l) #[] #[]] ++ lb) W fun e W' => (∃ v, e = .returned v) ∧ ((J N W' ∧ S N W') ∨ ∃ k, k < N ∧ Jx k W')

set_option maxHeartbeats 1000000 in
/-- 'for .. := range g { body }', g a value of an iterator that gives xs. -/
theorem wp_rangeR {P : Program} {g : Operand} {ps : Array Tmp} {assign body : Code} {Q : Exit → Act → World → Prop} {a : Act} {w : World}
    {gf : Nat} {lb : Array Value} (hg : a.eval g = .func (.func gf) #[] lb) (eg : ∀ args w, (callFunc gf args).run P w = .ok (.enter gf args) w)
    {enc : Nat → Array Value} {S : Nat → World → Prop} {n₀ lo hi : Nat} {N : Nat} (hseq : SeqR P gf lb enc S n₀ lo hi N w) (hS : ∀ k, Stab w.heap.size (S k)) (hn : n₀ ≤ w.heap.size ∧ hi ≤ w.heap.size) (hps : ∀ k, (enc k).size = ps.size)
    (I : Nat → World → Prop) (Ix : Code → Nat → World → Prop) (hI : ∀ k, Stab w.heap.size (I k)) (hIx : ∀ c k, Stab w.heap.size (Ix c k)) (hIw : ∀ k, OwnR lo hi (I k)) (h0 : I 0 w)
    (hround : ∀ (l k : Nat) (W : World), k < N → I k W → S k W → w.heap.size ≤ l → l < W.heap.size → w.heap.size ≤ W.heap.size →
      assign.wpIn (Fence.wide.inRound l) 8 P (Exit.then (fun a₁ W1 => Kept w.heap.size n₀ lo hi W W1 ∧ ∀ W2, Turn l W1 W2 → body.wpIn (Fence.wide.inRound l) 8 P (roundQ w.heap.size n₀ lo hi I Ix k W2) a₁ W2) (fun _ _ _ => False))
        { tmps := (ps.zip (enc k)).foldl (fun t (p, v) => t.setIfInBounds p v) a.tmps, defers := [] } W)
    (hdone : ∀ (D : Nat) (W : World), w.heap.size ≤ D → I N W → S N W → W.heap[D]? = some (.deferred (some [])) → Q .normal { a with defers := mark D :: a.defers } W)
    (hstop : ∀ (D : Nat) (c : Code) (k : Nat) (W : World), w.heap.size ≤ D → k < N → Ix c k W → W.heap[D]? = some (.deferred (some [])) → c.wp P Q { a with defers := mark D :: a.defers } W) :
    (Code.rangeFunc g ps assign body).wp P Q a w := by
  rw [← wpIn_wide (n := 10)]
  refine wpIn_rangeFunc ?_
  intro fn hfn
  obtain ⟨rec, hrec⟩ : ∃ rec : LoopState → Option Code → Loop, rec = fun st pe => { state := st, pending := pe, fn, tmps := a.tmps, params := ps, assign, body, defers := w.heap.size } := ⟨_, rfl⟩
  obtain ⟨W1, hW1⟩ : ∃ W1, (w.alloc (.deferred (some []))).alloc (.loop (rec .ready none)) = W1 := ⟨_, rfl⟩
  have hL1 : W1.heap[w.heap.size + 1]? = some (.loop (rec .ready none)) := by
    rw [← hW1]; have := World.alloc_heap_new (w.alloc (.deferred (some []))) (.loop (rec .ready none)); rwa [World.size_alloc] at this
  have hK1 : W1.heap[w.heap.size]? = some (.deferred (some [])) := by
    rw [← hW1]; exact (Below.heap_alloc _ _ _ (by simp)).trans (World.alloc_heap_new w _)
  have hI1 : I 0 W1 := by rw [← hW1]; exact (hI 0).alloc _ ((hI 0).alloc _ h0)
  have hb1 : Below w.heap.size w W1 := by rw [← hW1]; exact ((Below.refl _ w).alloc (Nat.le_refl _) _).alloc (by simp) _
  have hs1 : W1.heap.size = w.heap.size + 1 + 1 := by rw [← hW1]; simp
  refine ⟨w.heap.size + 1, [mark w.heap.size], W1, { target := .fn (.func gf) lb, args := #[.func (.yield (w.heap.size + 1)) #[] #[]] }, W1, gf,
    #[.func (.yield (w.heap.size + 1)) #[] #[]] ++ lb, W1, ?_, ?_, ?_, ?_, fun _ => by omega, ?_⟩
  · rw [← hW1, hrec]; exact run_enterLoop_outer _ _ _ _ _
  · simp only [resolve, hg]
    simp [go_sem]
  · intro f' hf'; trivial
  · simp [invoke, go_sem, eg]
  · have hnw : ∀ {A : World} {row : Option Nat}, (∀ r, row = some r → W1.heap.size ≤ r ∧ ∃ o : Obj, A.heap[r]? = some o ∧ o.isWalk = true) → (∀ r, row = some r → w.heap.size ≤ r ∧ ∃ o : Obj, A.heap[r]? = some o ∧ o.isCells = false) :=
      fun hr r e => by obtain ⟨hB, o, ho, hw⟩ := hr r e; exact ⟨by omega, o, ho, Obj.not_cells_of_walk hw⟩
    refine (hseq (10 - 1) (w.heap.size + 1)
      (fun k W => I k W ∧ W.heap[w.heap.size + 1]? = some (.loop (rec .ready none)) ∧ W.heap[w.heap.size]? = some (.deferred (some [])))
      (fun k W => ∃ c, Ix c k W ∧ W.heap[w.heap.size + 1]? = some (.loop (rec .done (some c))) ∧ W.heap[w.heap.size]? = some (.deferred (some [])))
      W1 (by omega) hb1
      (fun k A B row hs hg' hr => ⟨hI k A B row hs.1 hg' (hnw hr), (grownBy_keeps hg' (fun r e => (hr r e).2) hs.2.1 rfl).trans hs.2.1, (grownBy_keeps hg' (fun r e => (hr r e).2) hs.2.2 rfl).trans hs.2.2⟩)
      (fun k A B row hs hg' hr => by
        obtain ⟨c, hc, hl, hk⟩ := hs
        exact ⟨c, hIx c k A B row hc hg' (hnw hr), (grownBy_keeps hg' (fun r e => (hr r e).2) hl rfl).trans hl, (grownBy_keeps hg' (fun r e => (hr r e).2) hk rfl).trans hk⟩)
      (fun k A A' hA hs ho => ⟨hIw k A A' hA hs.1 ho, (ho.block _ ((Array.getElem?_eq_some_iff.1 hs.2.1).1) (.inr (by omega))).trans hs.2.1, (ho.block _ ((Array.getElem?_eq_some_iff.1 hs.2.2).1) (.inr (by omega))).trans hs.2.2⟩)
      ?_ ⟨hI1, hL1, hK1⟩).mono ?_
    · -- one round
      rintro k hlen W ⟨hi', hl, hk⟩ hSk
      have hlt : w.heap.size + 1 < W.heap.size := (Array.getElem?_eq_some_iff.1 hl).1
      have hy := run_yield (P := P) (args := enc k) hl (by rw [hrec]; exact hps _)
      rw [hrec] at hy
      refine ⟨fn, _, assign, body, hy, roundIn_of_wpIn hfn ?_⟩
      clear hy
      refine wpIn_mono (hround _ k W hlen hi' hSk (by omega) hlt (by omega)) ?_
      intro e a' Wa hpost
      cases e with
      | normal =>
        obtain ⟨hka, hbody⟩ := hpost
        have hla := hka.from_.same _ _ (by omega) hl rfl
        have hda := hka.from_.same _ _ (Nat.le_refl _) hk rfl
        have hlta : w.heap.size + 1 < Wa.heap.size := (Array.getElem?_eq_some_iff.1 hla).1
        refine ⟨_, run_beginRound hla (by rw [hrec]), ?_⟩
        have hl2 : (Wa.putObj (w.heap.size + 1) (.loop { rec .ready none with state := .busy })).heap[w.heap.size + 1]? = some (.loop { rec .ready none with state := .busy }) := World.putObj_heap_same hlta
        have hk2 : (Wa.putObj (w.heap.size + 1) (.loop { rec .ready none with state := .busy })).heap[w.heap.size]? = some (.deferred (some [])) := (World.putObj_heap_other (by omega)).trans hda
        have hw2 : Prot n₀ lo hi Wa (Wa.putObj (w.heap.size + 1) (.loop { rec .ready none with state := .busy })) := Prot.putObj _ _ _ (by omega)
        refine wpIn_mono (hbody _ (Turn.putObj hla rfl)) ?_
        have fin : ∀ (jump : Option Code) (W3 : World), KeepsFrom w.heap.size (Wa.putObj (w.heap.size + 1) (.loop { rec .ready none with state := .busy })) W3 →
            (Instr.endRound (w.heap.size + 1) jump).run P W3 = .ok (.bool jump.isNone) (W3.putObj (w.heap.size + 1) (.loop (rec (if jump.isNone then .ready else .done) jump))) ∧
            W3.heap[w.heap.size + 1]? = some (.loop { rec .ready none with state := .busy }) ∧
            (W3.putObj (w.heap.size + 1) (.loop (rec (if jump.isNone then .ready else .done) jump))).heap[w.heap.size + 1]? = some (.loop (rec (if jump.isNone then .ready else .done) jump)) ∧
            (W3.putObj (w.heap.size + 1) (.loop (rec (if jump.isNone then .ready else .done) jump))).heap[w.heap.size]? = some (.deferred (some [])) := fun jump W3 hk3 => by
          have hl3 := hk3.same _ _ (by omega) hl2 rfl
          have := run_endRound (P := P) jump hl3
          rw [hrec] at this ⊢
          exact ⟨this, by rw [hrec] at hl3; exact hl3, World.putObj_heap_same (Array.getElem?_eq_some_iff.1 hl3).1, (World.putObj_heap_other (by omega)).trans (hk3.same _ _ (Nat.le_refl _) hk2 rfl)⟩
        rintro e a3 W3 hp
        cases e with
        | normal =>
          obtain ⟨hk3, hi3⟩ := hp
          obtain ⟨hr, hl3, hl4, hk4⟩ := fin none W3 hk3.from_
          exact ⟨_, _, hr, .inl ⟨rfl, ⟨(hI _).putObj _ hi3 (by omega) hl3 rfl, hl4, hk4⟩, hka.prot.trans ((hw2.trans hk3.prot).trans (Prot.putObj _ _ _ (by omega)))⟩⟩
        | ret =>
          obtain ⟨hk3, hi3⟩ := hp
          obtain ⟨hr, hl3, hl4, hk4⟩ := fin (some .ret) W3 hk3.from_
          exact ⟨_, _, hr, .inr ⟨rfl, .ret, (hIx _ _).putObj _ hi3 (by omega) hl3 rfl, hl4, hk4⟩⟩
        | exit id =>
          obtain ⟨hk3, hi3⟩ := hp
          obtain ⟨hr, hl3, hl4, hk4⟩ := fin (some (.exit id)) W3 hk3.from_
          exact ⟨_, _, hr, .inr ⟨rfl, .exit id, (hIx _ _).putObj _ hi3 (by omega) hl3 rfl, hl4, hk4⟩⟩
        | goto t =>
          obtain ⟨hk3, hi3⟩ := hp
          obtain ⟨hr, hl3, hl4, hk4⟩ := fin (some (.goto t)) W3 hk3.from_
          exact ⟨_, _, hr, .inr ⟨rfl, .goto t, (hIx _ _).putObj _ hi3 (by omega) hl3 rfl, hl4, hk4⟩⟩
        | panic ch => exact hp.elim
        | outgrown => exact hp.elim
      | ret => exact hpost.elim
      | exit id => exact hpost.elim
      | goto t => exact hpost.elim
      | panic ch => exact hpost.elim
      | outgrown => exact hpost.elim
    · -- behind the iterator
      rintro e W2 ⟨⟨v, rfl⟩, (⟨⟨hi', hl, hk⟩, hSN⟩ | ⟨k, hkl, c, hi', hl, hk⟩)⟩
      · exact ⟨none, _, by have := run_endLoop (P := P) hl (by rw [hrec]; simp); rw [hrec] at this; exact this, hdone _ _ (Nat.le_refl _) ((hI _).putObj _ hi' (by omega) hl rfl) ((hS _).putObj _ hSN (by omega) hl rfl) ((World.putObj_heap_other (by omega)).trans hk)⟩
      · exact ⟨some c, _, by have := run_endLoop (P := P) hl (by rw [hrec]; simp); rw [hrec] at this; exact this, wpIn_wide.2 (hstop _ c k _ (Nat.le_refl _) hkl ((hIx c k).putObj _ hi' (by omega) hl rfl) ((World.putObj_heap_other (by omega)).trans hk))⟩

end Go.Proofs.YtdgeinipdphoeaaDoor
/- As SeqR, the blocks that the iterator turns [lo, hi) and those that a round keeps for it [plo, phi) being told apart. -/
namespace Go.Proofs.YtdgeinipdphoeaaDoor
set_option linter.unusedVariables false
set_option linter.unusedSimpArgs false
open Go.RowKit

/-- As 'SeqI'; the iterator may turn its own blocks between the rounds; S k is what they are like in round k, S N at the end. -/
def SeqR2 (P : Program) (g : Nat) (lb : Array Value) (enc : Nat → Array Value) (S : Nat → World → Prop) (n₀ lo hi plo phi : Nat) (N : Nat) (w : World) : Prop :=
  ∀ (n l : Nat) (J Jx : Nat → World → Prop) (W : World), 1 ≤ n → Below w.heap.size w W → (∀ k, Abide W.heap.size (J k)) → (∀ k, Abide W.heap.size (Jx k)) → (∀ k, OwnR lo hi (J k)) →
    (∀ k, k < N → ∀ W1, J k W1 → S k W1 → YieldAt Fence.wide (n - 1) P l (enc k) W1 fun e W' =>
      (e = .returned (.bool true) ∧ J (k + 1) W' ∧ Prot n₀ plo phi W1 W') ∨ (e = .returned (.bool false) ∧ Jx k W')) →
    J 0 W →
    CallsIn Fence.wide n P g (#[.func (.yield l) #[] #[]] ++ lb) W fun e W' => (∃ v, e = .returned v) ∧ ((J N W' ∧ S N W') ∨ ∃ k, k < N ∧ Jx k W')

set_option maxHeartbeats 1000000 in
/-- 'for .. := range g { body }', g a value of an iterator that gives xs. -/
theorem wp_rangeR2 {P : Program} {g : Operand} {ps : Array Tmp} {assign body : Code} {Q : Exit → Act → World → Prop} {a : Act} {w : World}
    {gf : Nat} {lb : Array Value} (hg : a.eval g = .func (.func gf) #[] lb) (eg : ∀ args w, (callFunc gf args).run P w = .ok (.enter gf args) w)
    {enc : Nat → Array Value} {S : Nat → World → Prop} {n₀ lo hi plo phi : Nat} {N : Nat} (hseq : SeqR2 P gf lb enc S n₀ lo hi plo phi N w) (hS : ∀ k, Stab w.heap.size (S k)) (hn : n₀ ≤ w.heap.size ∧ hi ≤ w.heap.size ∧ phi ≤ w.heap.size) (hps : ∀ k, (enc k).size = ps.size)
    (I : Nat → World → Prop) (Ix : Code → Nat → World → Prop) (hI : ∀ k, Stab w.heap.size (I k)) (hIx : ∀ c k, Stab w.heap.size (Ix c k)) (hIw : ∀ k, OwnR lo hi (I k)) (h0 : I 0 w)
    (hround : ∀ (l k : Nat) (W : World), k < N → I k W → S k W → w.heap.size ≤ l → l < W.heap.size → w.heap.size ≤ W.heap.size →
      assign.wpIn (Fence.wide.inRound l) 8 P (Exit.then (fun a₁ W1 => Kept w.heap.size n₀ plo phi W W1 ∧ ∀ W2, Turn l W1 W2 → body.wpIn (Fence.wide.inRound l) 8 P (roundQ w.heap.size n₀ plo phi I Ix k W2) a₁ W2) (fun _ _ _ => False))
        { tmps := (ps.zip (enc k)).foldl (fun t (p, v) => t.setIfInBounds p v) a.tmps, defers := [] } W)
    (hdone : ∀ (D : Nat) (W : World), w.heap.size ≤ D → I N W → S N W → W.heap[D]? = some (.deferred (some [])) → Q .normal { a with defers := mark D :: a.defers } W)
    (hstop : ∀ (D : Nat) (c : Code) (k : Nat) (W : World), w.heap.size ≤ D → k < N → Ix c k W → W.heap[D]? = some (.deferred (some [])) → c.wp P Q { a with defers := mark D :: a.defers } W) :
    (Code.rangeFunc g ps assign body).wp P Q a w := by
  rw [← wpIn_wide (n := 10)]
  refine wpIn_rangeFunc ?_
  intro fn hfn
  obtain ⟨rec, hrec⟩ : ∃ rec : LoopState → Option Code → Loop, rec = fun st pe => { state := st, pending := pe, fn, tmps := a.tmps, params := ps, assign, body, defers := w.heap.size } := ⟨_, rfl⟩
  obtain ⟨W1, hW1⟩ : ∃ W1, (w.alloc (.deferred (some []))).alloc (.loop (rec .ready none)) = W1 := ⟨_, rfl⟩
  have hL1 : W1.heap[w.heap.size + 1]? = some (.loop (rec .ready none)) := by
    rw [← hW1]; have := World.alloc_heap_new (w.alloc (.deferred (some []))) (.loop (rec .ready none)); rwa [World.size_alloc] at this
  have hK1 : W1.heap[w.heap.size]? = some (.deferred (some [])) := by
    rw [← hW1]; exact (Below.heap_alloc _ _ _ (by simp)).trans (World.alloc_heap_new w _)
  have hI1 : I 0 W1 := by rw [← hW1]; exact (hI 0).alloc _ ((hI 0).alloc _ h0)
  have hb1 : Below w.heap.size w W1 := by rw [← hW1]; exact ((Below.refl _ w).alloc (Nat.le_refl _) _).alloc (by simp) _
  have hs1 : W1.heap.size = w.heap.size + 1 + 1 := by rw [← hW1]; simp
  refine ⟨w.heap.size + 1, [mark w.heap.size], W1, { target := .fn (.func gf) lb, args := #[.func (.yield (w.heap.size + 1)) #[] #[]] }, W1, gf,
    #[.func (.yield (w.heap.size + 1)) #[] #[]] ++ lb, W1, ?_, ?_, ?_, ?_, fun _ => by omega, ?_⟩
  · rw [← hW1, hrec]; exact run_enterLoop_outer _ _ _ _ _
  · simp only [resolve, hg]
    simp [go_sem]
  · intro f' hf'; trivial
  · simp [invoke, go_sem, eg]
  · have hnw : ∀ {A : World} {row : Option Nat}, (∀ r, row = some r → W1.heap.size ≤ r ∧ ∃ o : Obj, A.heap[r]? = some o ∧ o.isWalk = true) → (∀ r, row = some r → w.heap.size ≤ r ∧ ∃ o : Obj, A.heap[r]? = some o ∧ o.isCells = false) :=
      fun hr r e => by obtain ⟨hB, o, ho, hw⟩ := hr r e; exact ⟨by omega, o, ho, Obj.not_cells_of_walk hw⟩
    refine (hseq (10 - 1) (w.heap.size + 1)
      (fun k W => I k W ∧ W.heap[w.heap.size + 1]? = some (.loop (rec .ready none)) ∧ W.heap[w.heap.size]? = some (.deferred (some [])))
      (fun k W => ∃ c, Ix c k W ∧ W.heap[w.heap.size + 1]? = some (.loop (rec .done (some c))) ∧ W.heap[w.heap.size]? = some (.deferred (some [])))
      W1 (by omega) hb1
      (fun k A B row hs hg' hr => ⟨hI k A B row hs.1 hg' (hnw hr), (grownBy_keeps hg' (fun r e => (hr r e).2) hs.2.1 rfl).trans hs.2.1, (grownBy_keeps hg' (fun r e => (hr r e).2) hs.2.2 rfl).trans hs.2.2⟩)
      (fun k A B row hs hg' hr => by
        obtain ⟨c, hc, hl, hk⟩ := hs
        exact ⟨c, hIx c k A B row hc hg' (hnw hr), (grownBy_keeps hg' (fun r e => (hr r e).2) hl rfl).trans hl, (grownBy_keeps hg' (fun r e => (hr r e).2) hk rfl).trans hk⟩)
      (fun k A A' hA hs ho => ⟨hIw k A A' hA hs.1 ho, (ho.block _ ((Array.getElem?_eq_some_iff.1 hs.2.1).1) (.inr (by omega))).trans hs.2.1, (ho.block _ ((Array.getElem?_eq_some_iff.1 hs.2.2).1) (.inr (by omega))).trans hs.2.2⟩)
      ?_ ⟨hI1, hL1, hK1⟩).mono ?_
    · -- one round
      rintro k hlen W ⟨hi', hl, hk⟩ hSk
      have hlt : w.heap.size + 1 < W.heap.size := (Array.getElem?_eq_some_iff.1 hl).1
      have hy := run_yield (P := P) (args := enc k) hl (by rw [hrec]; exact hps _)
      rw [hrec] at hy
      refine ⟨fn, _, assign, body, hy, roundIn_of_wpIn hfn ?_⟩
      clear hy
      refine wpIn_mono (hround _ k W hlen hi' hSk (by omega) hlt (by omega)) ?_
      intro e a' Wa hpost
      cases e with
      | normal =>
        obtain ⟨hka, hbody⟩ := hpost
        have hla := hka.from_.same _ _ (by omega) hl rfl
        have hda := hka.from_.same _ _ (Nat.le_refl _) hk rfl
        have hlta : w.heap.size + 1 < Wa.heap.size := (Array.getElem?_eq_some_iff.1 hla).1
        refine ⟨_, run_beginRound hla (by rw [hrec]), ?_⟩
        have hl2 : (Wa.putObj (w.heap.size + 1) (.loop { rec .ready none with state := .busy })).heap[w.heap.size + 1]? = some (.loop { rec .ready none with state := .busy }) := World.putObj_heap_same hlta
        have hk2 : (Wa.putObj (w.heap.size + 1) (.loop { rec .ready none with state := .busy })).heap[w.heap.size]? = some (.deferred (some [])) := (World.putObj_heap_other (by omega)).trans hda
        have hw2 : Prot n₀ plo phi Wa (Wa.putObj (w.heap.size + 1) (.loop { rec .ready none with state := .busy })) := Prot.putObj _ _ _ (by omega)
        refine wpIn_mono (hbody _ (Turn.putObj hla rfl)) ?_
        have fin : ∀ (jump : Option Code) (W3 : World), KeepsFrom w.heap.size (Wa.putObj (w.heap.size + 1) (.loop { rec .ready none with state := .busy })) W3 →
            (Instr.endRound (w.heap.size + 1) jump).run P W3 = .ok (.bool jump.isNone) (W3.putObj (w.heap.size + 1) (.loop (rec (if jump.isNone then .ready else .done) jump))) ∧
            W3.heap[w.heap.size + 1]? = some (.loop { rec .ready none with state := .busy }) ∧
            (W3.putObj (w.heap.size + 1) (.loop (rec (if jump.isNone then .ready else .done) jump))).heap[w.heap.size + 1]? = some (.loop (rec (if jump.isNone then .ready else .done) jump)) ∧
            (W3.putObj (w.heap.size + 1) (.loop (rec (if jump.isNone then .ready else .done) jump))).heap[w.heap.size]? = some (.deferred (some [])) := fun jump W3 hk3 => by
          have hl3 := hk3.same _ _ (by omega) hl2 rfl
          have := run_endRound (P := P) jump hl3
          rw [hrec] at this ⊢
          exact ⟨this, by rw [hrec] at hl3; exact hl3, World.putObj_heap_same (Array.getElem?_eq_some_iff.1 hl3).1, (World.putObj_heap_other (by omega)).trans (hk3.same _ _ (Nat.le_refl _) hk2 rfl)⟩
        rintro e a3 W3 hp
        cases e with
        | normal =>
          obtain ⟨hk3, hi3⟩ := hp
          obtain ⟨hr, hl3, hl4, hk4⟩ := fin none W3 hk3.from_
          exact ⟨_, _, hr, .inl ⟨rfl, ⟨(hI _).putObj _ hi3 (by omega) hl3 rfl, hl4, hk4⟩, hka.prot.trans ((hw2.trans hk3.prot).trans (Prot.putObj _ _ _ (by omega)))⟩⟩
        | ret =>
          obtain ⟨hk3, hi3⟩ := hp
          obtain ⟨hr, hl3, hl4, hk4⟩ := fin (some .ret) W3 hk3.from_
          exact ⟨_, _, hr, .inr ⟨rfl, .ret, (hIx _ _).putObj _ hi3 (by omega) hl3 rfl, hl4, hk4⟩⟩
        | exit id =>
          obtain ⟨hk3, hi3⟩ := hp
          obtain ⟨hr, hl3, hl4, hk4⟩ := fin (some (.exit id)) W3 hk3.from_
          exact ⟨_, _, hr, .inr ⟨rfl, .exit id, (hIx _ _).putObj _ hi3 (by omega) hl3 rfl, hl4, hk4⟩⟩
        | goto t =>
          obtain ⟨hk3, hi3⟩ := hp
          obtain ⟨hr, hl3, hl4, hk4⟩ := fin (some (.goto t)) W3 hk3.from_
          exact ⟨_, _, hr, .inr ⟨rfl, .goto t, (hIx _ _).putObj _ hi3 (by omega) hl3 rfl, hl4, hk4⟩⟩
        | panic ch => exact hp.elim
        | outgrown => exact hp.elim
      | ret => exact hpost.elim
      | exit id => exact hpost.elim
      | goto t => exact hpost.elim
      | panic ch => exact hpost.elim
      | outgrown => exact hpost.elim
    · -- behind the iterator
      rintro e W2 ⟨⟨v, rfl⟩, (⟨⟨hi', hl, hk⟩, hSN⟩ | ⟨k, hkl, c, hi', hl, hk⟩)⟩
      · exact ⟨none, _, by have := run_endLoop (P := P) hl (by rw [hrec]; simp); rw [hrec] at this; exact this, hdone _ _ (Nat.le_refl _) ((hI _).putObj _ hi' (by omega) hl rfl) ((hS _).putObj _ hSN (by omega) hl rfl) ((World.putObj_heap_other (by omega)).trans hk)⟩
      · exact ⟨some c, _, by have := run_endLoop (P := P) hl (by rw [hrec]; simp); rw [hrec] at this; exact this, wpIn_wide.2 (hstop _ c k _ (Nat.le_refl _) hkl ((hIx c k).putObj _ hi' (by omega) hl rfl) ((World.putObj_heap_other (by omega)).trans hk))⟩

end Go.Proofs.YtdgeinipdphoeaaDoor
/- The reader's iterator over values. -/
namespace Go.Proofs.YtdgeinipdphoeaaDoor
set_option linter.unusedVariables false
set_option linter.unusedSimpArgs false
open Go.ChangeShapes Go.WideShapes Go.ChangeAt Go.RowKit Go.Shelf
attribute [local go_sem] Oper.semAt_some

/-- What is left after so many values have been read (whatever was wrong with them). -/
def restV (s : ByteArray) : Nat → ByteArray
  | 0 => s
  | i + 1 => (restV s i).extract (readV (restV s i)).2.2 (restV s i).size
theorem restV_le (s : ByteArray) (i : Nat) : (restV s i).size ≤ s.size := by
  induction i with
  | zero => exact Nat.le_refl _
  | succ i ih => rw [restV, ByteArray.size_extract]; omega
/-- A reader in block R: the bytes that it has still to read. -/
def RdS (R : Nat) (s : ByteArray) (w : World) : Prop := w.heap[R]? = some (.cells #[.string s] 60 (0, 0))
abbrev valE1 (v : ValD) : Value := .agg #[.string v.s, .bool v.nl]

theorem svalues_any (R : Nat) (n : Int) (w : World) :
    Calls Tryd.prog 41 #[.pointer (some ⟨R, 0, none⟩), .int .i64 n] w fun e w' => e = .returned (.func (.func 51) #[] #[.pointer (some ⟨w.heap.size + 1, 0, none⟩), .pointer (some ⟨w.heap.size, 0, none⟩)]) ∧
      w' = (w.alloc (.cells #[.pointer (some ⟨R, 0, none⟩)] 56)).alloc (.cells #[.int .i64 n] 3) := by
  go_enter Tryd.func41, Tryd.ntmps41
  go_wp2
  go_ret
  exact ⟨rfl, rfl⟩
theorem onlyAt_in {b lo hi : Nat} {w w' : World} (h : OnlyAt b w w') (hb : lo ≤ b ∧ b < hi) : OnlyIn lo hi w w' := ⟨h.os, h.tape, h.output, h.size, fun k hk ho => h.block k hk (by omega)⟩
theorem callsIn_wd {n : Nat} {P : Program} {f : FuncId} {args : Array Value} {w : World} {R : Ending → World → Prop} (h : Calls P f args w R) : CallsIn Fence.wide n P f args w R := (callsIn_wide (n := n)).2 h
theorem yield_bb {e : Ending} {A B C : Prop} (h : (e = .returned (.bool true) ∧ A ∧ B) ∨ (e = .returned (.bool false) ∧ C)) : ∃ bb : Bool, e = .returned (.bool bb) ∧ ((bb = true ∧ A ∧ B) ∨ (bb = false ∧ C)) := by
  rcases h with ⟨h1, h2⟩ | ⟨h1, h2⟩
  · exact ⟨true, h1, .inl ⟨rfl, h2⟩⟩
  · exact ⟨false, h1, .inr ⟨rfl, h2⟩⟩

set_option maxHeartbeats 4000000 in
theorem svalues_seq (am an : Addr) (R rb nb N : Nat) (s : ByteArray) (hs : s.size ≤ 9223372036854775807) (n₀ plo phi : Nat) (w : World) (hR : R < n₀) (hrb : plo ≤ rb ∧ rb < phi) (hnb : plo ≤ nb ∧ nb < phi) (hne : rb ≠ R) (hw : phi ≤ w.heap.size)
    (hN : N ≤ 1000)
    (cr : w.heap[rb]? = some (.cells #[.pointer (some ⟨R, 0, none⟩)] 56 (0, 0))) (cn : w.heap[nb]? = some (.cells #[.int .i64 (N : Int)] 3 (0, 0)))
    (hrd : RdS R s w) (hsent : Sent am an w) (hsP : ∀ W W', Prot n₀ plo phi W W' → Sent am an W → Sent am an W') (hsO : ∀ W W', OnlyAt R W W' → Sent am an W → Sent am an W') :
    SeqR2 Tryd.prog 51 #[.pointer (some ⟨nb, 0, none⟩), .pointer (some ⟨rb, 0, none⟩)] (fun i : Nat => #[valE1 (readV (restV s i)).2.1, wrongE (readV (restV s i)).1]) (fun i W => RdS R (restV s (min (i + 1) N)) W) n₀ R (R + 1) plo phi N w := by
  intro m0 lp J Jx W hm0 hW hJ hJx hO hY h0
  obtain ⟨m1, rfl⟩ : ∃ m1, m0 = m1 + 1 := ⟨m0 - 1, by omega⟩
  have hzW := hW.size
  have dr := (hW.block rb (by omega)).trans cr
  have dn := cell_of_one ((hW.block nb (by omega)).trans cn)
  have hRw := blk_lt hrd
  have hrW : RdS R s W := (hW.block R (by omega)).trans hrd
  have hsW : Sent am an W := hsent.below hW
  have HP := hid hsP; have HQ := hid hsO
  clear cr cn hrd hsent hsP hsO
  refine callsIn_of_wp Tryd.func51 rfl trivial ?_ rfl
  simp only [Tryd.ntmps51, List.size_toArray, List.length_cons, List.length_nil, Nat.reduceAdd, Nat.reduceSub, Array.replicate_succ, Array.replicate_zero, List.push_toArray, List.append_toArray, List.nil_append, List.cons_append]
  gi_wp2
  gi_loopw [5] (fun iv wr => ∃ i : Nat, i ≤ N ∧ iv = .int .i64 i ∧ J i wr ∧ RdS R (restV s i) wr ∧ wr.heap[rb]? = some (.cells #[.pointer (some ⟨R, 0, none⟩)] 56 (0, 0)) ∧ Sent am an wr ∧ W.heap.size ≤ wr.heap.size) (fun iv _ => N - (intOf iv).toNat)
  case atStart => exact ⟨0, Nat.zero_le _, rfl, h0, hrW, dr, hsW, Nat.le_refl _⟩
  case round =>
    obtain ⟨i, hi1, rfl, hJi, hrd, hbr, hse, hzr⟩ := hrel
    by_cases hlt : i < N
    · have hcr := cell_of_one hbr
      have HY := hid (hY i hlt)
      obtain ⟨C, v, K, hx⟩ : ∃ C v K, readV (restV s i) = (C, v, K) := ⟨_, _, _, rfl⟩
      have HV := hid (value_is am an (restV s i) (Nat.le_trans (restV_le s i) hs) hx R wr hrd hse)
      have HE : Hid ((readV (restV s i)).2.1 = v ∧ (readV (restV s i)).1 = C ∧ restV s (min (i + 1) N) = (restV s i).extract K (restV s i).size) := by
        refine ⟨by rw [hx], by rw [hx], ?_⟩
        rw [Nat.min_eq_left (show i + 1 ≤ N from hlt), restV, hx]
      have HJ := hid hJi; have HO := hid (hO i); have HBR := hid hbr; have HSE := hid hse; have HLT := hid hlt
      have hRz := blk_lt hrd
      clear hY hJ hJx hJi hbr hse hrd hx
      gi_wp2_with (first
        | (refine ⟨trivial, (callsIn_wd HV.out).mono ?_⟩; rintro e w4 ⟨rfl, hd4, ho4⟩; have hz4 := ho4.size; obtain ⟨fn, tmps, assign, body, hy, hR4⟩ := HY.out w4 (HO.out wr w4 (by omega) HJ.out (onlyAt_in ho4 ⟨Nat.le_refl _, Nat.lt_succ_self _⟩)) (by rw [HE.out.2.2]; exact hd4); (try dsimp only at hy); rw [HE.out.1, HE.out.2.1] at hy; have HD4 := hid hd4; clear hd4)
        | (refine (hR4.mono (fun _ _ h => yield_bb h)).mono ?_; rintro e W5 ⟨bb, rfl, h5'⟩; have h5 := hid h5'; clear h5'))
      · rcases h5.out with ⟨rfl, hJ5, hP5⟩ | ⟨rfl, hJx5⟩
        · first | contradiction | (exfalso; simp_all)
        · refine bodyPost_ret (results_none rfl _ _ _) rfl ?_
          exact ⟨⟨_, rfl⟩, .inr ⟨i, HLT.out, hJx5⟩⟩
      · rcases h5.out with ⟨rfl, hJ5, hP5⟩ | ⟨rfl, hJx5⟩
        · have hrd5 : RdS R (restV s (i + 1)) W5 := by
            have := HE.out.2.2
            rw [Nat.min_eq_left (show i + 1 ≤ N from HLT.out)] at this
            rw [this]
            exact (hP5.low R hR).trans HD4.out
          have hlt2 := HLT.out
          exact ⟨⟨i + 1, HLT.out, by go_num, hJ5, hrd5, (hP5.mid rb hrb.1 hrb.2).trans ((ho4.block rb (blk_lt HBR.out) hne).trans HBR.out), HP.out _ _ hP5 (HQ.out _ _ ho4 HSE.out), by have := hP5.size; omega⟩, by simp [intOf]; omega⟩
        · first | contradiction | (exfalso; simp_all)
    · obtain rfl : i = N := by omega
      have hrN : RdS R (restV s (min (i + 1) i)) wr := by rw [Nat.min_eq_right (by omega)]; exact hrd
      clear hY hJ hJx
      gi_wp2
      go_end0
      exact ⟨⟨_, rfl⟩, .inl ⟨hJi, hrN⟩⟩
end Go.Proofs.YtdgeinipdphoeaaDoor
/- A row of bytes: the plain answer. -/
namespace Go.Proofs.YtdgeinipdphoeaaDoor
set_option linter.unusedVariables false
set_option linter.unusedSimpArgs false

/-- So many values: what is wrong (0: nothing), the values, what is left. -/
def valsF : Nat → ByteArray → Nat × List ValD × ByteArray
  | 0, s => (0, [], s)
  | n + 1, s => if (readV s).1 ≠ 0 then ((readV s).1, [], s)
    else ((valsF n (s.extract (readV s).2.2 s.size)).1, (readV s).2.1 :: (valsF n (s.extract (readV s).2.2 s.size)).2.1, (valsF n (s.extract (readV s).2.2 s.size)).2.2)
/-- So many numbers. -/
def numsF : Nat → ByteArray → Nat × List Int × ByteArray
  | 0, s => (0, [], s)
  | n + 1, s => if (numV 18446744073709551615 (bytesOf s)).1 ≠ 0 then ((numV 18446744073709551615 (bytesOf s)).1, [], s)
    else ((numsF n (s.extract (numV 18446744073709551615 (bytesOf s)).2.2 s.size)).1, backV ((numV 18446744073709551615 (bytesOf s)).2.1 : Int) :: (numsF n (s.extract (numV 18446744073709551615 (bytesOf s)).2.2 s.size)).2.1, (numsF n (s.extract (numV 18446744073709551615 (bytesOf s)).2.2 s.size)).2.2)
/-- A row: what is wrong, the time, the values, the numbers, what is left. -/
structure RowF where
  code : Nat
  time : Int
  dims : List ValD
  nums : List Int
  rest : ByteArray
def rowF (nd nm : Nat) (s : ByteArray) : RowF :=
  let t := numV 1000000000000 (bytesOf s)
  if t.1 ≠ 0 then ⟨t.1, 0, [], [], s⟩ else
  let d := valsF nd (s.extract t.2.2 s.size)
  if d.1 ≠ 0 then ⟨d.1, 0, [], [], s⟩ else
  let n := numsF nm d.2.2
  if n.1 ≠ 0 then ⟨n.1, 0, [], [], s⟩ else ⟨0, (t.2.1 : Int), d.2.1, n.2.1, n.2.2⟩

/-- The first i rounds of reading went well. -/
def okTill (s : ByteArray) (i : Nat) : Prop := ∀ j, j < i → (readV (restV s j)).1 = 0
theorem restV_shift (s : ByteArray) (i : Nat) : restV s (i + 1) = restV (s.extract (readV s).2.2 s.size) i := by
  induction i with
  | zero => rfl
  | succ i ih => rw [restV, ih]; rfl
theorem valsF_ok (n : Nat) (s : ByteArray) (h : okTill s n) : valsF n s = (0, (List.range n).map fun i => (readV (restV s i)).2.1, restV s n) := by
  induction n generalizing s with
  | zero => rfl
  | succ n ih =>
    have h0 : (readV s).1 = 0 := h 0 (by omega)
    have h1 : okTill (s.extract (readV s).2.2 s.size) n := fun j hj => by rw [← restV_shift]; exact h (j + 1) (by omega)
    rw [valsF, if_neg (by simp [h0]), ih _ h1, List.range_succ_eq_map, restV_shift]
    simp [restV_shift, Function.comp_def]
    rfl
theorem valsF_bad (n : Nat) (s : ByteArray) (i : Nat) (hi : i < n) (h : okTill s i) (hb : (readV (restV s i)).1 ≠ 0) : (valsF n s).1 = (readV (restV s i)).1 := by
  induction n generalizing s i with
  | zero => omega
  | succ n ih =>
    cases i with
    | zero => rw [valsF, if_pos (show (readV s).1 ≠ 0 from hb)]; rfl
    | succ i =>
      have h0 : (readV s).1 = 0 := h 0 (by omega)
      have h1 : okTill (s.extract (readV s).2.2 s.size) i := fun j hj => by rw [← restV_shift]; exact h (j + 1) (by omega)
      rw [valsF, if_neg (by simp [h0]), restV_shift]
      exact ih _ i (by omega) h1 (by rw [← restV_shift]; exact hb)
end Go.Proofs.YtdgeinipdphoeaaDoor
/- Reading a row: the time is wrong. -/
namespace Go.Proofs.YtdgeinipdphoeaaDoor
set_option linter.unusedVariables false
set_option linter.unusedSimpArgs false
set_option maxRecDepth 100000
open Go.ChangeShapes Go.WideShapes Go.ChangeAt Go.RowKit

abbrev row0 : Value := .agg #[.int .i64 0, .slice none 0 0, .slice none 0 0]

set_option maxHeartbeats 1000000 in
theorem row_time (am an : Addr) (s : ByteArray) (hs : s.size ≤ 9223372036854775807) (R : Nat) (ad an' : Option Addr) (nd cd nm cm : Nat) (g : Int) (w : World) (hR : w.heap[R]? = some (.cells #[.string s] 60 (0, 0))) (hsent : Sent am an w)
    {C N K : Nat} (hx : numV 1000000000000 (bytesOf s) = (C, N, K)) (hC : C ≠ 0) :
    Calls Tryd.prog 24 #[.pointer (some ⟨R, 0, none⟩), .agg #[.slice ad nd cd, .slice an' nm cm, .int .i64 g]] w fun e w' => e = .returned (.tuple #[row0, wrongV (C : Int)]) ∧ OnlyAt R w w' := by
  have hlt : R < w.heap.size := blk_lt hR
  have HN : Hid (∀ W : World, W.heap[R]? = some (.cells #[.string s] 60 (0, 0)) → Sent am an W → Calls Tryd.prog 40 #[.pointer (some ⟨R, 0, none⟩), .int .u64 1000000000000] W fun e w' => e = .returned (.tuple #[.int .u64 (N : Int), wrongE C]) ∧ w'.heap[R]? = some (.cells #[.string (s.extract K s.size)] 60 (0, 0)) ∧ OnlyAt R W w') :=
    hid (fun W h1 h2 => number_is am an s hs 1000000000000 (by decide) hx R W h1 h2)
  rw [show wrongE C = wrongV C by unfold wrongE; rw [if_neg hC]] at HN
  have HB := hid hR
  have HS := hid hsent
  clear hR hsent hx hs
  go_enter Tryd.func24, Tryd.ntmps24
  go_wp2_with (go_at_call 40; ((with_reducible refine (HN.out _ (blk_below HB.out (by (repeat' (first | (with_reducible exact Below.refl _ _) | (with_reducible assumption) | (with_reducible refine Below.new ?_ _) | (with_reducible refine Below.alloc ?_ ?_ _) | (with_reducible refine Below.drew ?_) | (with_reducible refine Below.drewN ?_ _) | (with_reducible refine Below.setCell ?_ ?_ _) | (refine Below.step ?_ (by assumption)) | go_size)))) (HS.out.below (by (repeat' (first | (with_reducible exact Below.refl _ _) | (with_reducible assumption) | (with_reducible refine Below.new ?_ _) | (with_reducible refine Below.alloc ?_ ?_ _) | (with_reducible refine Below.drew ?_) | (with_reducible refine Below.drewN ?_ _) | (with_reducible refine Below.setCell ?_ ?_ _) | (refine Below.step ?_ (by assumption)) | go_size))))).mono ?_); rintro e w1 ⟨rfl, hb1, ho1⟩; have q1 := (ho1.block (w.heap.size + 1) (by simp) (by omega)).trans (show _ = some (Obj.cells #[.int .i64 0, .slice none 0 0, .slice none 0 0] 28 (0, 0)) by (simp (disch := first | omega | (simp only [World.size_alloc, World.size_setCell, World.size_drew]; done) | (simp only [World.size_alloc, World.size_setCell, World.size_drew]; omega)) only [heap_at, heap_past, heap_set_other, heap_set_same])); have q2 := (ho1.block (w.heap.size + 1 + 1) (by simp) (by omega)).trans (show _ = some (Obj.cells #[.nilIface] 49 (0, 0)) by (simp (disch := first | omega | (simp only [World.size_alloc, World.size_setCell, World.size_drew]; done) | (simp only [World.size_alloc, World.size_setCell, World.size_drew]; omega)) only [heap_at, heap_past, heap_set_other, heap_set_same])); obtain ⟨d0, d1, d2, d3, d4, d5⟩ := three_at q1; have d6 := cell_of_one q2; have d7 := free_of_one q2))
  ((show bodyPost _ _ _ _ _ _); refine bodyPost_ret (by simp only [results, Tryd.results24]; go_simp; try rfl) rfl ?_)
  exact ⟨rfl, ((((ho1.of_alloc.of_alloc.of_alloc).setNew (by omega) _).setNew (by omega) _).setNew (by omega) _).setNew (by omega) _⟩
end Go.Proofs.YtdgeinipdphoeaaDoor
