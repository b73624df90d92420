/- Packed lists: the reference's 'Pack'. -/
import Derived.Test.YtpgifmccajcgkaaDoorPkP
namespace Go.Proofs.YtpgifmccajcgkaaDoor
set_option linter.unusedVariables false
set_option linter.unusedSimpArgs false
open Go.ChangeShapes Go.WideShapes Go.ChangeAt Go.RowKit Go.Joins

def partV (A : List Nat) (i j : Nat) : Nat := valD (((A.take i).drop (8 * j)).take 8)
theorem partV_step {A : List Nat} (hA : isD A) {i : Nat} (hi : i < A.length) : partV A (i + 1) (i / 8) = 2 * partV A i (i / 8) + A[i]?.getD 0 ∧ partV A i (i / 8) ≤ 127 := by
  have h1 : 8 * (i / 8) ≤ i := Nat.mul_div_le i 8
  have hl : (A.take i).length = i := by rw [List.length_take]; omega
  have hP : ((A.take i).drop (8 * (i / 8))).take 8 = (A.take i).drop (8 * (i / 8)) := List.take_of_length_le (by rw [List.length_drop, hl]; omega)
  have hQ : ((A.take (i + 1)).drop (8 * (i / 8))).take 8 = (A.take i).drop (8 * (i / 8)) ++ [A[i]?.getD 0] := by
    rw [List.take_succ_eq_append_getElem hi, List.drop_append_of_le_length (by rw [hl]; exact h1), List.getElem?_eq_getElem hi]
    refine List.take_of_length_le ?_
    rw [List.length_append, List.length_drop, hl]
    simp only [List.length_cons, List.length_nil]
    omega
  have hD : isD ((A.take i).drop (8 * (i / 8))) := fun d hd => hA d (List.mem_of_mem_take (List.mem_of_mem_drop hd))
  constructor
  · unfold partV
    rw [hP, hQ, valD_append]
    simp [valD]
    omega
  · unfold partV
    rw [hP]
    have h2 := valD_lt hD
    rw [List.length_drop, hl] at h2
    have h3 : (2 : Nat) ^ (i - 8 * (i / 8)) ≤ 2 ^ 7 := Nat.pow_le_pow_right (by decide) (by omega)
    have h4 : (2 : Nat) ^ 7 = 128 := by decide
    omega
theorem partV_other {A : List Nat} {i j : Nat} (hj : j ≠ i / 8) : partV A (i + 1) j = partV A i j := by
  unfold partV
  rw [List.drop_take, List.drop_take, List.take_take, List.take_take]
  by_cases h : j < i / 8
  · rw [show min 8 (i + 1 - 8 * j) = 8 by omega, show min 8 (i - 8 * j) = 8 by omega]
  · rw [show min 8 (i + 1 - 8 * j) = 0 by omega, show min 8 (i - 8 * j) = 0 by omega]
theorem partV_zero (A : List Nat) (j : Nat) : partV A 0 j = 0 := by simp [partV, valD]
theorem bytesD_get : ∀ (j : Nat) (A : List Nat), isD A → 8 * (j + 1) ≤ A.length → ((bytesD A)[j]?.getD 0).toNat = valD ((A.drop (8 * j)).take 8)
  | 0, A, hA, hl => by
    rw [bytesD, dif_neg (by omega)]
    have h2 := valD_lt (l := A.take 8) (fun d hd => hA d (List.mem_of_mem_take hd))
    have h3 : (A.take 8).length = 8 := by rw [List.length_take]; omega
    rw [h3] at h2
    have h4 : (2 : Nat) ^ 8 = 256 := by decide
    simp
    omega
  | j + 1, A, hA, hl => by
    rw [bytesD, dif_neg (by omega), List.getElem?_cons_succ, bytesD_get j (A.drop 8) (fun d hd => hA d (List.mem_of_mem_drop hd)) (by rw [List.length_drop]; omega), List.drop_drop, show 8 + 8 * j = 8 * (j + 1) by omega]
theorem partV_end {A : List Nat} {j : Nat} : partV A A.length j = valD ((A.drop (8 * j)).take 8) := by unfold partV; rw [List.take_length]

/-- The bytes' block, of i digits. -/
def csA (A : List Nat) (Z i : Nat) : Array Value := Array.ofFn fun j : Fin Z => Value.int .u8 (partV A i j : Int)
theorem csA_get {A : List Nat} {Z i j : Nat} (h : j < Z) : (csA A Z i)[j]? = some (.int .u8 (partV A i j : Int)) := by
  unfold csA
  rw [Array.getElem?_eq_getElem (by simpa using h), Array.getElem_ofFn]
theorem csA_step {A : List Nat} {Z i : Nat} : (csA A Z i).setIfInBounds (i / 8) (.int .u8 (partV A (i + 1) (i / 8) : Int)) = csA A Z (i + 1) := by
  apply Array.ext_getElem?
  intro j
  rw [Array.getElem?_setIfInBounds]
  by_cases hj : j < Z
  · by_cases h : i / 8 = j
    · rw [if_pos h, if_pos (by simp [csA]; omega), csA_get hj, h]
    · rw [if_neg h, csA_get hj, csA_get hj, partV_other (fun e => h e.symm)]
  · have hn : ∀ m, (csA A Z m)[j]? = none := fun m => Array.getElem?_eq_none (by simp [csA]; omega)
    by_cases h : i / 8 = j
    · rw [if_pos h, if_neg (by simp [csA]; omega), hn]
    · rw [if_neg h, hn, hn]
theorem csA_made {A : List Nat} {Z : Nat} : madeCells #[.int .u8 0] Z = csA A Z 0 := by
  apply Array.ext
  · simp [csA, madeCells]
  · intro j h1 h2
    simp [csA, madeCells, partV_zero, Nat.mod_one]
def lenOfV : Value → Nat | .slice _ n _ => n | _ => 0
theorem zeros_more (D : List Nat) (z : Nat) : D ++ List.replicate (z + 1) 0 = D ++ List.replicate z 0 ++ [0] := by rw [List.append_assoc, ← List.replicate_succ']
theorem intsOf_app (a b : List Nat) : (intsOf (a ++ b)).map (Value.int .i64) = (intsOf a).map (Value.int .i64) ++ (intsOf b).map (Value.int .i64) := by simp [intsOf]
theorem ints_one (l : List Nat) : ∀ u ∈ (intsOf l).map (Value.int .i64), u.oneCell' = true := by
  intro u hu
  obtain ⟨x, _, rfl⟩ := List.mem_map.1 hu
  rfl

set_option maxRecDepth 100000 in
set_option maxHeartbeats 4000000 in
theorem refPack_ok (ao : Option Addr) (cap : Nat) (ys : List Int) (W : World) (hr : RowAt W ao ys) (hok : okW ys = true) :
    Calls Tryd.prog 33 #[.slice ao ys.length cap] W fun e w' => e = .returned (.tuple #[strV (packBy (natsOf ys)), .int .i64 0]) ∧ Below W.heap.size W w' := by
  obtain ⟨i0, hi, hiz0, hiz1, hiz2⟩ := info_parts info_int
  obtain ⟨j0, hj, hjz0, hjz1, hjz2⟩ := info_parts info_u8
  obtain ⟨hol, hom⟩ := okW_mem hok
  have hsm := natsOf_mem hom
  have hwl := widN_le hsm
  have HW := hid (fun w (h : Below W.heap.size W w) => refWidth_good ao cap ys w (hr.below h) hok)
  have HR := hid hr
  have HGET := hid (fun J (hJ : J < ys.length) => natsOf_get ys J hJ hom)
  obtain ⟨ns, hns⟩ : ∃ ns, natsOf ys = ns := ⟨_, rfl⟩
  have hnl : ns.length = ys.length := by rw [← hns]; simp [natsOf]
  rw [hns] at HW HGET hwl hsm ⊢
  obtain ⟨wd, hwd⟩ : ∃ wd, widN ns = wd := ⟨_, rfl⟩
  rw [hwd] at HW hwl
  obtain ⟨M, hM⟩ : ∃ M, ys.length = M := ⟨_, rfl⟩
  have HM := hid hM
  rw [hM] at HW HGET hol hnl ⊢
  have HSM := hid (fun k (hk : k < M) => (show ns[k]?.getD 0 ≤ 65535 by rw [List.getElem?_eq_getElem (by omega)]; exact hsm _ (List.getElem_mem _)))
  have HST := hid (fun k (hk : k < M) => (show flatD wd (ns.take (k + 1)) = flatD wd (ns.take k) ++ dig wd (ns[k]?.getD 0) by
    rw [List.take_succ_eq_append_getElem (by omega), flatD_snoc, List.getElem?_eq_getElem (by omega)]; rfl))
  have HNL := hid hnl; have HWD := hid hwd
  clear hr hok hom hsm hns hnl hwd hM
  go_enter Tryd.func33, Tryd.ntmps33
  go_wp2_with (go_at_call 35; ((with_reducible refine (HW.out _ (Below.refl _ _)).mono ?_); rintro e w1 ⟨rfl, hb1⟩))
  go_loopw [6, 7] (fun v i wr => ∃ k : Nat, k ≤ M ∧ i = .int .i64 k ∧ wr.ownsRow w1.heap.size 3 1 v (k * wd) ((intsOf (flatD wd (ns.take k))).map (Value.int .i64)) ∧ (v = .slice none 0 0 ↔ k * wd = 0) ∧ Below w1.heap.size w1 wr) (fun _ i _ => M - (intOf i).toNat)
  case atStart => exact ⟨0, Nat.zero_le _, rfl, by rw [Nat.zero_mul]; exact World.ownsRow_nil _ _ _ _, by simp, Below.refl _ _⟩
  case round =>
    obtain ⟨k, hk, rfl, hown, hnilA, hbel⟩ := hrel
    have hsz := hbel.size
    by_cases hlt : k < M
    · obtain ⟨b, o, rfl, hc⟩ := HR.out (by rw [HM.out]; omega)
      have e0 := cell_step (cell_step (hc k (by rw [HM.out]; omega)) hb1) hbel
      have hget := HGET.out k hlt
      have hxl := HSM.out k hlt
      have hst := HST.out k hlt
      obtain ⟨x, hx⟩ : ∃ x, ns[k]?.getD 0 = x := ⟨_, rfl⟩
      rw [hx] at hget hxl hst
      rw [hget] at e0
      have HD := hid (fun w => digits_any x wd hxl hwl w)
      have hkw : k * wd ≤ 16000 := mul_le_16 (by omega) hwl
      have hkw1 : (k + 1) * wd = k * wd + wd := by rw [Nat.add_mul, Nat.one_mul]
      have HST1 := hid hst
      clear hc hx hget hst
      by_cases hw0 : wd = 0
      · subst hw0
        have hvA := hnilA.2 (Nat.mul_zero _)
        subst hvA
        clear hnilA
        have HD := hid (fun w => HD.out w)
        simp only [Int.natCast_zero] at HD
        go_wp2_with ((go_at_call 56; ((with_reducible refine (HD.out _).mono ?_); rintro e w3 ⟨v3, rfl, hownD, hnilD, hb3⟩; have hv3 := hnilD.2 (by trivial); subst hv3; have hown3 := below_row hb3 hown; have hz3 := hb3.size))
)
        go_roundw
        case rel =>
          refine ⟨_, _, _, _, _, _, _, _, _, _, _, _, _, _, _, _, ?_, rfl⟩
          exact ⟨k + 1, by omega, by go_num, by rw [HST1.out]; simpa [dig] using hown3, by simp, hbel.step hb3⟩
        case measure => simp [intOf]; omega
      · have hpos : k * wd + wd ≠ 0 := by omega
        clear hnilA
        go_wp2_with (first
          | (go_at_call 56; ((with_reducible refine (HD.out _).mono ?_); rintro e w3 ⟨v3, rfl, hownD, hnilD, hb3⟩; obtain ⟨g3, c3, rfl, -, -⟩ := hownD.form (by omega); have hown3 := below_row hb3 hown; have hz3 := hb3.size; have hnews := hownD.cells (g := g3) rfl))
          | (at_builtin; go_loud (refine wpList_append_own _ rfl _ _ 42 rfl w1.heap.size 3 i0 (.int .i64 0) 1 8 Tryd.underlying42 hi hiz0 hiz1 hiz2 rfl (by decide) _ _ _ rfl hown3 ⟨g3, 0, none⟩ wd c3 ((intsOf (dig wd x)).map (Value.int .i64)) rfl (by simp [intsOf, dig_length]) hnews (ints_one _) (by unfold maxLen; omega) (by omega) (by omega) ?_); intro v' w1' hown' hgrow' hnil'))
        go_roundw
        case rel => exact ⟨k + 1, by omega, by go_num, by rw [HST1.out, hkw1, intsOf_app]; exact hown', ⟨fun h => absurd (hnil'.1 h).2 hw0, fun h => absurd (hkw1 ▸ h) hpos⟩, (hbel.step hb3).grown hgrow' (by omega) (fun r e => (hown3.lt r e).1)⟩
        case measure => simp [intOf]; omega
    · obtain rfl : k = M := by omega
      rw [show ns.take k = ns by rw [← HNL.out, List.take_length]] at hown
      obtain ⟨D, hD⟩ : ∃ D, flatD wd ns = D := ⟨_, rfl⟩
      have hDl : D.length = k * wd := by rw [← hD, flatD_length, HNL.out]
      have hDD : isD D := hD ▸ flatD_is _ _
      have hkw : k * wd ≤ 16000 := mul_le_16 (by omega) hwl
      rw [hD, ← hDl] at hown
      rw [← hDl] at hkw
      obtain ⟨M9, hM9⟩ : ∃ M9, k = M9 := ⟨_, rfl⟩
      rw [hM9] at HNL hol ⊢
      have HDD := hid hDD; have HDE := hid hD
      clear hD hDD hDl
      go_wp2
      go_loopw [6] (fun v wx => ∃ z : Nat, z ≤ padN D.length ∧ wx.ownsRow w1.heap.size 3 1 v (D.length + z) ((intsOf (D ++ List.replicate z 0)).map (Value.int .i64)) ∧ Below w1.heap.size w1 wx) (fun v wx => 8 - (lenOfV v - D.length))
      case atStart => exact ⟨0, Nat.zero_le _, by simpa using hown, hbel⟩
      case round =>
        clear hbel hown hsz
        obtain ⟨z, hz, hown, hbel⟩ := hrel
        have hsz := hbel.size
        obtain ⟨ao2, cap2, rfl⟩ := hown.shape
        obtain ⟨dl, hdl⟩ : ∃ dl, D.length = dl := ⟨_, rfl⟩
        rw [hdl] at hown hz hkw ⊢
        have HDL := hid hdl
        clear hdl
        have htm : ((dl + z : Nat) : Int).tmod 8 = (((dl + z) % 8 : Nat) : Int) := rfl
        have htm2 : ((dl + z : Nat) : Int) % 8 = (((dl + z) % 8 : Nat) : Int) := rfl
        have hz7 : z ≤ 7 := by unfold padN at hz; omega
        by_cases hm : (dl + z) % 8 = 0
        · obtain rfl : z = padN dl := by unfold padN at hz ⊢; omega
          rw [hm] at htm htm2
          obtain ⟨A, hA⟩ : ∃ A, padD D = A := ⟨_, rfl⟩
          have hAe : D ++ List.replicate (padN dl) 0 = A := by rw [← hA, ← HDL.out]; rfl
          have hAl : A.length = dl + padN dl := by rw [← hAe, List.length_append, List.length_replicate, HDL.out]
          have hAD : isD A := hA ▸ padD_is HDD.out
          rw [hAe] at hown
          obtain ⟨Z, hZ⟩ : ∃ Z, dl + padN dl = 8 * Z := ⟨(dl + padN dl) / 8, by omega⟩
          rw [hZ] at hown hAl htm htm2 ⊢
          have hZl : Z ≤ 2002 := by omega
          have hrow := row_get hAl.symm hown
          have hpk : bytesD A = packD wd ns := by rw [← hA, ← HDE.out]; rfl
          have hbl : (bytesD A).length = Z := by rw [bytesD_length, hAl]; omega
          obtain ⟨sb, hsb, hsbl⟩ := strV_is (bytesD A)
          rw [hbl] at hsbl
          have hdv : ((8 * Z : Nat) : Int).tdiv 8 = (Z : Int) := by
            have : (((8 * Z : Nat) : Int)).tdiv 8 = (((8 * Z) / 8 : Nat) : Int) := rfl
            rw [this]; omega
          have hdv2 : ((8 * Z : Nat) : Int) / 8 = (Z : Int) := by omega
          have hmk : ∀ X, (Instr.makeSlice 82 (.int .i64 (Z : Int)) (.int .i64 (Z : Int))).run Tryd.prog X = .ok (.slice (some ⟨X.heap.size, 0, none⟩) Z Z) (X.alloc (.cells (csA A Z 0) 5)) := fun X => by
            have := run_makeSlice (P := Tryd.prog) X 82 5 j0 (.int .u8 0) Tryd.underlying82 hj hjz0 .i64 .i64 (Z : Int) (Z : Int) (by omega) (Int.le_refl _) (by rw [hjz1]; simp; omega) (by rw [hjz2]; omega) (by omega)
            rw [this, hjz1]
            simp only [Int.toNat_natCast, Nat.mul_one, Value.cells]
            rw [csA_made]
          obtain ⟨L8, hL8⟩ : ∃ L8, 8 * Z = L8 := ⟨_, rfl⟩
          rw [hL8] at hown hdv hdv2 hAl htm htm2 ⊢
          have HHS := hid hrow; have HAL := hid hAl; have HAD := hid hAD; have HSB := hid hsb; have HPK := hid hpk; have HBL := hid hbl
          have HROW := hid hown
          clear hm hz hA hAe hrow hpk hbl hsb hown hAl hAD
          obtain ⟨X0, hX0⟩ : ∃ X0 : World, X0 = wr := ⟨_, rfl⟩
          rw [← hX0] at hbel hsz HHS HROW ⊢
          clear hX0
          go_wp2
          go_loopw [9] (fun i wx => ∃ k : Nat, k ≤ L8 ∧ i = .int .i64 k ∧ wx.heap[X0.heap.size]? = some (.cells (csA A Z k) 5 (0, 0)) ∧ Below X0.heap.size X0 wx) (fun i _ => L8 - (intOf i).toNat)
          case atStart => exact ⟨0, Nat.zero_le _, rfl, by (simp (disch := first | omega | (simp only [World.size_alloc, World.size_setCell, World.size_drew]; done) | (simp only [World.size_alloc, World.size_setCell, World.size_drew]; omega)) only [heap_at, heap_past, heap_set_other, heap_set_same]), by (repeat' (first | (with_reducible exact Below.refl _ _) | (with_reducible assumption) | (with_reducible refine Below.new ?_ _) | (with_reducible refine Below.alloc ?_ ?_ _) | (with_reducible refine Below.drew ?_) | (with_reducible refine Below.setCell ?_ ?_ _) | (refine Below.step ?_ (by assumption)) | go_size))⟩
          case round =>
            obtain ⟨k, hk2, rfl, hblk, hbx⟩ := hrel
            have hz9 := hbx.size
            by_cases hlt2 : k < L8
            · obtain ⟨jj, hjj⟩ : ∃ jj, k / 8 = jj := ⟨_, rfl⟩
              have hjZ : jj < Z := by omega
              obtain ⟨hst, hp7⟩ := partV_step HAD.out (i := k) (by rw [HAL.out]; exact hlt2)
              rw [hjj] at hst hp7
              have hset := csA_step (A := A) (Z := Z) (i := k)
              rw [hjj] at hset
              obtain ⟨ao3, cap3, hs1, -, -, -, hs2⟩ := HHS.out.below hbx
              rw [intsOf_length, HAL.out] at hs1 hs2
              simp only [Value.slice.injEq] at hs1
              obtain ⟨rfl, -, rfl⟩ := hs1
              obtain ⟨b3, o3, rfl, hcell⟩ := hs2 (by omega)
              have e2 := hcell k hlt2
              rw [intsOf_get A k (by rw [HAL.out]; exact hlt2)] at e2
              have hd1 : A[k]?.getD 0 < 2 := by
                rw [List.getElem?_eq_getElem (by rw [HAL.out]; exact hlt2)]
                exact HAD.out _ (List.getElem_mem _)
              have e1 : wr.cell? ⟨X0.heap.size, jj, none⟩ = some (.int .u8 (partV A k jj : Int)) := by rw [blk_cell hblk, csA_get hjZ]
              have f1 : wr.frozen? ⟨X0.heap.size, jj, none⟩ = false := blk_free hblk
              obtain ⟨d, hd⟩ : ∃ d, A[k]?.getD 0 = d := ⟨_, rfl⟩
              obtain ⟨p, hp⟩ : ∃ p, partV A k jj = p := ⟨_, rfl⟩
              rw [hd] at e2 hd1 hst
              rw [hp] at e1 hp7 hst
              have hw1 : IntKind.u8.wrap (2 * (p : Int)) = 2 * (p : Int) := by simp [IntKind.wrap, IntKind.bits, IntKind.signed]; omega
              have hw2 : IntKind.u8.wrap (d : Int) = (d : Int) := by simp [IntKind.wrap, IntKind.bits, IntKind.signed]; omega
              have hw3 : IntKind.u8.wrap (2 * (p : Int) + (d : Int)) = ((2 * p + d : Nat) : Int) := by simp [IntKind.wrap, IntKind.bits, IntKind.signed]; omega
              have hdv3 : (k : Int).tdiv 8 = (jj : Int) := by rw [← hjj]; rfl
              have hdv4 : (k : Int) / 8 = (jj : Int) := by rw [← hjj]; rfl
              have HST2 := hid hst; have HSET := hid hset; have HBK := hid hblk
              clear hst hset hcell hs2 hd hp hjj hblk
              go_wp2
              go_region
              go_wp2
              go_roundw
              case rel =>
                have hfin := blk_set (o := jj) (v := .int .u8 (partV A (k + 1) jj : Int)) HBK.out
                rw [HSET.out] at hfin
                refine ⟨k + 1, by omega, by go_num, ?_, (hbx.setCell (Nat.le_refl _) _).drew⟩
                rw [show (2 * (p : Int) + (d : Int)) = ((partV A (k + 1) jj : Nat) : Int) by rw [HST2.out]; omega]
                exact hfin
              case measure => simp [intOf]; omega
            · obtain rfl : k = L8 := by omega
              have hcv : ∀ X : World, (∀ j, X.cell? ⟨X0.heap.size, j, none⟩ = (csA A Z k)[j]?) → (convert 82 9 (.slice (some ⟨X0.heap.size, 0, none⟩) Z Z)).run Tryd.prog X = .ok (.string sb) X := fun X h => by
                rw [← HSB.out]
                refine conv_cells HBL.out (fun j hj => ?_)
                rw [h j, csA_get hj, bytesD_get j A HAD.out (by rw [HAL.out]; omega), ← partV_end, HAL.out]
              have hcells : ∀ j, wr.cell? ⟨X0.heap.size, j, none⟩ = (csA A Z k)[j]? := fun j => blk_cell hblk
              have hlt9 := blk_lt hblk
              have hall : ∀ (X : World) (o : Obj), X0.heap.size < X.heap.size → (∀ j, X.cell? ⟨X0.heap.size, j, none⟩ = (csA A Z k)[j]?) → ∀ j, (X.alloc o).cell? ⟨X0.heap.size, j, none⟩ = (csA A Z k)[j]? := fun X o h1 h2 j =>
                (((Below.refl X.heap.size X).alloc (Nat.le_refl _) o).cell (p := ⟨X0.heap.size, j, none⟩) h1).trans (h2 j)
              have q1 := hcv wr.drew hcells
              have q2 := fun o => hcv (wr.drew.alloc o) (hall wr.drew o hlt9 hcells)
              have q5 := fun o => hcv (wr.alloc o).drew (hall wr o hlt9 hcells)
              have hlt9b : ∀ o : Obj, X0.heap.size < (wr.alloc o).drew.heap.size := fun o => by rw [World.size_drew, World.size_alloc]; exact Nat.lt_succ_of_lt hlt9
              have hlt9a : ∀ o : Obj, X0.heap.size < (wr.drew.alloc o).heap.size := fun o => by rw [World.size_alloc]; exact Nat.lt_succ_of_lt hlt9
              have HCV := hid hcv; have HALL := hid hall; have HCE := hid hcells
              clear hcv hall hcells
              obtain ⟨sn, hsn, hsnl⟩ := strV_is (putB M9)
              obtain ⟨s1, hs1, hs1l⟩ := strV_is [UInt8.ofNat wd]
              have hp10 := putB_ten (n := M9) (by omega)
              have HP := hid (fun w => refPut_any M9 (by omega) w)
              rw [hsn] at HP
              have hc := fun (w : World) b (h0 : w.cell? ⟨b, 0, none⟩ = some (.int .u8 (wd : Int))) => (conv_one h0 (show wd < 256 by omega)).trans (by rw [hs1])
              have hwu : IntKind.u8.wrap (wd : Int) = (wd : Int) := by simp [IntKind.wrap, IntKind.bits, IntKind.signed]; omega
              have hwm : IntKind.u64.wrap (M9 : Int) = (M9 : Int) := by rw [IntKind.wrap_u64]; omega
              simp only [List.length_cons, List.length_nil] at hs1l
              have hans : Value.string (sn ++ s1 ++ sb) = strV (packBy ns) := by
                rw [strV_app _ _ _ _ (by rw [strV_app _ _ _ _ hsn hs1]) HSB.out, HPK.out]
                unfold packBy
                rw [HNL.out, HWD.out]
                simp
              have HANS := hid hans
              have hsz1 : sn.size ≤ 10 := by omega
              clear hsn hs1 hans hsnl hp10
              go_wp2
              go_region_with (go_at_call 21; go_loud ((with_reducible refine (HP.out _).mono ?_); rintro e w5 ⟨rfl, hb5⟩; have hcW := hid (fun j => (hb5.cell (p := ⟨X0.heap.size, j, none⟩) (by first | exact hlt9 | exact hlt9b _ | exact hlt9a _)).trans (by first | exact HCE.out j | exact HALL.out wr _ hlt9 HCE.out j | exact HALL.out wr.drew _ hlt9 HCE.out j)); have q3 := HCV.out w5 hcW.out; have hlt5 : X0.heap.size < w5.heap.size := Nat.lt_of_lt_of_le (by first | exact hlt9 | exact hlt9b _ | exact hlt9a _) hb5.size; have q4 := fun o => HCV.out (w5.alloc o) (HALL.out w5 o hlt5 hcW.out); have q6 := fun o => HCV.out (w5.alloc o).drew (HALL.out w5 o hlt5 hcW.out); obtain ⟨hc5, hf5, hk5, hz5⟩ := bcell3 hb5; (try simp only [World.size_alloc] at hz5)))
              all_goals (go_wp2; go_ret2; exact ⟨by rw [← HANS.out]; rfl, by (repeat' (first | (with_reducible exact Below.refl _ _) | (with_reducible assumption) | (with_reducible refine Below.new ?_ _) | (with_reducible refine Below.alloc ?_ ?_ _) | (with_reducible refine Below.drew ?_) | (with_reducible refine Below.setCell ?_ ?_ _) | (refine Below.step ?_ (by assumption)) | go_size))⟩)
        · have hzp : z < padN dl := by unfold padN at hz ⊢; omega
          obtain ⟨q, hq⟩ : ∃ q, (dl + z) % 8 = q := ⟨_, rfl⟩
          rw [hq] at htm htm2 hm
          have hqn : ((q : Int) == 0) = false := by simp; omega
          have hqn2 : ((q : Int) != 0) = true := by simp; omega
          obtain ⟨n, hn⟩ : ∃ n, dl + z = n := ⟨_, rfl⟩
          rw [hn] at htm htm2 hown ⊢
          have hnl : n ≤ 16010 := by omega
          clear hq hz
          go_wp2_with (at_builtin; go_loud (refine wpList_append_own _ rfl _ _ 42 rfl (w1.heap.size) 3 i0 (.int .i64 0) 1 8 Tryd.underlying42 hi hiz0 hiz1 hiz2 rfl (by decide) _ _ _ rfl (hown.alloc _) ⟨wr.heap.size, 0, none⟩ 1 1 [.int .i64 ((0 : Int))] rfl rfl (one_new _ _ _) (one_int _ _) (by unfold maxLen; omega) (by omega) (by simp; omega) ?_); intro v' w1' hown' hgrow' hnil')
          go_roundw
          case rel =>
            refine ⟨z + 1, by omega, ?_, (hbel.alloc hsz _).grown hgrow' (by simp; omega) (fun r e => (hown.lt r e).1)⟩
            rw [zeros_more, intsOf_app, show dl + (z + 1) = n + 1 by omega]
            exact hown'
          case measure =>
            obtain ⟨ao5, cap5, rfl⟩ := hown'.shape
            simp [lenOfV]
            unfold padN at hzp
            omega
end Go.Proofs.YtpgifmccajcgkaaDoor
