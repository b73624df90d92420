/- Texts joined: OrI, OrJ, OrK, OpenS, OrL, OrM, OrN, Bld, BldS, OrQ. -/
import Derived.Test.YtejleplhmkmegaaGreatDoorOk
import Derived.Test.YtejleplhmkmegaaGreatDoorOa
import Derived.SliceStrings
import Derived.Deep.Slices
import Derived.Deep.Fields
import Derived.Deep.Strs
import Derived.Lib.Builder
import Derived.Lib.OthersKept
import Derived.Laws.Externs
import Derived.Laws.BitsLemmas
import Derived.Lib.AppendStr
import Derived.Lib.UnsafeStr
import Derived.Test.YtejleplhmkmegaaGreatDoorOc
import Derived.Lib.RuneBytes
/- Order: a filter's filters counted. -/
namespace Go.Proofs.YtejleplhmkmegaaGreatDoor
set_option linter.unusedVariables false
set_option linter.unusedSimpArgs false
set_option maxRecDepth 100000
open Go.ChangeShapes Go.WideShapes Go.ChangeAt Go.RowKit Go.Fl

def countN : Nat → FilD → Nat
  | 0, _ => 0
  | d + 1, .mk _ _ _ _ _ l => 1 + (l.map (countN d)).sum
theorem count_cut : ∀ (d e : Nat) (f : FilD), countN d (cutF e f) ≤ 11 ^ d
  | 0, e, f => by simp [countN]
  | d + 1, e, .mk k n ws fr till l => by
    rw [cutF_eq]
    unfold countN
    have h1 : (cutL e l).length ≤ 10 := by
      cases e with
      | zero => simp [cutL]
      | succ e => simp [cutL]; omega
    have h2 : ∀ x ∈ (cutL e l).map (countN d), x ≤ 11 ^ d := by
      intro x hx
      obtain ⟨y, hy, rfl⟩ := List.mem_map.1 hx
      cases e with
      | zero => simp [cutL] at hy
      | succ e =>
        obtain ⟨z, _, rfl⟩ := List.mem_map.1 hy
        exact count_cut d e z
    have h3 : ∀ (L : List Nat) (b : Nat), (∀ x ∈ L, x ≤ b) → L.sum ≤ L.length * b := by
      intro L b
      induction L with
      | nil => simp
      | cons x L ih =>
        intro h
        have := h x (by simp)
        have := ih fun y hy => h y (by simp [hy])
        rw [List.sum_cons, List.length_cons, Nat.succ_mul]
        omega
    have h4 := h3 _ _ h2
    rw [List.length_map] at h4
    have h5 : (cutL e l).length * 11 ^ d ≤ 10 * 11 ^ d := Nat.mul_le_mul_right _ h1
    have h6 : 0 < 11 ^ d := Nat.pow_pos (by decide)
    rw [Nat.pow_succ]
    omega
theorem sum_take {l : List Nat} {k : Nat} (h : k < l.length) : (l.take (k + 1)).sum = (l.take k).sum + l[k] := by
  rw [List.take_succ_eq_append_getElem h, List.sum_append]
  simp
theorem sum_mono (l : List Nat) (k : Nat) : (l.take k).sum ≤ l.sum := by
  have := List.take_append_drop k l
  have h2 := congrArg List.sum this
  rw [List.sum_append] at h2
  omega
def CountSpec (D : Nat) : Prop := ∀ (S : Nat → Prop) (f : FilD) (cs : List Value) (w : World), FilS S w D cs f → countN D f ≤ 1000000000000 → Calls Tryz.prog 53 #[.agg cs.toArray] w fun e w' => e = .returned (.int .i64 (countN D f : Nat)) ∧ Below w.heap.size w w'
set_option maxHeartbeats 4000000 in
theorem count_step (D : Nat) (ih : CountSpec D) : CountSpec (D + 1) := by
  intro S f cs w hf hc
  obtain ⟨k, n, ws, fr, till, l⟩ := f
  unfold FilS at hf
  obtain ⟨vw, vl, rows, rfl, hn, hw, hws, hrl, hr6, hl, hrec⟩ := hf
  obtain ⟨aw, cw, rfl, _⟩ := SlAt.shape hw.sl
  obtain ⟨al, cl, rfl, l1, l2, l3⟩ := SlAt.shape hl.sl
  have HL := hid hl.sl; have HRL := hid hrl; have HR6 := hid hr6; have HREC := hid hrec
  unfold countN at hc ⊢
  obtain ⟨C, hC⟩ : ∃ C, l.map (countN D) = C := ⟨_, rfl⟩
  have HC := hid hC
  rw [hC] at hc ⊢
  have HLC : Hid (C.length = l.length) := by unfold Hid; rw [← hC, List.length_map]
  have HSM := hid (fun k => sum_mono C k)
  unfold maxLen at l2
  generalize ws.length = m1 at *
  obtain ⟨L, hL⟩ : ∃ L, l.length = L := ⟨_, rfl⟩
  have HLL := hid hL
  rw [hL] at l1 ⊢
  have HCC := hid hc
  clear hw hl hws hrl hr6 hrec hC hL hn hc
  go_enter Tryz.func53, Tryz.ntmps53
  go_wp2
  go_loopw [3, 4] (fun s i wr => ∃ j : Nat, j ≤ L ∧ i = .int .i64 (j : Nat) ∧ s = .int .i64 ((1 + (C.take j).sum : Nat) : Int) ∧ Below w.heap.size w wr ∧ wr.heap[w.heap.size]? = some (outC k n (.slice aw m1 cw) fr till (.slice al L cl))) (fun _ i _ => L - (intOf i).toNat)
  case atStart => exact ⟨0, Nat.zero_le _, rfl, rfl, by (repeat' (first | (with_reducible exact Below.refl _ _) | (with_reducible assumption) | (with_reducible refine Below.new ?_ _) | (with_reducible refine Below.alloc ?_ ?_ _) | (with_reducible refine Below.drew ?_) | (with_reducible refine Below.drewN ?_ _) | (with_reducible refine Below.setCell ?_ ?_ _) | (refine Below.step ?_ (by assumption)) | go_size)), heap_at rfl⟩
  case round =>
    obtain ⟨j, hj, rfl, rfl, hbel, y0⟩ := hrel
    have g1 : (0 : Int) ≤ (j : Int) := Int.natCast_nonneg _
    have u2 : wr.cell? ⟨w.heap.size, 5, none⟩ = some (.slice al L cl) := cell_blk y0 rfl
    have zb0 : w.heap.size < wr.heap.size := blk_lt y0
    have hs1 := HSM.out j
    have hs2 := HCC.out
    obtain ⟨s, hs⟩ : ∃ s, (C.take j).sum = s := ⟨_, rfl⟩
    have HS := hid hs
    rw [hs] at hs1 ⊢
    by_cases hjL : j < L
    · have hjl : j < l.length := by have := HLL.out; omega
      have hjC : j < C.length := by rw [HLC.out]; exact hjl
      have hI : (j : Int) < (L : Int) := by omega
      obtain ⟨bl, ol, rfl, hcell⟩ := (SlAt.parts HL.out).2.2.2.2 (by rw [(SlAt.len HL.out)]; omega)
      have hjr : j < rows.length := by rw [HRL.out]; exact hjl
      have hfr := HREC.out j hjl rows[j] (List.getElem?_eq_getElem hjr)
      have hcr : ∀ i u, i < 6 → rows[j][i]? = some u → w.cell? ⟨bl, ol + (j * 6 + i), none⟩ = some u := fun i u h6 hu => hcell _ _ ((flatten_at HR6.out (List.getElem?_eq_getElem hjr) h6).trans hu)
      have hcj : C[j] = countN D l[j] := by
        have := HC.out
        subst this
        simp
      have hst := sum_take hjC
      have hsm := HSM.out (j + 1)
      have HI := hid (fun W (h : Below w.heap.size w W) (hb : countN D l[j] ≤ 1000000000000) => ih S l[j] rows[j] W (hfr.below h) hb)
      rw [← hcj] at HI
      have HI2 := hid (fun W h => HI.out W h (by rw [hst] at hsm; omega))
      clear HI
      rw [hst, hs] at hsm
      have HST := hid (hst.trans (by rw [hs]))
      generalize C[j] = c at *
      generalize rows[j] = row at *
      generalize l[j] = fj at *
      clear hst hcj
      cases D with
      | zero => simp [FilS] at hfr
      | succ D =>
      obtain ⟨k2, n2, ws2, fr2, till2, l2'⟩ := fj
      unfold FilS at hfr
      obtain ⟨vw2, vl2, rows2, rfl, t1, hw2, t2, t3, t4, hl2, t5⟩ := hfr
      clear t1 t2 t3 t4 t5
      obtain ⟨aw2, cw2, rfl, _⟩ := SlAt.shape hw2.sl
      obtain ⟨al2, cl2, rfl, _⟩ := SlAt.shape hl2.sl
      have b0 := cell_step (hcr 0 _ (by decide) rfl) hbel; have b1 := cell_step (hcr 1 _ (by decide) rfl) hbel; have b2 := cell_step (hcr 2 _ (by decide) rfl) hbel; have b3 := cell_step (hcr 3 _ (by decide) rfl) hbel; have b4 := cell_step (hcr 4 _ (by decide) rfl) hbel; have b5 := cell_step (hcr 5 _ (by decide) rfl) hbel
      rw [Nat.add_zero] at b0
      rw [← Nat.add_assoc] at b1 b2 b3 b4 b5
      have HB := hid hbel; have HY := hid y0
      clear hcell hcr hw2 hl2 hbel y0
      generalize ws2.length = m2 at *
      generalize l2'.length = m3 at *
      have e1 : (0 : Int) ≤ ((1 + s : Nat) : Int) + (c : Int) := by omega
      have e2 : ((1 + s : Nat) : Int) + (c : Int) ≤ 9223372036854775807 := by omega
      obtain ⟨x, hx⟩ : ∃ x : Int, ((1 + s : Nat) : Int) = x := ⟨_, rfl⟩
      have HX := hid hx
      rw [hx] at e1 e2 ⊢
      clear hx
      go_wp2_with (go_at_call 53; ((with_reducible refine (HI2.out _ HB.out).mono ?_); rintro e w1 ⟨rfl, hb1⟩))
      go_roundw
      case rel =>
        refine ⟨j + 1, hjL, by go_num, ?_, by have := HB.out; (repeat' (first | (with_reducible exact Below.refl _ _) | (with_reducible assumption) | (with_reducible refine Below.new ?_ _) | (with_reducible refine Below.alloc ?_ ?_ _) | (with_reducible refine Below.drew ?_) | (with_reducible refine Below.drewN ?_ _) | (with_reducible refine Below.setCell ?_ ?_ _) | (refine Below.step ?_ (by assumption)) | go_size)), (hb1.block _ (by omega)).trans HY.out⟩
        have h1 := HX.out
        rw [HST.out]
        congr 1
        omega
      case measure => simp [intOf]; omega
    · obtain rfl : j = L := by omega
      have hfull : s = C.sum := by rw [← HS.out, List.take_of_length_le (by rw [HLC.out, HLL.out]; exact Nat.le_refl _)]
      have HF := hid hfull
      have HB := hid hbel
      clear hbel hs1 hs2 hfull hs HS
      go_wp2
      go_ret
      exact ⟨by rw [← HF.out]; rfl, HB.out⟩
theorem count_any : ∀ D, CountSpec D
  | 0 => fun S f cs w hf => by simp [FilS] at hf
  | D + 1 => count_step D (count_any D)
end Go.Proofs.YtejleplhmkmegaaGreatDoor
/- Order: the law's few filters. -/
namespace Go.Proofs.YtejleplhmkmegaaGreatDoor
set_option linter.unusedVariables false
set_option linter.unusedSimpArgs false
set_option maxRecDepth 100000
open Go.ChangeShapes Go.WideShapes Go.ChangeAt Go.RowKit Go.Fl

def noL : FilD → FilD | .mk k n ws fr till _ => .mk k n ws fr till []
def fewF (f : FilD) : FilD := if 100 < countN 8 (cutF 7 f) then noL (cutF 7 f) else cutF 7 f
theorem FilS.noL {S : Nat → Prop} {w : World} {d : Nat} {k : Int} {n : ByteArray} {vw vl : Value} {fr till : Int} {f : FilD} (h : FilS S w (d + 1) [.int .i64 k, .string n, vw, .int .i64 fr, .int .i64 till, vl] f) : FilS S w (d + 1) [.int .i64 k, .string n, vw, .int .i64 fr, .int .i64 till, .slice none 0 0] (Go.Proofs.YtejleplhmkmegaaGreatDoor.noL f) := by
  obtain ⟨k', n', ws, fr', till', l⟩ := f
  unfold Go.Proofs.YtejleplhmkmegaaGreatDoor.noL
  unfold FilS at h ⊢
  obtain ⟨vw', vl', rows, h1, h2, h3, h4, _⟩ := h
  simp only [List.cons.injEq, Value.int.injEq, Value.string.injEq, true_and, and_true] at h1
  obtain ⟨rfl, rfl, rfl, rfl, rfl, rfl⟩ := h1
  exact ⟨_, _, [], rfl, h2, h3, h4, rfl, by simp, ⟨rfl, none, 0, rfl, Nat.le_refl _, by simp, fun _ => rfl, fun h => by simp at h⟩, fun i hi => by simp at hi⟩
theorem FilS.six {S : Nat → Prop} {w : World} {d : Nat} {cs : List Value} {f : FilD} (h : FilS S w d cs f) : ∃ (k : Int) (n : ByteArray) (aw : Option Addr) (lw cw : Nat) (fr till : Int) (al : Option Addr) (ll cl : Nat), cs = [.int .i64 k, .string n, .slice aw lw cw, .int .i64 fr, .int .i64 till, .slice al ll cl] := by
  cases d with
  | zero => simp [FilS] at h
  | succ d =>
  obtain ⟨k', n', ws, fr', till', l⟩ := f
  unfold FilS at h
  obtain ⟨vw', vl', rows, h1, h2, h3, h4, _, _, h5, _⟩ := h
  obtain ⟨aw, cw, rfl, _⟩ := SlAt.shape h3.sl
  obtain ⟨al, cl, rfl, _⟩ := SlAt.shape h5.sl
  exact ⟨_, _, _, _, _, _, _, _, _, _, h1⟩
set_option maxHeartbeats 4000000 in
theorem few14_any (S : Nat → Prop) (D : Nat) (f : FilD) (cs : List Value) (w : World) (hf : FilS S w D cs f) :
    Calls Tryz.prog 23 #[.agg cs.toArray] w fun e w' => ∃ cs', e = .returned (.agg cs'.toArray) ∧ FilS (fun b => w.heap.size ≤ b ∧ b < w'.heap.size) w' 8 cs' (fewF f) ∧ Below w.heap.size w w' := by
  have HC := hid (fun W (h : Below w.heap.size w W) => cut_any 7 (by decide) S D f cs W (hf.below h))
  have h8 : ((7 : Nat) : Int) + 1 = 8 := rfl
  rw [h8] at HC
  have HN := hid (fun (S : Nat → Prop) (cs : List Value) (W : World) (h : FilS S W 8 cs (cutF 7 f)) => count_any 8 S _ cs W h (Nat.le_trans (count_cut 8 7 f) (by decide)))
  obtain ⟨k, n, aw, lw, cw, fr, till, al, ll, cl, rfl⟩ := hf.six
  clear hf h8
  have hcc : countN 8 (cutF 7 f) ≤ 1000000000000 := Nat.le_trans (count_cut 8 7 f) (by decide)
  obtain ⟨c, hc⟩ : ∃ c, countN 8 (cutF 7 f) = c := ⟨_, rfl⟩
  have HFW : Hid (fewF f = if 100 < c then noL (cutF 7 f) else cutF 7 f) := by unfold Hid fewF; rw [hc]
  rw [hc] at HN hcc
  clear hc
  go_enter Tryz.func23, Tryz.ntmps23
  go_upto_region 2 with (go_at_call 52; go_loud ((with_reducible refine (HC.out _ (by (repeat' (first | (with_reducible exact Below.refl _ _) | (with_reducible assumption) | (with_reducible refine Below.new ?_ _) | (with_reducible refine Below.alloc ?_ ?_ _) | (with_reducible refine Below.drew ?_) | (with_reducible refine Below.drewN ?_ _) | (with_reducible refine Below.setCell ?_ ?_ _) | (refine Below.step ?_ (by assumption)) | go_size)))).mono ?_); rintro e w1 ⟨cs', rfl, hfc, hb1⟩; obtain ⟨k2, n2, aw2, lw2, cw2, fr2, till2, al2, ll2, cl2, rfl⟩ := hfc.six; have y0 : w1.heap[w.heap.size]? = some (outC k n (.slice aw lw cw) fr till (.slice al ll cl)) := (hb1.block w.heap.size (by simp; omega)).trans ((heap_past (by simp)).trans (heap_at rfl)); have y1 : w1.heap[w.heap.size + 1]? = some (outC 0 { data := #[] } (.slice none 0 0) 0 0 (.slice none 0 0)) := (hb1.block (w.heap.size + 1) (by simp)).trans (heap_at (by simp)); have e0 := cell_blk (i := 0) y0 rfl; have e1 := cell_blk (i := 1) y0 rfl; have e2 := cell_blk (i := 2) y0 rfl; have e3 := cell_blk (i := 3) y0 rfl; have e4 := cell_blk (i := 4) y0 rfl; have e5 := cell_blk (i := 5) y0 rfl; have f0 := free_blk (i := 0) y0; have f1 := free_blk (i := 1) y0; have f2 := free_blk (i := 2) y0; have f3 := free_blk (i := 3) y0; have f4 := free_blk (i := 4) y0; have f5 := free_blk (i := 5) y0))
  obtain ⟨X, hX⟩ : ∃ X, ((((((w1.setCell ⟨w.heap.size, 0, none⟩ (.int .i64 k2)).setCell ⟨w.heap.size, 1, none⟩ (.string n2)).setCell ⟨w.heap.size, 2, none⟩ (.slice aw2 lw2 cw2)).setCell ⟨w.heap.size, 3, none⟩ (.int .i64 fr2)).setCell ⟨w.heap.size, 4, none⟩ (.int .i64 till2)).setCell ⟨w.heap.size, 5, none⟩ (.slice al2 ll2 cl2)) = X := ⟨_, rfl⟩
  have x0 : X.heap[w.heap.size]? = some (outC k2 n2 (.slice aw2 lw2 cw2) fr2 till2 (.slice al2 ll2 cl2)) := by
    rw [← hX]
    have := blk_set (o := 5) (v := .slice al2 ll2 cl2) (blk_set (o := 4) (v := .int .i64 till2) (blk_set (o := 3) (v := .int .i64 fr2) (blk_set (o := 2) (v := .slice aw2 lw2 cw2) (blk_set (o := 1) (v := .string n2) (blk_set (o := 0) (v := .int .i64 k2) y0)))))
    simpa using this
  have hXo : ∀ b, b ≠ w.heap.size → X.heap[b]? = w1.heap[b]? := fun b hb => by
    rw [← hX, heap_set_other hb, heap_set_other hb, heap_set_other hb, heap_set_other hb, heap_set_other hb, heap_set_other hb]
  have x1 := (hXo (w.heap.size + 1) (by omega)).trans y1
  have hzX : X.heap.size = w1.heap.size := by rw [← hX]; simp
  have hz1 := hb1.size
  simp only [World.size_alloc] at hz1
  have hBX : Below w.heap.size w X := by
    rw [← hX]
    repeat (refine Below.setCell ?_ (by dsimp only; omega) _)
    (repeat' (first | (with_reducible exact Below.refl _ _) | (with_reducible assumption) | (with_reducible refine Below.new ?_ _) | (with_reducible refine Below.alloc ?_ ?_ _) | (with_reducible refine Below.drew ?_) | (with_reducible refine Below.drewN ?_ _) | (with_reducible refine Below.setCell ?_ ?_ _) | (refine Below.step ?_ (by assumption)) | go_size))
  rw [hX]
  clear hX e0 e1 e2 e3 e4 e5 f0 f1 f2 f3 f4 f5 y0 y1
  have hfX : FilS (fun b => w.heap.size + 1 + 1 ≤ b ∧ b < X.heap.size) X 8 [.int .i64 k2, .string n2, .slice aw2 lw2 cw2, .int .i64 fr2, .int .i64 till2, .slice al2 ll2 cl2] (cutF 7 f) := by
    refine hfc.keep (fun b hb => ?_) (fun b hb _ => hXo b ?_)
    · have := hb.1; have := hb.2; simp only [World.size_alloc] at *; omega
    · have := hb.1; simp only [World.size_alloc] at this; omega
  have HX := hid hfX
  have HNX := hid (HN.out _ _ X hfX)
  clear hfc hfX HN hXo
  have e0 := cell_blk (i := 0) x0 rfl; have e1 := cell_blk (i := 1) x0 rfl; have e2 := cell_blk (i := 2) x0 rfl; have e3 := cell_blk (i := 3) x0 rfl; have e4 := cell_blk (i := 4) x0 rfl; have e5 := cell_blk (i := 5) x0 rfl
  have HY := hid (⟨x0, x1, hBX⟩ : _ ∧ _ ∧ _)
  clear x0 x1 hBX
  have hbz : w.heap.size + 1 < X.heap.size := by omega
  by_cases hgt : 100 < c
  · have hI : (100 : Int) < (c : Int) := by omega
    have HG := hid hgt
    go_wp2_with (go_at_call 53; go_loud ((with_reducible refine (HNX.out).mono ?_); rintro e w2 ⟨rfl, hb2⟩; have x0 := (hb2.block _ (by omega)).trans HY.out.1; have x1 := (hb2.block _ (by omega)).trans HY.out.2.1; have zb2 := hb2.size; have a0 := cell_blk (i := 0) x0 rfl; have a1 := cell_blk (i := 1) x0 rfl; have a2 := cell_blk (i := 2) x0 rfl; have a3 := cell_blk (i := 3) x0 rfl; have a4 := cell_blk (i := 4) x0 rfl; have a5 := cell_blk (i := 5) x0 rfl; have f5 := free_blk (i := 5) x0; have r0 := cell_blk (i := 0) x1 rfl; have r1 := cell_blk (i := 1) x1 rfl; have r2 := cell_blk (i := 2) x1 rfl; have r3 := cell_blk (i := 3) x1 rfl; have r4 := cell_blk (i := 4) x1 rfl; have r5 := cell_blk (i := 5) x1 rfl; have h0 := free_blk (i := 0) x1; have h1 := free_blk (i := 1) x1; have h2 := free_blk (i := 2) x1; have h3 := free_blk (i := 3) x1; have h4 := free_blk (i := 4) x1; have h5 := free_blk (i := 5) x1))
    ((show bodyPost _ _ _ _ _ _); refine bodyPost_ret (by simp only [results, Tryz.results23]; go_simp; try rfl) rfl ?_)
    refine ⟨_, rfl, ?_, ?_⟩
    · rw [HFW.out, if_pos HG.out]
      refine (FilS.noL HX.out).keep (fun b hb => ?_) (fun b hb _ => ?_)
      · have := hb.1; have := hb.2; simp only [World.size_setCell]; omega
      · have := hb.1
        repeat rw [heap_set_other (by omega)]
        exact hb2.block b hb.2
    · repeat (refine Below.setCell ?_ (by dsimp only; omega) _)
      exact HY.out.2.2.trans (hb2.mono (by omega))
  · have hI : ¬ (100 : Int) < (c : Int) := by omega
    have HG := hid hgt
    go_wp2_with (go_at_call 53; go_loud ((with_reducible refine (HNX.out).mono ?_); rintro e w2 ⟨rfl, hb2⟩; have x0 := (hb2.block _ (by omega)).trans HY.out.1; have x1 := (hb2.block _ (by omega)).trans HY.out.2.1; have zb2 := hb2.size; have a0 := cell_blk (i := 0) x0 rfl; have a1 := cell_blk (i := 1) x0 rfl; have a2 := cell_blk (i := 2) x0 rfl; have a3 := cell_blk (i := 3) x0 rfl; have a4 := cell_blk (i := 4) x0 rfl; have a5 := cell_blk (i := 5) x0 rfl; have f5 := free_blk (i := 5) x0; have r0 := cell_blk (i := 0) x1 rfl; have r1 := cell_blk (i := 1) x1 rfl; have r2 := cell_blk (i := 2) x1 rfl; have r3 := cell_blk (i := 3) x1 rfl; have r4 := cell_blk (i := 4) x1 rfl; have r5 := cell_blk (i := 5) x1 rfl; have h0 := free_blk (i := 0) x1; have h1 := free_blk (i := 1) x1; have h2 := free_blk (i := 2) x1; have h3 := free_blk (i := 3) x1; have h4 := free_blk (i := 4) x1; have h5 := free_blk (i := 5) x1))
    ((show bodyPost _ _ _ _ _ _); refine bodyPost_ret (by simp only [results, Tryz.results23]; go_simp; try rfl) rfl ?_)
    refine ⟨_, rfl, ?_, ?_⟩
    · rw [HFW.out, if_neg HG.out]
      refine (HX.out).keep (fun b hb => ?_) (fun b hb _ => ?_)
      · have := hb.1; have := hb.2; simp only [World.size_setCell]; omega
      · have := hb.1
        repeat rw [heap_set_other (by omega)]
        exact hb2.block b hb.2
    · repeat (refine Below.setCell ?_ (by dsimp only; omega) _)
      exact HY.out.2.2.trans (hb2.mono (by omega))
end Go.Proofs.YtejleplhmkmegaaGreatDoor
/- Order: the law's few: a query (UNDER WAY). -/
namespace Go.Proofs.YtejleplhmkmegaaGreatDoor
set_option linter.unusedVariables false
set_option linter.unusedSimpArgs false
set_option maxRecDepth 100000
open Go.ChangeShapes Go.WideShapes Go.ChangeAt Go.RowKit Go.Fl

/-- What is summed up; conditions. -/
structure AggD where
  kind : Int
  metric : ByteArray
def AggD.cells (a : AggD) : List Value := [.int .i64 a.kind, .string a.metric]
theorem AggD.cells_len (v : AggD) : v.cells.length = 2 := rfl
def AggsSl (w : World) (v : Value) (l : List AggD) : Prop := SlAt w v l.length 2 (l.flatMap AggD.cells)
structure CondD where
  pos : Int
  op : Int
  n : Int
def CondD.cells (a : CondD) : List Value := [.int .i64 a.pos, .int .i64 a.op, .int .i64 a.n]
theorem CondD.cells_len (v : CondD) : v.cells.length = 3 := rfl
def CondsSl (w : World) (v : Value) (l : List CondD) : Prop := SlAt w v l.length 3 (l.flatMap CondD.cells)
/-- Sets of names. -/
def SetsSl (w : World) (v : Value) (l : List (List ByteArray)) : Prop := ∃ vs : List Value, vs.length = l.length ∧ SlAt w v l.length 1 vs ∧ ∀ i (hi : i < l.length) x, vs[i]? = some x → StrsSl w x l[i]
theorem KeysSl.take {w : World} {an : Option Addr} {cn : Nat} {xs : List KeyD} (h : KeysSl w (.slice an xs.length cn) xs) (k : Nat) : KeysSl w (.slice an (min xs.length k) cn) (xs.take k) := by
  have h2 := SlAt.take h (k := min xs.length k) (Nat.min_le_left _ _)
  have e : (xs.take k).length = min xs.length k := by rw [List.length_take, Nat.min_comm]
  have e2 : xs.take (min xs.length k) = xs.take k := by
    by_cases hk : k ≤ xs.length
    · rw [Nat.min_eq_right hk]
    · rw [Nat.min_eq_left (by omega), List.take_length, List.take_of_length_le (by omega)]
  unfold KeysSl
  rw [flat_take 3 KeyD.cells KeyD.cells_len, e2] at h2
  rw [e]
  exact h2
theorem CondsSl.take {w : World} {an : Option Addr} {cn : Nat} {xs : List CondD} (h : CondsSl w (.slice an xs.length cn) xs) (k : Nat) : CondsSl w (.slice an (min xs.length k) cn) (xs.take k) := by
  have h2 := SlAt.take h (k := min xs.length k) (Nat.min_le_left _ _)
  have e : (xs.take k).length = min xs.length k := by rw [List.length_take, Nat.min_comm]
  have e2 : xs.take (min xs.length k) = xs.take k := by
    by_cases hk : k ≤ xs.length
    · rw [Nat.min_eq_right hk]
    · rw [Nat.min_eq_left (by omega), List.take_length, List.take_of_length_le (by omega)]
  unfold CondsSl
  rw [flat_take 3 CondD.cells CondD.cells_len, e2] at h2
  rw [e]
  exact h2
theorem info_agg : (Tryz.prog.info? 71).map (fun i => (i.zero, i.size, i.bytes)) = some (some (.agg #[.int .i64 0, .string { data := #[] }]), 2, 24) := by kernel_rfl
/-- A query as it lies in memory. -/
structure QryD where
  aggs : List AggD
  by_ : List ByteArray
  mode : Int
  sets : List (List ByteArray)
  every : Int
  wher : FilD
  having : List CondD
  order : List KeyD
  limit : Int
structure QryIs (w : World) (q : QryV) (d : QryD) : Prop where
  aggs : AggsSl w (.slice q.aa q.an q.ac) d.aggs
  by_ : StrsSl w (.slice q.ba q.bn q.bc) d.by_
  mode : q.mode = d.mode
  sets : SetsSl w (.slice q.sa q.sn q.sc) d.sets
  every : q.every = d.every
  wher : ∃ D, FilS (fun _ => True) w D [.int .i64 q.kind, .string q.name, .slice q.wa q.wn q.wc, .int .i64 q.fr, .int .i64 q.till, .slice q.la q.ln q.lc] d.wher
  having : CondsSl w (.slice q.ha q.hn q.hc) d.having
  order : KeysSl w (.slice q.oa q.on q.oc) d.order
  limit : q.limit = d.limit
end Go.Proofs.YtejleplhmkmegaaGreatDoor
/- How arguments that are texts, values, schemas, rows, and lists of these are opened. -/
namespace Go.Proofs.YtejleplhmkmegaaGreatDoor
set_option linter.unusedVariables false
set_option linter.unusedSimpArgs false
set_option maxRecDepth 100000
open Go.ChangeShapes Go.WideShapes Go.ChangeAt Go.RowKit Go.Joins Go.Deep

section
variable {H : Type} {enc : TypeId × Value → H} {W : World} {base : Nat}
/-- A slice of elements of some cells. -/
theorem open_sl {t e : TypeId} (n : Nat) (ht : Tryz.prog.underlying t = some (.slice e)) (hC : Tryz.prog.cellsOf e = n) (h0 : 0 < n) {v : Value} {fuel : Nat} {x : DataW H × List MemPlace} (h : DataW.trod enc Tryz.prog W 0 (fun _ => true) true fuel t [v] = some x) :
    ∃ (ao : Option Addr) (len cap : Nat), v = .slice ao len cap ∧ len ≤ cap ∧ cap ≤ maxLen ∧ (ao = none → cap = 0) ∧
      (0 < len → ∃ b off, ao = some ⟨b, off, none⟩ ∧ ∀ i, i < len → ∃ (cs : List Value) (k : Nat) (y : DataW H × List MemPlace), cs.length = n ∧ (∀ j u, cs[j]? = some u → W.cell? ⟨b, off + (i * n + j), none⟩ = some u) ∧ DataW.trod enc Tryz.prog W 0 (fun _ => true) true k e cs = some y) := by
  rcases open_slice ht h with ⟨hcs, _⟩ | ⟨a, len, cap, m, k, D, Pl, hcs, _, hl, hm, hmm, _, hi⟩
  · simp at hcs
    exact ⟨none, 0, 0, hcs, Nat.le_refl _, by simp, fun _ => rfl, fun h => absurd h (by omega)⟩
  · simp at hcs
    simp only [if_true] at hmm
    refine ⟨some a, len, cap, hcs, hl, hm, (fun h => by cases h), fun hlen => ?_⟩
    have key : ∀ i, i < len → ∃ (cs : List Value) (y : DataW H × List MemPlace), cs.length = n ∧ (∀ j u, cs[j]? = some u → W.cell? ((a.add (i * n)).add j) = some u) ∧ DataW.trod enc Tryz.prog W 0 (fun _ => true) true k e cs = some y := fun i hi' => by
      obtain ⟨cs, hc, ht'⟩ := hi i (by omega)
      rw [hC] at hc
      obtain ⟨_, hcl, hat⟩ := World.cells?_some hc
      exact ⟨cs, _, hcl, fun j u hj => by rw [hat j (by have := (List.getElem?_eq_some_iff.1 hj).1; omega)]; exact hj, ht'⟩
    obtain ⟨b, off, s⟩ := a
    obtain ⟨cs0, _, hl0, hc0, _⟩ := key 0 hlen
    have hs : s = none := by
      have := hc0 0 cs0[0] (List.getElem?_eq_getElem (by omega))
      have := spot_none this
      simpa [Addr.add] using this
    subst hs
    refine ⟨b, off, rfl, fun i hi' => ?_⟩
    obtain ⟨cs, y, h1, h2, h3⟩ := key i hi'
    refine ⟨cs, k, y, h1, fun j u hj => ?_, h3⟩
    have h4 := h2 j u hj
    have e1 : ((⟨b, off, none⟩ : Addr).add (i * n)).add j = ⟨b, off + (i * n + j), none⟩ := by
      have ea : ∀ o m : Nat, (⟨b, o, none⟩ : Addr).add m = ⟨b, o + m, none⟩ := fun o m => by unfold Addr.add; split <;> simp_all
      rw [ea, ea, Nat.add_assoc]
    rw [e1] at h4
    exact h4
/-- The cells of elements, read one by one, are the cells of the list. -/
theorem sl_of {α : Type} {n len : Nat} {f : α → List Value} (hf : ∀ x, (f x).length = n) (h0 : 0 < n) {b off : Nat} (R : α → Prop)
    (h : ∀ i, i < len → ∃ x, R x ∧ ∀ j u, (f x)[j]? = some u → W.cell? ⟨b, off + (i * n + j), none⟩ = some u) : ∃ l : List α, l.length = len ∧ (∀ x ∈ l, R x) ∧ ∀ j u, (l.flatMap f)[j]? = some u → W.cell? ⟨b, off + j, none⟩ = some u := by
  induction len with
  | zero => exact ⟨[], rfl, by simp, by simp⟩
  | succ m ih =>
    obtain ⟨l, h1, h2, h3⟩ := ih (fun i hi => h i (by omega))
    obtain ⟨x, hx, hc⟩ := h m (by omega)
    refine ⟨l ++ [x], by simp [h1], fun y hy => ?_, fun j u hj => ?_⟩
    · rcases List.mem_append.1 hy with h | h
      · exact h2 y h
      · simp at h; subst h; exact hx
    · have hll : (l.flatMap f).length = m * n := by rw [flat_len n f hf, h1]
      rw [List.flatMap_append] at hj
      by_cases hjl : j < m * n
      · rw [List.getElem?_append_left (by omega)] at hj
        exact h3 j u hj
      · rw [List.getElem?_append_right (by omega), hll] at hj
        have := hc (j - m * n) u (by simpa using hj)
        rw [show m * n + (j - m * n) = j by omega] at this
        exact this
theorem flat_one {α : Type} (g : α → Value) : ∀ l : List α, l.flatMap (fun x => [g x]) = l.map g
  | [] => rfl
  | x :: l => by rw [List.flatMap_cons, flat_one g l]; rfl
theorem open_strs {t : TypeId} (ht : Tryz.prog.underlying t = some (.slice 9)) {v : Value} {fuel : Nat} {x : DataW H × List MemPlace} (h : DataW.trod enc Tryz.prog W 0 (fun _ => true) true fuel t [v] = some x) :
    ∃ ss, StrsSl W v ss ∧ ∀ s ∈ ss, s.size ≤ 9223372036854775807 := by
  obtain ⟨ao, len, cap, rfl, h1, h2, h3, hA⟩ := open_sl 1 ht (by kernel_rfl) (by decide) h
  by_cases h0 : 0 < len
  · obtain ⟨b, off, rfl, hc⟩ := hA h0
    obtain ⟨ss, hl, hR, hcells⟩ := sl_of (W := W) (n := 1) (len := len) (f := fun s : ByteArray => [Value.string s]) (fun _ => rfl) (by decide) (b := b) (off := off) (fun s => s.size ≤ 9223372036854775807) (fun i hi => by
      obtain ⟨cs, k, y, hl, hcell, ht'⟩ := hc i hi
      obtain ⟨s, hs, _, hsz⟩ := DataW.trod_string Tryz.underlying9 ht'
      subst hs
      exact ⟨s, by unfold maxLen at hsz; omega, hcell⟩)
    subst hl
    rw [flat_one] at hcells
    exact ⟨ss, ⟨by simp, _, cap, rfl, h1, h2, (fun h => by cases h), fun _ => ⟨b, off, rfl, hcells⟩⟩, hR⟩
  · obtain rfl : len = 0 := by omega
    exact ⟨[], ⟨by simp, ao, cap, rfl, h1, h2, h3, fun h => by simp at h⟩, by simp⟩
theorem open_nums {t : TypeId} (ht : Tryz.prog.underlying t = some (.slice 2)) {v : Value} {fuel : Nat} {x : DataW H × List MemPlace} (h : DataW.trod enc Tryz.prog W 0 (fun _ => true) true fuel t [v] = some x) :
    ∃ xs, IntsSl W v xs ∧ ∀ n ∈ xs, I64 n := by
  obtain ⟨ao, len, cap, rfl, h1, h2, h3, hA⟩ := open_sl 1 ht (by kernel_rfl) (by decide) h
  by_cases h0 : 0 < len
  · obtain ⟨b, off, rfl, hc⟩ := hA h0
    obtain ⟨xs, hl, hR, hcells⟩ := sl_of (W := W) (n := 1) (len := len) (f := fun s : Int => [Value.int .i64 s]) (fun _ => rfl) (by decide) (b := b) (off := off) I64 (fun i hi => by
      obtain ⟨cs, k, y, hl, hcell, ht'⟩ := hc i hi
      obtain ⟨s, hs, _, hsz⟩ := DataW.trod_int Tryz.underlying2 ht'
      subst hs
      exact ⟨s, i64_of_wf hsz, hcell⟩)
    subst hl
    rw [flat_one] at hcells
    exact ⟨xs, ⟨by simp, _, cap, rfl, h1, h2, (fun h => by cases h), fun _ => ⟨b, off, rfl, hcells⟩⟩, hR⟩
  · obtain rfl : len = 0 := by omega
    exact ⟨[], ⟨by simp, ao, cap, rfl, h1, h2, h3, fun h => by simp at h⟩, by simp⟩
theorem val_of {cs : List Value} {k : Nat} {y : DataW H × List MemPlace} (h : DataW.trod enc Tryz.prog W 0 (fun _ => true) true k 65 cs = some y) : ∃ v : ValD, cs = v.cells ∧ v.s.size ≤ 9223372036854775807 := by
  obtain ⟨y0, y1, n, _, hl, h0, h1⟩ := trod_struct2 Tryz.underlying65 h
  have hC : Tryz.prog.cellsOf 65 = 2 := by kernel_rfl
  rw [hC] at hl
  match cs, hl with
  | [a, b], _ =>
    obtain ⟨s, e0, _, hs⟩ := DataW.trod_string Tryz.underlying9 h0
    obtain ⟨c, e1, _⟩ := DataW.trod_bool Tryz.underlying4 h1
    have c0 : Tryz.prog.cellsOf 9 = 1 := by kernel_rfl
    have c1 : Tryz.prog.cellsOf 4 = 1 := by kernel_rfl
    rw [c0] at e0
    rw [c1] at e1
    simp at e0 e1
    subst e0 e1
    exact ⟨⟨s, c⟩, rfl, by unfold maxLen at hs; omega⟩
theorem open_vals {t : TypeId} (ht : Tryz.prog.underlying t = some (.slice 65)) {v : Value} {fuel : Nat} {x : DataW H × List MemPlace} (h : DataW.trod enc Tryz.prog W 0 (fun _ => true) true fuel t [v] = some x) :
    ∃ l, ValsSl W v l ∧ ∀ v ∈ l, v.s.size ≤ 9223372036854775807 := by
  obtain ⟨ao, len, cap, rfl, h1, h2, h3, hA⟩ := open_sl 2 ht (by kernel_rfl) (by decide) h
  by_cases h0 : 0 < len
  · obtain ⟨b, off, rfl, hc⟩ := hA h0
    obtain ⟨l, hl, hR, hcells⟩ := sl_of (W := W) (n := 2) (len := len) (f := ValD.cells) ValD.cells_len (by decide) (b := b) (off := off) (fun v => v.s.size ≤ 9223372036854775807) (fun i hi => by
      obtain ⟨cs, k, y, hl, hcell, ht'⟩ := hc i hi
      obtain ⟨v, hv, hsz⟩ := val_of ht'
      subst hv
      exact ⟨v, hsz, hcell⟩)
    subst hl
    exact ⟨l, ⟨flat_len 2 _ ValD.cells_len l, _, cap, rfl, h1, h2, (fun h => by cases h), fun _ => ⟨b, off, rfl, hcells⟩⟩, hR⟩
  · obtain rfl : len = 0 := by omega
    exact ⟨[], ⟨by simp, ao, cap, rfl, h1, h2, h3, fun h => by simp at h⟩, by simp⟩
theorem open_sch {v : Value} {d : DataW H} {p : List MemPlace} (hv : Value.okWide Tryz.prog W .any base 45 v) (h : DataW.Trod enc Tryz.prog W 0 (fun _ => true) true 45 v d p) :
    ∃ vd vm ds ms g, v = .agg #[vd, vm, .int .i64 g] ∧ StrsSl W vd ds ∧ StrsSl W vm ms ∧ (∀ s ∈ ds, s.size ≤ 9223372036854775807) ∧ (∀ s ∈ ms, s.size ≤ 9223372036854775807) ∧ I64 g := by
  obtain ⟨v0, v1, v2, y0, y1, y2, m, rfl, _, _, h0, h1, h2⟩ := open_agg3 (P := Tryz.prog) Tryz.underlying45 (by kernel_rfl) (by kernel_rfl) hv h
  obtain ⟨ds, a1, a2⟩ := open_strs Tryz.underlying23 h0
  obtain ⟨ms, b1, b2⟩ := open_strs Tryz.underlying23 h1
  obtain ⟨g, e, _, hg⟩ := DataW.trod_int Tryz.underlying2 h2
  simp at e
  subst e
  exact ⟨v0, v1, ds, ms, g, rfl, a1, b1, a2, b2, i64_of_wf hg⟩
end
end Go.Proofs.YtejleplhmkmegaaGreatDoor
/- Order: keys, conditions, sums as they are read. -/
namespace Go.Proofs.YtejleplhmkmegaaGreatDoor
set_option linter.unusedVariables false
set_option linter.unusedSimpArgs false
set_option maxRecDepth 100000
open Go.ChangeShapes Go.WideShapes Go.ChangeAt Go.RowKit Go.Joins Go.Deep
section
variable {H : Type} {enc : TypeId × Value → H} {W : World} {base : Nat}
theorem key_of {cs : List Value} {k : Nat} {y : DataW H × List MemPlace} (h : DataW.trod enc Tryz.prog W 0 (fun _ => true) true k 131 cs = some y) : ∃ v : KeyD, cs = v.cells ∧ I64 v.pos := by
  obtain ⟨y0, y1, y2, n, _, hl, h0, h1, h2⟩ := trod_struct3 Tryz.underlying131 h
  have hC : Tryz.prog.cellsOf 131 = 3 := by kernel_rfl
  rw [hC] at hl
  match cs, hl with
  | [a, b, c], _ =>
    obtain ⟨g, e0, _⟩ := DataW.trod_bool Tryz.underlying4 h0
    obtain ⟨p, e1, _, hp⟩ := DataW.trod_int Tryz.underlying3 h1
    obtain ⟨d, e2, _⟩ := DataW.trod_bool Tryz.underlying4 h2
    have c0 : Tryz.prog.cellsOf 4 = 1 := by kernel_rfl
    have c1 : Tryz.prog.cellsOf 3 = 1 := by kernel_rfl
    rw [c0] at e0 e2
    rw [c1] at e1
    simp at e0 e1 e2
    subst e0 e1 e2
    exact ⟨⟨g, p, d⟩, rfl, i64_of_wf hp⟩
theorem open_keys {t : TypeId} (ht : Tryz.prog.underlying t = some (.slice 131)) {v : Value} {fuel : Nat} {x : DataW H × List MemPlace} (h : DataW.trod enc Tryz.prog W 0 (fun _ => true) true fuel t [v] = some x) :
    ∃ l, KeysSl W v l ∧ ∀ k ∈ l, I64 k.pos := by
  obtain ⟨ao, len, cap, rfl, h1, h2, h3, hA⟩ := open_sl 3 ht (by kernel_rfl) (by decide) h
  by_cases h0 : 0 < len
  · obtain ⟨b, off, rfl, hc⟩ := hA h0
    obtain ⟨l, hl, hR, hcells⟩ := sl_of (W := W) (n := 3) (len := len) (f := KeyD.cells) KeyD.cells_len (by decide) (b := b) (off := off) (fun v => I64 v.pos) (fun i hi => by
      obtain ⟨cs, k, y, hl, hcell, ht'⟩ := hc i hi
      obtain ⟨v, hv, hsz⟩ := key_of ht'
      subst hv
      exact ⟨v, hsz, hcell⟩)
    subst hl
    exact ⟨l, ⟨flat_len 3 _ KeyD.cells_len l, _, cap, rfl, h1, h2, (fun h => by cases h), fun _ => ⟨b, off, rfl, hcells⟩⟩, hR⟩
  · obtain rfl : len = 0 := by omega
    exact ⟨[], ⟨by simp, ao, cap, rfl, h1, h2, h3, fun h => by simp at h⟩, by simp⟩
theorem cond_of {cs : List Value} {k : Nat} {y : DataW H × List MemPlace} (h : DataW.trod enc Tryz.prog W 0 (fun _ => true) true k 57 cs = some y) : ∃ v : CondD, cs = v.cells ∧ I64 v.pos ∧ I64 v.op ∧ I64 v.n := by
  obtain ⟨y0, y1, y2, n, _, hl, h0, h1, h2⟩ := trod_struct3 Tryz.underlying57 h
  have hC : Tryz.prog.cellsOf 57 = 3 := by kernel_rfl
  rw [hC] at hl
  match cs, hl with
  | [a, b, c], _ =>
    obtain ⟨g, e0, _, hg⟩ := DataW.trod_int Tryz.underlying3 h0
    obtain ⟨p, e1, _, hp⟩ := DataW.trod_int Tryz.underlying3 h1
    obtain ⟨d, e2, _, hd⟩ := DataW.trod_int Tryz.underlying2 h2
    have c0 : Tryz.prog.cellsOf 2 = 1 := by kernel_rfl
    have c1 : Tryz.prog.cellsOf 3 = 1 := by kernel_rfl
    rw [c1] at e0 e1
    rw [c0] at e2
    simp at e0 e1 e2
    subst e0 e1 e2
    exact ⟨⟨g, p, d⟩, rfl, i64_of_wf hg, i64_of_wf hp, i64_of_wf hd⟩
theorem open_conds {t : TypeId} (ht : Tryz.prog.underlying t = some (.slice 57)) {v : Value} {fuel : Nat} {x : DataW H × List MemPlace} (h : DataW.trod enc Tryz.prog W 0 (fun _ => true) true fuel t [v] = some x) :
    ∃ l, CondsSl W v l ∧ ∀ k ∈ l, I64 k.pos ∧ I64 k.op ∧ I64 k.n := by
  obtain ⟨ao, len, cap, rfl, h1, h2, h3, hA⟩ := open_sl 3 ht (by kernel_rfl) (by decide) h
  by_cases h0 : 0 < len
  · obtain ⟨b, off, rfl, hc⟩ := hA h0
    obtain ⟨l, hl, hR, hcells⟩ := sl_of (W := W) (n := 3) (len := len) (f := CondD.cells) CondD.cells_len (by decide) (b := b) (off := off) (fun v => I64 v.pos ∧ I64 v.op ∧ I64 v.n) (fun i hi => by
      obtain ⟨cs, k, y, hl, hcell, ht'⟩ := hc i hi
      obtain ⟨v, hv, hsz⟩ := cond_of ht'
      subst hv
      exact ⟨v, hsz, hcell⟩)
    subst hl
    exact ⟨l, ⟨flat_len 3 _ CondD.cells_len l, _, cap, rfl, h1, h2, (fun h => by cases h), fun _ => ⟨b, off, rfl, hcells⟩⟩, hR⟩
  · obtain rfl : len = 0 := by omega
    exact ⟨[], ⟨by simp, ao, cap, rfl, h1, h2, h3, fun h => by simp at h⟩, by simp⟩
theorem agg_of {cs : List Value} {k : Nat} {y : DataW H × List MemPlace} (h : DataW.trod enc Tryz.prog W 0 (fun _ => true) true k 71 cs = some y) : ∃ v : AggD, cs = v.cells ∧ I64 v.kind ∧ v.metric.size ≤ 9223372036854775807 := by
  obtain ⟨y0, y1, n, _, hl, h0, h1⟩ := trod_struct2 Tryz.underlying71 h
  have hC : Tryz.prog.cellsOf 71 = 2 := by kernel_rfl
  rw [hC] at hl
  match cs, hl with
  | [a, b], _ =>
    obtain ⟨g, e0, _, hg⟩ := DataW.trod_int Tryz.underlying3 h0
    obtain ⟨s, e1, _, hs⟩ := DataW.trod_string Tryz.underlying9 h1
    have c0 : Tryz.prog.cellsOf 9 = 1 := by kernel_rfl
    have c1 : Tryz.prog.cellsOf 3 = 1 := by kernel_rfl
    rw [c1] at e0
    rw [c0] at e1
    simp at e0 e1
    subst e0 e1
    exact ⟨⟨g, s⟩, rfl, i64_of_wf hg, by unfold maxLen at hs; omega⟩
theorem open_aggs {t : TypeId} (ht : Tryz.prog.underlying t = some (.slice 71)) {v : Value} {fuel : Nat} {x : DataW H × List MemPlace} (h : DataW.trod enc Tryz.prog W 0 (fun _ => true) true fuel t [v] = some x) :
    ∃ l, AggsSl W v l ∧ ∀ k ∈ l, I64 k.kind ∧ k.metric.size ≤ 9223372036854775807 := by
  obtain ⟨ao, len, cap, rfl, h1, h2, h3, hA⟩ := open_sl 2 ht (by kernel_rfl) (by decide) h
  by_cases h0 : 0 < len
  · obtain ⟨b, off, rfl, hc⟩ := hA h0
    obtain ⟨l, hl, hR, hcells⟩ := sl_of (W := W) (n := 2) (len := len) (f := AggD.cells) AggD.cells_len (by decide) (b := b) (off := off) (fun v => I64 v.kind ∧ v.metric.size ≤ 9223372036854775807) (fun i hi => by
      obtain ⟨cs, k, y, hl, hcell, ht'⟩ := hc i hi
      obtain ⟨v, hv, hsz⟩ := agg_of ht'
      subst hv
      exact ⟨v, hsz, hcell⟩)
    subst hl
    exact ⟨l, ⟨flat_len 2 _ AggD.cells_len l, _, cap, rfl, h1, h2, (fun h => by cases h), fun _ => ⟨b, off, rfl, hcells⟩⟩, hR⟩
  · obtain rfl : len = 0 := by omega
    exact ⟨[], ⟨by simp, ao, cap, rfl, h1, h2, h3, fun h => by simp at h⟩, by simp⟩
end
end Go.Proofs.YtejleplhmkmegaaGreatDoor
/- Order: numbers as they are read. -/
namespace Go.Proofs.YtejleplhmkmegaaGreatDoor
set_option linter.unusedVariables false
set_option linter.unusedSimpArgs false
set_option maxRecDepth 100000
open Go.ChangeShapes Go.WideShapes Go.ChangeAt Go.RowKit Go.Joins Go.Deep Go.Fl
section
variable {H : Type} {enc : TypeId × Value → H} {W : World} {base : Nat}
theorem trod_float {t : TypeId} {fk : FloatKind} {cs : List Value} {fuel : Nat} {x : DataW H × List MemPlace} (ht : Tryz.prog.underlying t = some (.float fk)) (h : DataW.trod enc Tryz.prog W 0 (fun _ => true) true fuel t cs = some x) : ∃ b, cs = [.float fk b] ∧ (Lit.float fk b).wf = true := by
  cases fuel with
  | zero => simp [DataW.trod] at h
  | succ n =>
    unfold DataW.trod at h
    rw [ht] at h
    simp only at h
    split at h
    all_goals first | (simp at h; done) | skip
    all_goals (simp_all; try exact ⟨_, rfl, by simp_all⟩)
theorem num_of {cs : List Value} {k : Nat} {y : DataW H × List MemPlace} (h : DataW.trod enc Tryz.prog W 0 (fun _ => true) true k 63 cs = some y) : ∃ v : NumD, cs = v.cells ∧ NumOk v := by
  obtain ⟨y0, y1, y2, n, _, hl, h0, h1, h2⟩ := trod_struct3 Tryz.underlying63 h
  have hC : Tryz.prog.cellsOf 63 = 3 := by kernel_rfl
  rw [hC] at hl
  match cs, hl with
  | [a, b, c], _ =>
    obtain ⟨g, e0, _⟩ := DataW.trod_bool Tryz.underlying4 h0
    obtain ⟨p, e1, _, hp⟩ := DataW.trod_int Tryz.underlying2 h1
    obtain ⟨d, e2, hd⟩ := trod_float Tryz.underlying61 h2
    have c0 : Tryz.prog.cellsOf 4 = 1 := by kernel_rfl
    have c1 : Tryz.prog.cellsOf 2 = 1 := by kernel_rfl
    have c2 : Tryz.prog.cellsOf 61 = 1 := by kernel_rfl
    rw [c0] at e0
    rw [c1] at e1
    rw [c2] at e2
    simp at e0 e1 e2
    subst e0 e1 e2
    refine ⟨⟨p, g, d⟩, rfl, i64_of_wf hp, ?_⟩
    simpa [Lit.wf] using hd
theorem open_numsL {t : TypeId} (ht : Tryz.prog.underlying t = some (.slice 63)) {v : Value} {fuel : Nat} {x : DataW H × List MemPlace} (h : DataW.trod enc Tryz.prog W 0 (fun _ => true) true fuel t [v] = some x) :
    ∃ l, NumsSl W v l ∧ ∀ k ∈ l, NumOk k := by
  obtain ⟨ao, len, cap, rfl, h1, h2, h3, hA⟩ := open_sl 3 ht (by kernel_rfl) (by decide) h
  by_cases h0 : 0 < len
  · obtain ⟨b, off, rfl, hc⟩ := hA h0
    obtain ⟨l, hl, hR, hcells⟩ := sl_of (W := W) (n := 3) (len := len) (f := NumD.cells) NumD.cells_len (by decide) (b := b) (off := off) (fun v => NumOk v) (fun i hi => by
      obtain ⟨cs, k, y, hl, hcell, ht'⟩ := hc i hi
      obtain ⟨v, hv, hsz⟩ := num_of ht'
      subst hv
      exact ⟨v, hsz, hcell⟩)
    subst hl
    exact ⟨l, ⟨flat_len 3 _ NumD.cells_len l, _, cap, rfl, h1, h2, (fun h => by cases h), fun _ => ⟨b, off, rfl, hcells⟩⟩, hR⟩
  · obtain rfl : len = 0 := by omega
    exact ⟨[], ⟨by simp, ao, cap, rfl, h1, h2, h3, fun h => by simp at h⟩, by simp⟩
theorem open_line {v : Value} {d : DataW H} {p : List MemPlace} (hv : Value.okWide Tryz.prog W .any base 37 v) (h : DataW.Trod enc Tryz.prog W 0 (fun _ => true) true 37 v d p) :
    ∃ (s t : Int) (vk vn : Value) (l : LineD), v = .agg #[.int .i64 s, .int .i64 t, vk, vn] ∧ LineIs W vk vn l ∧ (∀ x ∈ l.key, x.s.size ≤ 9223372036854775807) ∧ I64 s ∧ I64 t := by
  obtain ⟨v0, v1, v2, v3, y0, y1, y2, y3, m, rfl, _, _, h0, h1, h2, h3⟩ := open_agg4 (P := Tryz.prog) Tryz.underlying37 (by kernel_rfl) (by kernel_rfl) hv h
  obtain ⟨s, e, _, hs⟩ := DataW.trod_int Tryz.underlying3 h0
  obtain ⟨t, e', _, ht⟩ := DataW.trod_int Tryz.underlying2 h1
  obtain ⟨lk, a1, a2⟩ := open_vals Tryz.underlying34 h2
  obtain ⟨ln, b1, b2⟩ := open_numsL Tryz.underlying35 h3
  simp at e e'
  subst e e'
  exact ⟨s, t, v2, v3, ⟨lk, ln⟩, rfl, ⟨a1, b1, b2⟩, a2, i64_of_wf hs, i64_of_wf ht⟩
end
end Go.Proofs.YtejleplhmkmegaaGreatDoor
/- Order: filters as they are read. -/
namespace Go.Proofs.YtejleplhmkmegaaGreatDoor
set_option linter.unusedVariables false
set_option linter.unusedSimpArgs false
set_option maxRecDepth 100000
open Go.ChangeShapes Go.WideShapes Go.ChangeAt Go.RowKit Go.Joins Go.Deep Go.Fl
theorem FilS.deeper {S : Nat → Prop} {w : World} : ∀ {d : Nat} {cs : List Value} {f : FilD}, FilS S w d cs f → FilS S w (d + 1) cs f
  | 0, cs, f, h => by simp [FilS] at h
  | d + 1, cs, .mk k n ws fr till l, h => by
    unfold FilS at h ⊢
    obtain ⟨vw, vl, rows, h1, h2, h3, h4, h5, h6, h7, h8⟩ := h
    exact ⟨vw, vl, rows, h1, h2, h3, h4, h5, h6, h7, fun i hi r hr => (h8 i hi r hr).deeper⟩
theorem SlS.all {w : World} {v : Value} {n size : Nat} {cs : List Value} (h : SlAt w v n size cs) : SlS (fun _ => True) w v n size cs := by
  obtain ⟨h0, ao, cap, rfl, h1, h2, h3, h⟩ := h
  refine ⟨h0, ao, cap, rfl, h1, h2, h3, fun hl => ?_⟩
  obtain ⟨b, off, rfl, hc⟩ := h hl
  exact ⟨b, off, rfl, trivial, hc⟩
theorem flatten_cells {rows : List (List Value)} (h6 : ∀ r ∈ rows, r.length = 6) {w : World} {b off : Nat} (h : ∀ i r, rows[i]? = some r → ∀ j u, r[j]? = some u → w.cell? ⟨b, off + (i * 6 + j), none⟩ = some u) :
    rows.flatten.length = rows.length * 6 ∧ ∀ j u, rows.flatten[j]? = some u → w.cell? ⟨b, off + j, none⟩ = some u := by
  have hl : rows.flatten.length = rows.length * 6 := by
    have e : rows.flatten = rows.flatMap id := by simp [List.flatMap]
    clear h
    rw [e]
    clear e
    induction rows with
    | nil => rfl
    | cons x l ih =>
      have hx := h6 x (by simp)
      rw [List.flatMap_cons, List.length_append, ih (fun r hr => h6 r (by simp [hr])), List.length_cons]
      simp only [id]
      omega
  refine ⟨hl, fun j u hj => ?_⟩
  have hj1 : j < rows.length * 6 := by rw [← hl]; exact (List.getElem?_eq_some_iff.1 hj).1
  have hq : j / 6 < rows.length := by omega
  have hr := List.getElem?_eq_getElem hq
  have e : j = j / 6 * 6 + j % 6 := by omega
  rw [e, flatten_at h6 hr (Nat.mod_lt _ (by decide))] at hj
  have := h _ _ hr _ _ hj
  rwa [← e] at this
section
variable {H : Type} {enc : TypeId × Value → H} {W : World} {base : Nat}
theorem trod_field {t : TypeId} {fs : Array Field} {fuel : Nat} {cs : List Value} {y : DataW H × List MemPlace} (ht : Tryz.prog.underlying t = some (.struct fs)) (h : DataW.trod enc Tryz.prog W 0 (fun _ => true) true fuel t cs = some y) (i : Nat) (T : TypeId) (o c : Nat) (hi : (fs[i]?.map fun f => (f.type, f.offset)) = some (T, o)) (hc : Tryz.prog.cellsOf T = c) :
    ∃ n x, fuel = n + 1 ∧ DataW.trod enc Tryz.prog W 0 (fun _ => true) true n T ((cs.drop o).take c) = some x := by
  obtain ⟨xs, n, hn, _, _, hx, hf⟩ := DataW.trod_struct ht h
  obtain ⟨f, hf1, hf2⟩ := Option.map_eq_some_iff.1 hi
  have h1 := hf i f hf1
  have hlt : i < fs.size := by
    rcases Nat.lt_or_ge i fs.size with h | h
    · exact h
    · rw [Array.getElem?_eq_none h] at hf1; cases hf1
  obtain ⟨a, b⟩ : f.type = T ∧ f.offset = o := by simpa using hf2
  rw [a, b, hc, List.getElem?_eq_getElem (by omega)] at h1
  exact ⟨n, _, hn, h1⟩
theorem filter_of : ∀ (fuel : Nat) {cs : List Value} {y : DataW H × List MemPlace}, DataW.trod enc Tryz.prog W 0 (fun _ => true) true fuel 29 cs = some y → ∃ f, FilS (fun _ => True) W (fuel + 1) cs f := by
  intro fuel
  induction fuel using Nat.strongRecOn with
  | ind fuel ih =>
  intro cs y h
  obtain ⟨_, _, _, _, hl, _, _⟩ := DataW.trod_struct Tryz.underlying29 h
  have hC : Tryz.prog.cellsOf 29 = 6 := by kernel_rfl
  rw [hC] at hl
  obtain ⟨n0, y0, _, h0⟩ := trod_field Tryz.underlying29 h 0 3 0 1 (by kernel_rfl) (by kernel_rfl)
  obtain ⟨n1, y1, _, h1⟩ := trod_field Tryz.underlying29 h 1 9 1 1 (by kernel_rfl) (by kernel_rfl)
  obtain ⟨n2, y2, _, h2⟩ := trod_field Tryz.underlying29 h 2 23 2 1 (by kernel_rfl) (by kernel_rfl)
  obtain ⟨n3, y3, _, h3⟩ := trod_field Tryz.underlying29 h 3 26 3 2 (by kernel_rfl) (by kernel_rfl)
  obtain ⟨n4, y4, hn4, h4⟩ := trod_field Tryz.underlying29 h 4 27 5 1 (by kernel_rfl) (by kernel_rfl)
  clear h
  match cs, hl with
  | [a, b, c, d, e, g], _ =>
    simp only [List.drop_succ_cons, List.drop_zero, List.take_succ_cons, List.take_zero] at h0 h1 h2 h3 h4
    obtain ⟨k, e0, _⟩ := DataW.trod_int Tryz.underlying3 h0
    obtain ⟨s, e1, _, hs⟩ := DataW.trod_string Tryz.underlying9 h1
    obtain ⟨ws, w1, w2⟩ := open_strs Tryz.underlying23 h2
    obtain ⟨z0, z1, _, _, _, g0, g1⟩ := trod_struct2 Tryz.underlying26 h3
    obtain ⟨fr, e3, _⟩ := DataW.trod_int Tryz.underlying2 g0
    obtain ⟨till, e4, _⟩ := DataW.trod_int Tryz.underlying2 g1
    have cI : Tryz.prog.cellsOf 2 = 1 := by kernel_rfl
    rw [cI] at e3 e4
    simp at e0 e1 e3 e4
    subst e0 e1 e3 e4
    have hsz : s.size ≤ 9223372036854775807 := by unfold maxLen at hs; omega
    rcases DataW.trod_slice Tryz.underlying27 h4 with ⟨hg, _⟩ | ⟨A, len, cap, elems, rest, n', hn', hg, _, _, hlc, hcm, hel, hit, _, _⟩
    · simp at hg
      subst hg
      refine ⟨.mk k s ws fr till [], ?_⟩
      unfold FilS
      exact ⟨_, _, [], rfl, hsz, SlS.all w1, w2, rfl, by simp, ⟨rfl, none, 0, rfl, Nat.le_refl _, by simp, fun _ => rfl, fun h => by simp at h⟩, fun i hi => by simp at hi⟩
    · simp at hg
      subst hg
      rw [hC] at hit
      have key : ∀ i, i < len → ∃ p : List Value × FilD, p.1.length = 6 ∧ (∀ j u, p.1[j]? = some u → W.cell? ((A.add (i * 6)).add j) = some u) ∧ FilS (fun _ => True) W fuel p.1 p.2 := fun i hi => by
        have h5 := hit i hi
        rw [List.getElem?_eq_getElem (by omega)] at h5
        obtain ⟨cs, hc, ht'⟩ := Option.bind_eq_some_iff.1 h5
        obtain ⟨_, hcl, hat⟩ := World.cells?_some hc
        obtain ⟨f, hf⟩ := ih n' (by omega) ht'
        refine ⟨(cs, f), hcl, fun j u hj => ?_, ?_⟩
        · rw [hat j (by have := (List.getElem?_eq_some_iff.1 hj).1; dsimp only at this; omega)]; exact hj
        · have := hf.deeper
          rwa [show n' + 1 + 1 = fuel by omega] at this
      haveI : Inhabited (List Value × FilD) := ⟨([], .mk 0 ⟨#[]⟩ [] 0 0 [])⟩
      obtain ⟨F, hF⟩ := choose_lt key
      obtain ⟨b, off, sp⟩ := A
      by_cases h0 : 0 < len
      · have hs : sp = none := by
          obtain ⟨p1, p2, _⟩ := hF 0 h0
          have := p2 0 _ (List.getElem?_eq_getElem (by omega))
          have := spot_none this
          simpa [Addr.add] using this
        subst hs
        have hr6 : ∀ r ∈ (List.range len).map (fun i => (F i).1), r.length = 6 := fun r hr => by
          obtain ⟨i, hi, rfl⟩ := List.mem_map.1 hr
          exact (hF i (List.mem_range.1 hi)).1
        obtain ⟨c1, c2⟩ := flatten_cells hr6 (w := W) (b := b) (off := off) (fun i r hr j u hj => by
          obtain ⟨hi, he⟩ := List.getElem?_eq_some_iff.1 hr
          simp at hi
          simp at he
          subst he
          have h6 := (hF i hi).2.1 j u hj
          have e1 : ((⟨b, off, none⟩ : Addr).add (i * 6)).add j = ⟨b, off + (i * 6 + j), none⟩ := by
            have ea : ∀ o m : Nat, (⟨b, o, none⟩ : Addr).add m = ⟨b, o + m, none⟩ := fun o m => by unfold Addr.add; split <;> simp_all
            rw [ea, ea, Nat.add_assoc]
          rw [e1] at h6
          exact h6)
        refine ⟨.mk k s ws fr till ((List.range len).map fun i => (F i).2), ?_⟩
        unfold FilS
        refine ⟨_, _, (List.range len).map (fun i => (F i).1), rfl, hsz, SlS.all w1, w2, by simp, hr6, ⟨by rw [c1]; simp, _, cap, by simp, by simp; exact hlc, hcm, (fun h => by cases h), fun _ => ⟨b, off, rfl, trivial, c2⟩⟩, fun i hi r hr => ?_⟩
        simp at hi
        simp [hi] at hr
        subst hr
        simpa using (hF i hi).2.2
      · obtain rfl : len = 0 := by omega
        refine ⟨.mk k s ws fr till [], ?_⟩
        unfold FilS
        exact ⟨_, _, [], rfl, hsz, SlS.all w1, w2, rfl, by simp, ⟨rfl, _, cap, rfl, hlc, hcm, (fun h => by cases h), fun h => by simp at h⟩, fun i hi => by simp at hi⟩
theorem open_sets {t : TypeId} (ht : Tryz.prog.underlying t = some (.slice 23)) {v : Value} {fuel : Nat} {x : DataW H × List MemPlace} (h : DataW.trod enc Tryz.prog W 0 (fun _ => true) true fuel t [v] = some x) :
    ∃ l, SetsSl W v l ∧ ∀ k ∈ l, ∀ s ∈ k, s.size ≤ 9223372036854775807 := by
  obtain ⟨ao, len, cap, rfl, h1, h2, h3, hA⟩ := open_sl 1 ht (by kernel_rfl) (by decide) h
  by_cases h0 : 0 < len
  · obtain ⟨b, off, rfl, hc⟩ := hA h0
    obtain ⟨l, hl, hR, hcells⟩ := sl_of (W := W) (n := 1) (len := len) (f := fun p : Value × List ByteArray => [p.1]) (fun _ => rfl) (by decide) (b := b) (off := off) (fun p => StrsSl W p.1 p.2 ∧ ∀ s ∈ p.2, s.size ≤ 9223372036854775807) (fun i hi => by
      obtain ⟨cs, k, y, hl, hcell, ht'⟩ := hc i hi
      match cs, hl with
      | [v], _ =>
        obtain ⟨ss, s1, s2⟩ := open_strs Tryz.underlying23 ht'
        exact ⟨(v, ss), ⟨s1, s2⟩, hcell⟩)
    subst hl
    rw [flat_one] at hcells
    refine ⟨l.map (·.2), ⟨l.map (·.1), by simp, ⟨by simp, _, cap, by simp, by simpa using h1, h2, (fun h => by cases h), fun _ => ⟨b, off, rfl, hcells⟩⟩, fun i hi x hx => ?_⟩, fun k hk => ?_⟩
    · simp at hi
      simp [hi] at hx
      subst hx
      simpa using (hR _ (List.getElem_mem hi)).1
    · obtain ⟨p, hp, rfl⟩ := List.mem_map.1 hk
      exact (hR p hp).2
  · obtain rfl : len = 0 := by omega
    exact ⟨[], ⟨[], rfl, ⟨by simp, ao, cap, rfl, h1, h2, h3, fun h => by simp at h⟩, fun i hi => by simp at hi⟩, by simp⟩
/-- What is known of a query that is read. -/
structure QryOk (d : QryD) : Prop where
  aggs : ∀ k ∈ d.aggs, I64 k.kind ∧ k.metric.size ≤ 9223372036854775807
  by_ : ∀ s ∈ d.by_, s.size ≤ 9223372036854775807
  mode : I64 d.mode
  sets : ∀ k ∈ d.sets, ∀ s ∈ k, s.size ≤ 9223372036854775807
  every : I64 d.every
  having : ∀ k ∈ d.having, I64 k.pos ∧ I64 k.op ∧ I64 k.n
  order : ∀ k ∈ d.order, I64 k.pos
  limit : I64 d.limit
theorem open_query {v : Value} {d : DataW H} {p : List MemPlace} (hv : Value.okWide Tryz.prog W .any base 33 v) (h : DataW.Trod enc Tryz.prog W 0 (fun _ => true) true 33 v d p) :
    ∃ (q : QryV) (dq : QryD), v = .agg q.cells ∧ QryIs W q dq ∧ QryOk dq := by
  obtain ⟨cs, rfl, hsz⟩ := okWide_struct Tryz.underlying33 hv
  have hC : Tryz.prog.cellsOf 33 = 14 := by kernel_rfl
  rw [hC] at hsz
  obtain ⟨fuel, h⟩ := h
  obtain ⟨n0, y0, _, h0⟩ := trod_field Tryz.underlying33 h 0 22 0 1 (by kernel_rfl) (by kernel_rfl)
  obtain ⟨n1, y1, _, h1⟩ := trod_field Tryz.underlying33 h 1 23 1 1 (by kernel_rfl) (by kernel_rfl)
  obtain ⟨n2, y2, _, h2⟩ := trod_field Tryz.underlying33 h 2 3 2 1 (by kernel_rfl) (by kernel_rfl)
  obtain ⟨n3, y3, _, h3⟩ := trod_field Tryz.underlying33 h 3 24 3 1 (by kernel_rfl) (by kernel_rfl)
  obtain ⟨n4, y4, _, h4⟩ := trod_field Tryz.underlying33 h 4 2 4 1 (by kernel_rfl) (by kernel_rfl)
  obtain ⟨n5, y5, _, h5⟩ := trod_field Tryz.underlying33 h 5 29 5 6 (by kernel_rfl) (by kernel_rfl)
  obtain ⟨n6, y6, _, h6⟩ := trod_field Tryz.underlying33 h 6 30 11 1 (by kernel_rfl) (by kernel_rfl)
  obtain ⟨n7, y7, _, h7⟩ := trod_field Tryz.underlying33 h 7 31 12 1 (by kernel_rfl) (by kernel_rfl)
  obtain ⟨n8, y8, _, h8⟩ := trod_field Tryz.underlying33 h 8 3 13 1 (by kernel_rfl) (by kernel_rfl)
  clear h hv
  obtain ⟨l⟩ := cs
  simp only [Value.cells] at h0 h1 h2 h3 h4 h5 h6 h7 h8
  match l, hsz with
  | [c0, c1, c2, c3, c4, c5, c6, c7, c8, c9, c10, c11, c12, c13], _ =>
    simp only [List.drop_succ_cons, List.drop_zero, List.take_succ_cons, List.take_zero] at h0 h1 h2 h3 h4 h5 h6 h7 h8
    obtain ⟨la, a1, a2⟩ := open_aggs Tryz.underlying22 h0
    obtain ⟨lb, b1, b2⟩ := open_strs Tryz.underlying23 h1
    obtain ⟨mode, e2, _, q2⟩ := DataW.trod_int Tryz.underlying3 h2
    obtain ⟨ls, s1, s2⟩ := open_sets Tryz.underlying24 h3
    obtain ⟨every, e4, _, q4⟩ := DataW.trod_int Tryz.underlying2 h4
    obtain ⟨f, hf⟩ := filter_of _ h5
    obtain ⟨lh, g1, g2⟩ := open_conds Tryz.underlying30 h6
    obtain ⟨lo, o1, o2⟩ := open_keys Tryz.underlying31 h7
    obtain ⟨limit, e8, _, q8⟩ := DataW.trod_int Tryz.underlying3 h8
    simp at e2 e4 e8
    subst e2 e4 e8
    obtain ⟨aa, ac, rfl, _⟩ := SlAt.shape a1
    obtain ⟨ba, bc, rfl, _⟩ := SlAt.shape b1
    obtain ⟨vs, hvl, vs1, vs2⟩ := s1
    obtain ⟨sa, sc, rfl, _⟩ := SlAt.shape vs1
    obtain ⟨k, n, aw, lw, cw, fr, till, al, ll, cl, he⟩ := hf.six
    simp only [List.cons.injEq, and_true] at he
    obtain ⟨rfl, rfl, rfl, rfl, rfl, rfl⟩ := he
    obtain ⟨ha, hc, rfl, _⟩ := SlAt.shape g1
    obtain ⟨oa, oc, rfl, _⟩ := SlAt.shape o1
    exact ⟨⟨aa, _, ac, ba, _, bc, mode, sa, _, sc, every, k, n, aw, lw, cw, fr, till, al, ll, cl, ha, _, hc, oa, _, oc, limit⟩, ⟨la, lb, mode, ls, every, f, lh, lo, limit⟩, rfl,
      ⟨a1, b1, rfl, ⟨vs, hvl, vs1, vs2⟩, rfl, ⟨_, hf⟩, g1, o1, rfl⟩, ⟨a2, b2, i64_of_wf q2, s2, i64_of_wf q4, g2, o2, i64_of_wf q8⟩⟩
end
end Go.Proofs.YtejleplhmkmegaaGreatDoor
/- strings.Builder, as this program has it: copyCheck, WriteByte, WriteString. -/
namespace Go.Proofs.YtejleplhmkmegaaGreatDoor
set_option linter.unusedVariables false
set_option linter.unusedSimpArgs false
open Go.ChangeShapes Go.WideShapes Go.ChangeAt Go.RowKit

theorem bld_info : ∃ j, Tryz.prog.info? 137 = some j ∧ j.size ≠ 0 := by
  have h : (Tryz.prog.info? 137).map (fun j => decide (j.size ≠ 0)) = some true := by kernel_rfl
  obtain ⟨j, h1, h2⟩ := Option.map_eq_some_iff.1 h
  exact ⟨j, h1, by simpa using h2⟩
set_option maxHeartbeats 1000000 in
set_option maxRecDepth 100000 in
theorem bld_used (b : Nat) (w : World) (h0 : w.cell? ⟨b, 0, none⟩ = some (.pointer (some ⟨b, 0, none⟩))) :
    Calls Tryz.prog 154 #[.pointer (some ⟨b, 0, none⟩)] w fun e w' => e = .returned (.tuple #[]) ∧ w' = w := by
  obtain ⟨j, hj, _⟩ := bld_info
  go_enter Tryz.func154, Tryz.ntmps154
  go_wp2
  rw [Lib.run_neq_ptr_same w _ Tryz.underlying134 hj]
  go_wp2
  go_end0
  exact ⟨rfl, rfl⟩
set_option maxHeartbeats 1000000 in
set_option maxRecDepth 100000 in
theorem bld_fresh (b : Nat) (w : World) (h0 : w.cell? ⟨b, 0, none⟩ = some (.pointer none)) (hsh : w.shape? b = some (137, 2)) (hfz : w.frozen? ⟨b, 0, none⟩ = false) :
    Calls Tryz.prog 154 #[.pointer (some ⟨b, 0, none⟩)] w fun e w' => e = .returned (.tuple #[]) ∧ w' = w.setCell ⟨b, 0, none⟩ (.pointer (some ⟨b, 0, none⟩)) := by
  obtain ⟨j, hj, hjs⟩ := bld_info
  go_enter Tryz.func154, Tryz.ntmps154
  go_wp2
  rw [Lib.run_to_unsafe w ⟨b, 0, none⟩ Tryz.underlying134 Tryz.underlying217 hj hjs hsh (Nat.zero_lt_succ 1)]
  simp only [Result.andThen]
  rw [Oper.upon_value]
  go_wp2
  rw [run_callFunc_extern Tryz.func205 (by kernel_rfl) (by kernel_rfl) (by kernel_rfl) (e := Extern.AbiNoEscape.same) (by kernel_rfl)]
  rw [Lib.run_noEscape]
  simp only [Result.andThen]
  rw [Oper.upon_value]
  go_wp2
  rw [Lib.run_from_unsafe w ⟨b, 0, none⟩ Tryz.underlying217 Tryz.underlying134 hj hsh (by kernel_rfl)]
  simp only [Result.andThen]
  rw [Oper.upon_value]
  go_wp2
  go_end0
  exact ⟨rfl, rfl⟩

abbrev BldAt (B b : Nat) (p : Value) (bs : List Value) (w : World) : Prop := Lib.BuilderAt 137 5 B b p bs w
abbrev Bld (B b : Nat) (bs : List Value) (w : World) : Prop := Lib.IsBuilder 137 5 B b bs w
abbrev Others (b : Nat) (w w' : World) : Prop := Lib.OthersKept 5 (some b) w w'

theorem copyCheck_any (B b : Nat) (bs : List Value) (w : World) (h : Bld B b bs w) :
    Calls Tryz.prog 154 #[.pointer (some ⟨b, 0, none⟩)] w fun e w' => e = .returned (.tuple #[]) ∧ BldAt B b (.pointer (some ⟨b, 0, none⟩)) bs w' ∧ Below B w w' ∧ Others b w w' := by
  rcases h with h | h
  · refine (bld_fresh b w h.cell0 h.shape h.frozen0).mono ?_
    rintro e w' ⟨rfl, rfl⟩
    exact ⟨rfl, h.used _, (Below.refl B w).setCell (p := ⟨b, 0, none⟩) h.1 _, (Lib.OthersKept.refl _ _ w).setCell ⟨b, 0, none⟩ rfl _⟩
  · refine (bld_used b w h.cell0).mono ?_
    rintro e w' ⟨rfl, rfl⟩
    exact ⟨rfl, h, Below.refl B _, Lib.OthersKept.refl _ _ _⟩

theorem info_u8b : (Tryz.prog.info? 5).map (fun i => (i.zero, i.size, i.bytes)) = some (some (.int .u8 0), 1, 1) := by kernel_rfl
theorem row_is {w : World} {B : Nat} {e : TypeId} {v : Value} {n : Nat} {xs : List Value} (h : w.ownsRow B e 1 v n xs) : ∀ g, v.ownBlock = some g → ∃ c fz, w.heap[g]? = some (.cells c e fz) := by
  intro g hg
  rcases h.2 with ⟨rfl, _⟩ | ⟨g', cap, cur, rfl, _, hh, _⟩
  · cases hg
  · cases hg; exact ⟨_, _, hh⟩

set_option maxHeartbeats 1000000 in
set_option maxRecDepth 100000 in
theorem writeByte_any (B b : Nat) (bs : List Value) (c : Int) (w : World) (h : Bld B b bs w) (hlen : bs.length + 1 ≤ 140737488355328) (hBw : B ≤ w.heap.size) :
    Calls Tryz.prog 82 #[.pointer (some ⟨b, 0, none⟩), .int .u8 c] w fun e w' => e = .returned .nilIface ∧ BldAt B b (.pointer (some ⟨b, 0, none⟩)) (bs ++ [.int .u8 c]) w' ∧ Below B w w' ∧ Others b w w' := by
  obtain ⟨i0, hi, hz0, hz1, hz2⟩ := info_parts info_u8b
  go_enter Tryz.func82, Tryz.ntmps82
  go_wp2_with (go_at_call 154; refine (copyCheck_any B b bs _ h).mono ?_)
  rintro e w1 ⟨rfl, h1, hb1, hk1⟩
  obtain ⟨hB, v, hbk, hown, hne⟩ := h1
  have c0 : w1.cell? ⟨b, 0, none⟩ = some (.pointer (some ⟨b, 0, none⟩)) := by rw [Lib.cell_of_heap hbk]; rfl
  have c1 : w1.cell? ⟨b, 1, none⟩ = some v := by rw [Lib.cell_of_heap hbk]; rfl
  have hz := hb1.size
  have hlt : b < w1.heap.size := lt_of_block hbk
  go_wp2_with (at_builtin; refine wpList_append_own _ rfl _ _ 135 rfl B 5 i0 (.int .u8 0) 1 1 Tryz.underlying135 hi hz0 hz1 hz2 rfl (by decide) _ _ _ rfl (hown.alloc _) ⟨w1.heap.size, 0, none⟩ 1 1 [.int .u8 c] rfl rfl ?c1 ?c2 ?c3 ?c4 ?c5 ?_)
  case c1 =>
    intro j u hj
    match j, hj with
    | 0, hj => simp at hj; subst hj; simp [Addr.add]
  case c2 => intro u hu; simp at hu; subst hu; rfl
  case c3 => unfold maxLen; omega
  case c4 => omega
  case c5 => simp; omega
  intro v' w2 hown' hgrow hnil
  have hb2 : w2.heap[b]? = some (.cells #[.pointer (some ⟨b, 0, none⟩), v] 137 (0, 0)) := by
    rw [hgrow.block b (by simp; omega) (fun e => hne e.symm), Lib.alloc_old w1 _ b hlt]
    exact hbk
  have d0 : w2.cell? ⟨b, 0, none⟩ = some (.pointer (some ⟨b, 0, none⟩)) := by rw [Lib.cell_of_heap hb2]; rfl
  have d1 : w2.cell? ⟨b, 1, none⟩ = some v := by rw [Lib.cell_of_heap hb2]; rfl
  have f1 : w2.frozen? ⟨b, 1, none⟩ = false := Lib.frozen_of_heap hb2 1
  have hk2 : Others b w w2 := (hk1.alloc _).grown hgrow (row_is (hown.alloc _))
  have hbB : Below B w w2 := (hb1.alloc (by omega) _).grown hgrow (by simp; omega) (fun r e => (hown.lt r e).1)
  have hbl : (bs ++ [Value.int .u8 c]).length = bs.length + 1 := by simp
  have hown2 : w2.ownsRow B 5 1 v' (bs ++ [Value.int .u8 c]).length (bs ++ [Value.int .u8 c]) := by rw [hbl]; exact hown'
  obtain ⟨g, cap, rfl⟩ : ∃ g cap, v' = .slice (some ⟨g, 0, none⟩) (bs.length + 1) cap := by
    rcases hown'.2 with ⟨_, h0⟩ | ⟨g, cap, cur, hv, _⟩
    · omega
    · exact ⟨g, cap, hv⟩
  clear hown hown' hbk hbl h hgrow hnil
  go_wp2
  go_ret
  exact ⟨rfl, Lib.BuilderAt.put hB hb2 hown2 (by decide), hbB.setCell hB _, hk2.setCell _ rfl _⟩
end Go.Proofs.YtejleplhmkmegaaGreatDoor
/- strings.Builder, as this program has it: WriteString. -/
namespace Go.Proofs.YtejleplhmkmegaaGreatDoor
set_option linter.unusedVariables false
set_option linter.unusedSimpArgs false
open Go.ChangeShapes Go.WideShapes Go.ChangeAt Go.RowKit

set_option maxHeartbeats 1000000 in
set_option maxRecDepth 100000 in
theorem writeString_any (B b : Nat) (bs : List Value) (s : ByteArray) (w : World) (h : Bld B b bs w) (hlen : bs.length + s.size ≤ 140737488355328) (hBw : B ≤ w.heap.size) :
    Calls Tryz.prog 84 #[.pointer (some ⟨b, 0, none⟩), .string s] w fun e w' => e = .returned (.tuple #[.int .i64 (s.size : Int), .nilIface]) ∧ BldAt B b (.pointer (some ⟨b, 0, none⟩)) (bs ++ Lib.strCells s) w' ∧ Below B w w' ∧ Others b w w' := by
  obtain ⟨i0, hi, hz0, hz1, hz2⟩ := info_parts info_u8b
  go_enter Tryz.func84, Tryz.ntmps84
  go_wp2_with (go_at_call 154; refine (copyCheck_any B b bs _ h).mono ?_)
  rintro e w1 ⟨rfl, h1, hb1, hk1⟩
  obtain ⟨hB, v, hbk, hown, hne⟩ := h1
  have c0 : w1.cell? ⟨b, 0, none⟩ = some (.pointer (some ⟨b, 0, none⟩)) := by rw [Lib.cell_of_heap hbk]; rfl
  have c1 : w1.cell? ⟨b, 1, none⟩ = some v := by rw [Lib.cell_of_heap hbk]; rfl
  have hz := hb1.size
  have hlt : b < w1.heap.size := lt_of_block hbk
  go_wp2_with (at_builtin; go_loud (refine Lib.wpList_append_own_string _ rfl _ _ 135 9 rfl B 5 i0 Tryz.underlying135 Tryz.underlying9 hi hz0 hz1 hz2 _ _ _ rfl hown s rfl (by unfold maxLen; omega) (by omega) (by omega) ?_))
  intro v' w2 hown' hgrow hnil
  have hb2 : w2.heap[b]? = some (.cells #[.pointer (some ⟨b, 0, none⟩), v] 137 (0, 0)) := by
    rw [hgrow.block b (by omega) (fun e => hne e.symm)]
    exact hbk
  have d0 : w2.cell? ⟨b, 0, none⟩ = some (.pointer (some ⟨b, 0, none⟩)) := by rw [Lib.cell_of_heap hb2]; rfl
  have d1 : w2.cell? ⟨b, 1, none⟩ = some v := by rw [Lib.cell_of_heap hb2]; rfl
  have f1 : w2.frozen? ⟨b, 1, none⟩ = false := Lib.frozen_of_heap hb2 1
  have hk2 : Others b w w2 := hk1.grown hgrow (row_is hown)
  have hbB : Below B w w2 := hb1.grown hgrow (by omega) (fun r e => (hown.lt r e).1)
  have hbl : (bs ++ Lib.strCells s).length = bs.length + s.size := by rw [List.length_append, Lib.strCells_length]
  have hown2 : w2.ownsRow B 5 1 v' (bs ++ Lib.strCells s).length (bs ++ Lib.strCells s) := by rw [hbl]; exact hown'
  obtain ⟨ao, cap, rfl⟩ := hown'.shape
  clear hown hown' hbk hbl h hgrow hnil
  go_wp2
  go_ret2
  exact ⟨rfl, Lib.BuilderAt.put hB hb2 hown2 (by decide), hbB.setCell hB _, hk2.setCell _ rfl _⟩
theorem bld_below {B b : Nat} {p : Value} {bs : List Value} {w w' : World} (h : BldAt B b p bs w) (hb : Below w.heap.size w w') : BldAt B b p bs w' := by
  obtain ⟨h1, v, hbk, hown, hne⟩ := h
  exact ⟨h1, v, (hb.block b (lt_of_block hbk)).trans hbk, hown.kept (row := none) ⟨hb.os, hb.tape, hb.output, hb.size, fun i hi _ => hb.block i hi⟩ (by cases v.ownBlock <;> simp), hne⟩
theorem Bld.below {B b : Nat} {bs : List Value} {w w' : World} (h : Bld B b bs w) (hb : Below w.heap.size w w') : Bld B b bs w' := by
  rcases h with h | h
  · exact .inl (bld_below h hb)
  · exact .inr (bld_below h hb)
/-- A new one. -/
theorem Bld.new (w : World) : Bld w.heap.size w.heap.size [] (w.alloc (.cells #[.pointer none, .slice none 0 0] 137)) :=
  .inl ⟨Nat.le_refl _, _, heap_at rfl, World.ownsRow_nil _ _ _ _, by simp [Value.ownBlock]⟩
/-- Cells below what the builder may have. -/
theorem cell_low {B b o : Nat} {v : Value} {w w' : World} (h : w.cell? ⟨b, o, none⟩ = some v) (hb : Below B w w') (hlt : b < B) : w'.cell? ⟨b, o, none⟩ = some v := (hb.cell (p := ⟨b, o, none⟩) hlt).trans h
theorem str_join (P : List UInt8) (s : ByteArray) : Lib.strCells (({ data := P.toArray } : ByteArray) ++ s) = Lib.byteCells (P ++ s.data.toList) := by
  rw [Lib.strCells_eq, ByteArray.data_append]
  simp
theorem size_join (P : List UInt8) (s : ByteArray) : (({ data := P.toArray } : ByteArray) ++ s).size = P.length + s.size := by
  rw [ByteArray.size_append]; rfl
end Go.Proofs.YtejleplhmkmegaaGreatDoor
/- Order: a word as a string, where it is plain. -/
namespace Go.Proofs.YtejleplhmkmegaaGreatDoor
set_option linter.unusedVariables false
set_option linter.unusedSimpArgs false
set_option maxRecDepth 100000
open Go.ChangeShapes Go.WideShapes Go.ChangeAt Go.RowKit Go.Fl
attribute [local go_sem] Oper.semAt_some

theorem bld_iterAt {B b : Nat} {p : Value} {bs : List Value} {w : World} (h : BldAt B b p bs w) {k : Nat} {s : ByteArray} {pos : Nat} (hk : w.heap[k]? = some (.stringIter s pos)) (pos' : Nat) : BldAt B b p bs (w.iterAt k s pos') := by
  obtain ⟨hB, v, hb, hown, hne⟩ := h
  have hkb : b ≠ k := by
    intro e1
    rw [e1, hk] at hb
    cases hb
  refine ⟨hB, v, (Lib.iterAt_other w k b s pos' hkb).trans hb, ⟨hown.1, ?_⟩, hne⟩
  rcases hown.2 with hn | ⟨g, cap, cur, hv, hbg, hg, rest⟩
  · exact .inl hn
  · have hkg : g ≠ k := by
      intro e1
      rw [e1, hk] at hg
      cases hg
    exact .inr ⟨g, cap, cur, hv, hbg, (Lib.iterAt_other w k g s pos' hkg).trans hg, rest⟩
set_option maxHeartbeats 1000000 in
theorem writeRune_any (B b : Nat) (bs : List Value) (r : Int) (w : World) (hr0 : -2147483648 ≤ r) (hr1 : r ≤ 2147483647) (h : Bld B b bs w) (hlen : bs.length + 4 ≤ 140737488355328) (hBw : B ≤ w.heap.size) :
    Calls Tryz.prog 83 #[.pointer (some ⟨b, 0, none⟩), .int .i32 r] w fun e w' => (∃ n, e = .returned (.tuple #[.int .i64 n, .nilIface])) ∧ BldAt B b (.pointer (some ⟨b, 0, none⟩)) (bs ++ Lib.runeCells r) w' ∧ Below B w w' ∧ Others b w w' := by
  go_enter Tryz.func83, Tryz.ntmps83
  go_wp2_with (go_at_call 154; refine (copyCheck_any B b bs _ h).mono ?_)
  rintro e w1 ⟨rfl, h1, hb1, hk1⟩
  obtain ⟨hB, v, hbk, hown, hne⟩ := h1
  obtain ⟨ao, cap, rfl⟩ := hown.shape
  have c0 : w1.cell? ⟨b, 0, none⟩ = some (.pointer (some ⟨b, 0, none⟩)) := by rw [Lib.cell_of_heap hbk]; rfl
  have c1 : w1.cell? ⟨b, 1, none⟩ = some (.slice ao bs.length cap) := by rw [Lib.cell_of_heap hbk]; rfl
  have hz := hb1.size
  have hlt : b < w1.heap.size := lt_of_block hbk
  have AR := hid (Tryz.utf8_AppendRune_plain B _ _ bs r hr0 hr1 w1 hown hlen (by omega))
  go_wp2_with (go_at_call 155; refine (AR.out).mono ?_)
  rintro e w2 ⟨v', rfl, hown', o, hgrow⟩
  have hb2 : w2.heap[b]? = some (.cells #[.pointer (some ⟨b, 0, none⟩), .slice ao bs.length cap] 137 (0, 0)) := by
    rw [hgrow.block b (by simp; omega) (fun e => hne e.symm), Lib.alloc_old w1 _ b hlt]
    exact hbk
  have d0 : w2.cell? ⟨b, 0, none⟩ = some (.pointer (some ⟨b, 0, none⟩)) := by rw [Lib.cell_of_heap hb2]; rfl
  have d1 : w2.cell? ⟨b, 1, none⟩ = some (.slice ao bs.length cap) := by rw [Lib.cell_of_heap hb2]; rfl
  have f1 : w2.frozen? ⟨b, 1, none⟩ = false := Lib.frozen_of_heap hb2 1
  have hk2 : Others b w w2 := (hk1.alloc _).grown hgrow (row_is (hown.alloc _))
  have hbB : Below B w w2 := (hb1.alloc (by omega) _).grown hgrow (by simp; omega) (fun r e => (hown.lt r e).1)
  have hbl : (bs ++ Lib.runeCells r).length = bs.length + (Lib.runeCells r).length := by simp
  have hown2 : w2.ownsRow B 5 1 v' (bs ++ Lib.runeCells r).length (bs ++ Lib.runeCells r) := by rw [hbl]; exact hown'
  obtain ⟨ao2, cap2, rfl⟩ := hown'.shape
  clear hown hown' hbk hbl h hgrow
  generalize (Lib.runeCells r).length = m at *
  go_wp2
  go_ret2
  exact ⟨⟨_, rfl⟩, Lib.BuilderAt.put hB hb2 hown2 (by decide), hbB.setCell hB _, hk2.setCell _ rfl _⟩
theorem lt_of_iter {w : World} {b : Nat} {o : Obj} (h : w.heap[b]? = some o) : b < w.heap.size := (Array.getElem?_eq_some_iff.1 h).1
/-- Signs that stand in a string as they are. -/
def plainC (c : UInt8) : Prop := 32 ≤ c.toNat ∧ c.toNat ≤ 126 ∧ c.toNat ≠ 34 ∧ c.toNat ≠ 92
set_option maxHeartbeats 2000000 in
theorem quoted_plain (l : List UInt8) (hl : ∀ c ∈ l, plainC c) (hn : l.length ≤ 1000) (w : World) :
    Calls Tryz.prog 46 #[strL l] w fun e w' => e = .returned (strL (34 :: (l ++ [34]))) ∧ Below w.heap.size w w' := by
  have HL := hid hl
  obtain ⟨s, hs⟩ : ∃ s : ByteArray, s = { data := l.toArray } := ⟨_, rfl⟩
  have hss : s.size = l.length := by rw [hs]; rfl
  have HS : Hid (∀ k (h : k < s.size) (h2 : k < l.length), s[k]'h = l[k]) := fun k h h2 => by subst hs; rfl
  unfold strL
  rw [← hs]
  clear hl hs
  go_enter Tryz.func46, Tryz.ntmps46
  go_wp2_with (go_at_call 82; go_loud ((with_reducible refine (writeByte_any w.heap.size w.heap.size [] 34 _ (Bld.new w) (by simp) (by simp)).mono ?_); rintro e w1 ⟨rfl, h1, hb1, hk1⟩))
  have hB1 : Below w.heap.size w w1 := ((Below.refl _ _).alloc (Nat.le_refl _) _).trans hb1
  have hzb : w.heap.size < w1.heap.size := Nat.lt_of_lt_of_le (by simp) hb1.size
  have H1 := hid h1; have HB1 := hid hB1
  clear h1 hb1 hk1 hB1
  go_loopw [4, 5, 6, 7, 9] (fun _ _ _ _ _ wr => ∃ k : Nat, k ≤ l.length ∧ wr.heap[w1.heap.size]? = some (.stringIter s k) ∧ BldAt w.heap.size w.heap.size (.pointer (some ⟨w.heap.size, 0, none⟩)) (Lib.byteCells (34 :: l.take k)) wr ∧ Below w.heap.size w wr ∧ w1.heap.size < wr.heap.size) (fun _ _ _ _ _ wr => l.length - wr.iterPos w1.heap.size)
  case atStart =>
    refine ⟨0, Nat.zero_le _, World.iter_heap _ _ _, ?_, ?_, by simp [World.iter]⟩
    · exact bld_below H1.out (Below.new (Below.refl _ _) _)
    · exact HB1.out.new _
  case round =>
    obtain ⟨k, hk, hit, hbd, hbw, hz⟩ := hrel
    have hpos : wr.iterPos w1.heap.size = k := by simp [World.iterPos, hit]
    have HP := hid hpos
    by_cases hlt : k < l.length
    · have hks : k < s.size := by omega
      have hc := HS.out k hks hlt
      obtain ⟨p1, p2, p3, p4⟩ := HL.out l[k] (List.getElem_mem hlt)
      have hnx := Lib.run_next_ascii_at (P := Tryz.prog) wr w1.heap.size s k 0 hit hks (by rw [hc]; omega)
      rw [hc] at hnx
      have hbd2 := bld_iterAt hbd hit (k + 1)
      have hbw2 := Lib.below_iterAt hbw (show w.heap.size ≤ w1.heap.size by omega) s (k + 1)
      have hit2 := Lib.iterAt_heap wr w1.heap.size s k (k + 1) hit
      have hz2 := Lib.iterAt_size wr w1.heap.size s (k + 1)
      have HT : Hid (Lib.byteCells (34 :: l.take (k + 1)) = Lib.byteCells (34 :: l.take k) ++ [Value.int .u8 (l[k].toNat : Int)]) := by
        unfold Hid Lib.byteCells
        rw [List.take_succ_eq_append_getElem hlt, ← List.cons_append, List.map_append]
        rfl
      have HR : Hid (Lib.runeCells (l[k].toNat : Int) = [Value.int .u8 (l[k].toNat : Int)]) := by
        unfold Hid Lib.runeCells
        rw [Lib.encodeRuneZ_one (by omega) (by omega)]
        rfl
      have hlen : (Lib.byteCells (34 :: l.take k)).length + 4 ≤ 140737488355328 := by
        rw [Lib.byteCells_length, List.length_cons, List.length_take]; omega
      obtain ⟨X, hX⟩ : ∃ X, wr.iterAt w1.heap.size s (k + 1) = X := ⟨_, rfl⟩
      rw [hX] at hnx hbd2 hbw2 hit2 hz2
      obtain ⟨v, hv⟩ : ∃ v : Int, (l[k].toNat : Int) = v := ⟨_, rfl⟩
      rw [hv] at HT HR hnx
      have v1 : ¬ v < 32 := by omega
      have v2 : ¬ 126 < v := by omega
      have v3 : (v == 34) = false := by simp; omega
      have v4 : (v == 92) = false := by simp; omega
      have v5 : 32 ≤ v := by omega
      have v6 : v ≤ 126 := by omega
      generalize Lib.byteCells (34 :: l.take k) = bs at *
      have WR := hid (writeRune_any w.heap.size w.heap.size bs v X (by omega) (by omega) (.inr hbd2) hlen (by omega))
      have HBW := hid hbw2; have HIT := hid hit2; have HLT := hid hlt
      clear hX hit hbd hbw hbd2 hbw2 hc p1 p2 p3 p4 hks hpos hlt hv
      go_wp2_with (go_at_call 83; go_loud ((with_reducible refine (WR.out).mono ?_); rintro e w2 ⟨⟨nn, rfl⟩, hbd3, hb2, hk2⟩))
      go_roundw
      case rel =>
        have hit3 := Lib.OthersKept.iter hk2 HIT.out (by omega)
        refine ⟨k + 1, HLT.out, hit3, by rw [HT.out, ← HR.out]; exact hbd3, HBW.out.trans hb2, lt_of_iter hit3⟩
      case measure =>
        have hit3 := Lib.OthersKept.iter hk2 HIT.out (by omega)
        have : w2.iterPos w1.heap.size = k + 1 := by simp [World.iterPos, hit3]
        rw [this, HP.out]
        have := HLT.out
        omega
    · obtain rfl : k = l.length := by omega
      have hnx := Lib.run_next_end_at (P := Tryz.prog) wr w1.heap.size s _ 0 hit (show ¬ l.length < s.size by omega)
      rw [List.take_length] at hbd
      have hlen : (Lib.byteCells (34 :: l)).length + 1 ≤ 140737488355328 := by rw [Lib.byteCells_length, List.length_cons]; omega
      have HW := hid (writeByte_any w.heap.size w.heap.size _ 34 wr (.inr hbd) hlen (by omega))
      have HBW := hid hbw
      have HE : Hid (Lib.byteCells (34 :: (l ++ [34])) = Lib.byteCells (34 :: l) ++ [.int .u8 34]) := by unfold Hid Lib.byteCells; simp
      clear hit hbd hbw hlen hpos
      go_wp2_with (first
        | (go_at_call 82; go_loud ((with_reducible refine (HW.out).mono ?_); rintro e w2 ⟨rfl, hbd3, hb2, hk2⟩; rw [← HE.out] at hbd3; have HST := hid (Tryz.Builder_String_any w.heap.size w.heap.size _ w2 (.inr hbd3) (by have := hb2.size; omega))))
        | (go_at_call 86; go_loud ((with_reducible refine (HST.out).mono ?_); rintro e w3 ⟨rfl, hb3⟩)))
      go_ret
      exact ⟨rfl, (HBW.out.trans hb2).trans hb3⟩
end Go.Proofs.YtejleplhmkmegaaGreatDoor
