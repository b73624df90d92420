/- Schemas: the reference's 'Dim', 'Metric', 'Fits'. -/
import Derived.Test.YtdgeinipdphoeaaSchJ
namespace Go.Proofs.Ytdgeinipdphoeaa
set_option linter.unusedVariables false
set_option linter.unusedSimpArgs false
set_option maxRecDepth 100000
open Go.ChangeShapes Go.WideShapes Go.ChangeAt Go.RowKit

theorem placeI_false (r : Int) : placeI false r = 0 := by simp [placeI]
theorem placeB_false (r : Int) : placeB false r = false := by simp [placeB]

set_option maxHeartbeats 1000000 in
theorem refDim_any (vd vm : Value) (ds ms : List ByteArray) (g : Int) (x : ByteArray) (w : World) (hd : StrsSl w vd ds) (hm : StrsSl w vm ms) (td : Texts ds) (tm : Texts ms) :
    Calls Try.prog 18 #[.agg #[vd, vm, .int .i64 g], .string x] w fun e w' => e = .returned (.tuple #[.int .i64 (placeI (rightS ds ms g) (Lib.idxOfS ds x)), .bool (placeB (rightS ds ms g) (Lib.idxOfS ds x))]) ∧ Below w.heap.size w w' := by
  have HR := hid (fun W (h : Below w.heap.size w W) => refRight_any vd vm ds ms g W (hd.below h) (hm.below h) td tm)
  have HP := hid (fun W (h : Below w.heap.size w W) => refPlace_any vd ds x W (hd.below h) td)
  obtain ⟨ad, cd, rfl, _, _, _⟩ := SlAt.shape hd
  obtain ⟨am, cm, rfl, _, _, _⟩ := SlAt.shape hm
  clear hd hm td tm
  generalize Lib.idxOfS ds x = r at *
  generalize ds.length = nd at *
  generalize ms.length = nm at *
  generalize rightS ds ms g = rs at *
  cases rs with
  | false =>
    rw [placeI_false, placeB_false]
    go_enter Try.func18, Try.ntmps18
    go_wp2_with (go_at_call 22; ((with_reducible refine (HR.out _ (by (repeat' (first | (with_reducible exact Below.refl _ _) | (with_reducible assumption) | (with_reducible refine Below.new ?_ _) | (with_reducible refine Below.alloc ?_ ?_ _) | (with_reducible refine Below.drew ?_) | (with_reducible refine Below.drewN ?_ _) | (with_reducible refine Below.setCell ?_ ?_ _) | (refine Below.step ?_ (by assumption)) | go_size)))).mono ?_); rintro e w1 ⟨rfl, hb1⟩; obtain ⟨hc1, hf1, hk1, hz1⟩ := bcell3 hb1; (try simp only [World.size_alloc] at hz1); have : w.heap.size < w1.heap.size := (by omega)))
    go_ret2
    exact ⟨rfl, by (repeat' (first | (with_reducible exact Below.refl _ _) | (with_reducible assumption) | (with_reducible refine Below.new ?_ _) | (with_reducible refine Below.alloc ?_ ?_ _) | (with_reducible refine Below.drew ?_) | (with_reducible refine Below.drewN ?_ _) | (with_reducible refine Below.setCell ?_ ?_ _) | (refine Below.step ?_ (by assumption)) | go_size))⟩
  | true =>
    generalize placeI true r = pi at *
    generalize placeB true r = pb at *
    go_enter Try.func18, Try.ntmps18
    go_wp2_with (first
      | (go_at_call 22; ((with_reducible refine (HR.out _ (by (repeat' (first | (with_reducible exact Below.refl _ _) | (with_reducible assumption) | (with_reducible refine Below.new ?_ _) | (with_reducible refine Below.alloc ?_ ?_ _) | (with_reducible refine Below.drew ?_) | (with_reducible refine Below.drewN ?_ _) | (with_reducible refine Below.setCell ?_ ?_ _) | (refine Below.step ?_ (by assumption)) | go_size)))).mono ?_); rintro e w1 ⟨rfl, hb1⟩; obtain ⟨hc1, hf1, hk1, hz1⟩ := bcell3 hb1; (try simp only [World.size_alloc] at hz1); have : w.heap.size < w1.heap.size := (by omega)))
      | (go_at_call 46; ((with_reducible refine (HP.out _ (by (repeat' (first | (with_reducible exact Below.refl _ _) | (with_reducible assumption) | (with_reducible refine Below.new ?_ _) | (with_reducible refine Below.alloc ?_ ?_ _) | (with_reducible refine Below.drew ?_) | (with_reducible refine Below.drewN ?_ _) | (with_reducible refine Below.setCell ?_ ?_ _) | (refine Below.step ?_ (by assumption)) | go_size)))).mono ?_); rintro e w2 ⟨rfl, rfl⟩)))
    go_ret2
    exact ⟨rfl, by (repeat' (first | (with_reducible exact Below.refl _ _) | (with_reducible assumption) | (with_reducible refine Below.new ?_ _) | (with_reducible refine Below.alloc ?_ ?_ _) | (with_reducible refine Below.drew ?_) | (with_reducible refine Below.drewN ?_ _) | (with_reducible refine Below.setCell ?_ ?_ _) | (refine Below.step ?_ (by assumption)) | go_size))⟩

set_option maxHeartbeats 1000000 in
theorem refMetric_any (vd vm : Value) (ds ms : List ByteArray) (g : Int) (x : ByteArray) (w : World) (hd : StrsSl w vd ds) (hm : StrsSl w vm ms) (td : Texts ds) (tm : Texts ms) :
    Calls Try.prog 20 #[.agg #[vd, vm, .int .i64 g], .string x] w fun e w' => e = .returned (.tuple #[.int .i64 (placeI (rightS ds ms g) (Lib.idxOfS ms x)), .bool (placeB (rightS ds ms g) (Lib.idxOfS ms x))]) ∧ Below w.heap.size w w' := by
  have HR := hid (fun W (h : Below w.heap.size w W) => refRight_any vd vm ds ms g W (hd.below h) (hm.below h) td tm)
  have HP := hid (fun W (h : Below w.heap.size w W) => refPlace_any vm ms x W (hm.below h) tm)
  obtain ⟨ad, cd, rfl, _, _, _⟩ := SlAt.shape hd
  obtain ⟨am, cm, rfl, _, _, _⟩ := SlAt.shape hm
  clear hd hm td tm
  generalize Lib.idxOfS ms x = r at *
  generalize ds.length = nd at *
  generalize ms.length = nm at *
  generalize rightS ds ms g = rs at *
  cases rs with
  | false =>
    rw [placeI_false, placeB_false]
    go_enter Try.func20, Try.ntmps20
    go_wp2_with (go_at_call 22; ((with_reducible refine (HR.out _ (by (repeat' (first | (with_reducible exact Below.refl _ _) | (with_reducible assumption) | (with_reducible refine Below.new ?_ _) | (with_reducible refine Below.alloc ?_ ?_ _) | (with_reducible refine Below.drew ?_) | (with_reducible refine Below.drewN ?_ _) | (with_reducible refine Below.setCell ?_ ?_ _) | (refine Below.step ?_ (by assumption)) | go_size)))).mono ?_); rintro e w1 ⟨rfl, hb1⟩; obtain ⟨hc1, hf1, hk1, hz1⟩ := bcell3 hb1; (try simp only [World.size_alloc] at hz1); have : w.heap.size < w1.heap.size := (by omega)))
    go_ret2
    exact ⟨rfl, by (repeat' (first | (with_reducible exact Below.refl _ _) | (with_reducible assumption) | (with_reducible refine Below.new ?_ _) | (with_reducible refine Below.alloc ?_ ?_ _) | (with_reducible refine Below.drew ?_) | (with_reducible refine Below.drewN ?_ _) | (with_reducible refine Below.setCell ?_ ?_ _) | (refine Below.step ?_ (by assumption)) | go_size))⟩
  | true =>
    generalize placeI true r = pi at *
    generalize placeB true r = pb at *
    go_enter Try.func20, Try.ntmps20
    go_wp2_with (first
      | (go_at_call 22; ((with_reducible refine (HR.out _ (by (repeat' (first | (with_reducible exact Below.refl _ _) | (with_reducible assumption) | (with_reducible refine Below.new ?_ _) | (with_reducible refine Below.alloc ?_ ?_ _) | (with_reducible refine Below.drew ?_) | (with_reducible refine Below.drewN ?_ _) | (with_reducible refine Below.setCell ?_ ?_ _) | (refine Below.step ?_ (by assumption)) | go_size)))).mono ?_); rintro e w1 ⟨rfl, hb1⟩; obtain ⟨hc1, hf1, hk1, hz1⟩ := bcell3 hb1; (try simp only [World.size_alloc] at hz1); have : w.heap.size < w1.heap.size := (by omega)))
      | (go_at_call 46; ((with_reducible refine (HP.out _ (by (repeat' (first | (with_reducible exact Below.refl _ _) | (with_reducible assumption) | (with_reducible refine Below.new ?_ _) | (with_reducible refine Below.alloc ?_ ?_ _) | (with_reducible refine Below.drew ?_) | (with_reducible refine Below.drewN ?_ _) | (with_reducible refine Below.setCell ?_ ?_ _) | (refine Below.step ?_ (by assumption)) | go_size)))).mono ?_); rintro e w2 ⟨rfl, rfl⟩)))
    go_ret2
    exact ⟨rfl, by (repeat' (first | (with_reducible exact Below.refl _ _) | (with_reducible assumption) | (with_reducible refine Below.new ?_ _) | (with_reducible refine Below.alloc ?_ ?_ _) | (with_reducible refine Below.drew ?_) | (with_reducible refine Below.drewN ?_ _) | (with_reducible refine Below.setCell ?_ ?_ _) | (refine Below.step ?_ (by assumption)) | go_size))⟩

set_option maxHeartbeats 2000000 in
theorem refFits_any (vd vm vr vn : Value) (ds ms : List ByteArray) (g t : Int) (l : List ValD) (n : Nat) (cs : List Value) (w : World) (hd : StrsSl w vd ds) (hm : StrsSl w vm ms) (td : Texts ds) (tm : Texts ms) (hr : ValsSl w vr l) (tr : Vals l) (hn : SlAt w vn n 1 cs) :
    Calls Try.prog 24 #[.agg #[vd, vm, .int .i64 g], .agg #[.int .i64 t, vr, vn]] w fun e w' => e = .returned (.bool (fitsS ds ms g t l n)) ∧ Below w.heap.size w w' := by
  have HR := hid (fun W (h : Below w.heap.size w W) => refRight_any vd vm ds ms g W (hd.below h) (hm.below h) td tm)
  obtain ⟨ad, cd, rfl, _, _, _⟩ := SlAt.shape hd
  obtain ⟨am, cm, rfl, _, _, _⟩ := SlAt.shape hm
  obtain ⟨ar, cr, rfl, hcr, hcr2, _⟩ := SlAt.shape hr
  obtain ⟨an, cn, rfl, _, hcn, _⟩ := SlAt.shape hn
  have td1 := td.1; have tm1 := tm.1; have tr1 := tr.1
  obtain ⟨J, hJ, hpre, hat, hall⟩ : ∃ J, J ≤ l.length ∧ (∀ i (hi : i < l.length), i < J → okV l[i] = true) ∧ (∀ hj : J < l.length, okV l[J] = false) ∧ l.all okV = decide (J = l.length) := by
    rcases firstV l with ⟨h1, h2⟩ | ⟨h1, j, hj, h2, h3⟩
    · exact ⟨l.length, Nat.le_refl _, fun i hi _ => h2 i hi, fun h => absurd h (Nat.lt_irrefl _), by rw [h1]; simp⟩
    · exact ⟨j, by omega, fun i _ hi => h3 i hi, fun _ => h2, by rw [h1]; exact (decide_eq_false (by omega)).symm⟩
  have hF : fitsS ds ms g t l n = (rightS ds ms g && (decide (0 ≤ t ∧ t ≤ 1000000000000) && (decide (l.length = ds.length) && (decide (n = ms.length) && decide (J = l.length))))) := by rw [← hall]; rfl
  rw [hF]
  obtain ⟨_, _, _, _, hA⟩ := ValsSl.parts hr
  have HA := hid (ValsSl.parts hr)
  have HP := hid hpre; have HT := hid hat
  have HZ := hid (fun i (hi : i < l.length) => tr.2 l[i] (List.getElem_mem hi))
  clear hd hm hr hn hF td tm tr hall hpre hat hA
  obtain ⟨nl, hnl⟩ : ∃ nl, l.length = nl := ⟨_, rfl⟩
  have HL := hid hnl
  rw [hnl] at hJ tr1 hcr ⊢
  clear hnl
  generalize ds.length = nd at *
  generalize ms.length = nm at *
  generalize rightS ds ms g = rs at *
  cases rs with
  | false =>
    rw [Bool.false_and]
    go_enter Try.func24, Try.ntmps24
    go_wp2_with (go_at_call 22; ((with_reducible refine (HR.out _ (by (repeat' (first | (with_reducible exact Below.refl _ _) | (with_reducible assumption) | (with_reducible refine Below.new ?_ _) | (with_reducible refine Below.alloc ?_ ?_ _) | (with_reducible refine Below.drew ?_) | (with_reducible refine Below.drewN ?_ _) | (with_reducible refine Below.setCell ?_ ?_ _) | (refine Below.step ?_ (by assumption)) | go_size)))).mono ?_); rintro e w1 ⟨rfl, hb1⟩; obtain ⟨hc1, hf1, hk1, hz1⟩ := bcell3 hb1; (try simp only [World.size_alloc] at hz1); have : w.heap.size < w1.heap.size := (by omega); have : w.heap.size + 1 < w1.heap.size := (by omega)))
    go_ret
    exact ⟨rfl, by (repeat' (first | (with_reducible exact Below.refl _ _) | (with_reducible assumption) | (with_reducible refine Below.new ?_ _) | (with_reducible refine Below.alloc ?_ ?_ _) | (with_reducible refine Below.drew ?_) | (with_reducible refine Below.drewN ?_ _) | (with_reducible refine Below.setCell ?_ ?_ _) | (refine Below.step ?_ (by assumption)) | go_size))⟩
  | true =>
    rw [Bool.true_and]
    by_cases h1 : 0 ≤ t
    · by_cases h2 : t ≤ 1000000000000
      · rw [decide_eq_true (show 0 ≤ t ∧ t ≤ 1000000000000 from ⟨h1, h2⟩), Bool.true_and]
        by_cases h3 : nl = nd
        · by_cases h4 : n = nm
          · rw [decide_eq_true h3, decide_eq_true h4, Bool.true_and, Bool.true_and]
            subst h3 h4
            go_enter Try.func24, Try.ntmps24
            go_wp2_with (go_at_call 22; ((with_reducible refine (HR.out _ (by (repeat' (first | (with_reducible exact Below.refl _ _) | (with_reducible assumption) | (with_reducible refine Below.new ?_ _) | (with_reducible refine Below.alloc ?_ ?_ _) | (with_reducible refine Below.drew ?_) | (with_reducible refine Below.drewN ?_ _) | (with_reducible refine Below.setCell ?_ ?_ _) | (refine Below.step ?_ (by assumption)) | go_size)))).mono ?_); rintro e w1 ⟨rfl, hb1⟩; obtain ⟨hc1, hf1, hk1, hz1⟩ := bcell3 hb1; (try simp only [World.size_alloc] at hz1); have : w.heap.size < w1.heap.size := (by omega); have : w.heap.size + 1 < w1.heap.size := (by omega)))
            have hB1 : Below w.heap.size w w1 := by (repeat' (first | (with_reducible exact Below.refl _ _) | (with_reducible assumption) | (with_reducible refine Below.new ?_ _) | (with_reducible refine Below.alloc ?_ ?_ _) | (with_reducible refine Below.drew ?_) | (with_reducible refine Below.drewN ?_ _) | (with_reducible refine Below.setCell ?_ ?_ _) | (refine Below.step ?_ (by assumption)) | go_size))
            have q0 : w1.cell? ⟨w.heap.size + 1, 1, none⟩ = some (.slice ar nl cr) := by go_simp
            clear hc1 hf1 hk1 hz1
            have HB1 := hid hB1
            clear hB1
            go_loopw [5] (fun i wr => ∃ k : Nat, k ≤ J ∧ i = .int .i64 k ∧ Below w1.heap.size w1 wr) (fun i _ => nl - (intOf i).toNat)
            case atStart => exact ⟨0, Nat.zero_le _, rfl, Below.refl _ _⟩
            case round =>
              obtain ⟨k, hk, rfl, hbel⟩ := hrel
              have q1 := cell_step q0 hbel
              by_cases hkL : k < nl
              · have hlen : k < l.length := by rw [HL.out]; exact hkL
                obtain ⟨ao, cap, e, _, _, _, hall⟩ := HA.out
                simp only [Value.slice.injEq] at e
                obtain ⟨rfl, _, rfl⟩ := e
                obtain ⟨b, off, rfl, hc⟩ := hall (by omega)
                obtain ⟨c1, c2⟩ := hc k hlen
                have hBw := HB1.out.trans (hbel.mono HB1.out.size)
                have d1 := cell_step c1 hBw
                have d2 := cell_step c2 hBw
                have hz := HZ.out k hlen
                have hok : okV l[k] = decide (k < J) := by
                  by_cases h : k < J
                  · rw [HP.out k hlen h]; simp [h]
                  · obtain rfl : k = J := by omega
                    rw [HT.out hlen]; simp
                unfold okV at hok
                have HI := hid (fun W => refValue_any l[k].s hz l[k].nl W)
                rw [hok] at HI
                have HB := hid hBw
                clear hok hz hc c1 c2 hBw hall
                generalize l[k].s = s at *
                generalize l[k].nl = bl at *
                have HB2 := hid hbel
                clear hbel
                by_cases hkj : k < J
                · have hd : decide (k < J) = true := by simp [hkj]
                  rw [hd] at HI
                  clear hd
                  go_wp2_with (go_at_call 54; ((with_reducible refine (HI.out _).mono ?_); rintro e w2 ⟨rfl, hb2⟩))
                  go_roundw
                  case rel => exact ⟨k + 1, hkj, by go_num, by have := HB2.out; (repeat' (first | (with_reducible exact Below.refl _ _) | (with_reducible assumption) | (with_reducible refine Below.new ?_ _) | (with_reducible refine Below.alloc ?_ ?_ _) | (with_reducible refine Below.drew ?_) | (with_reducible refine Below.drewN ?_ _) | (with_reducible refine Below.setCell ?_ ?_ _) | (refine Below.step ?_ (by assumption)) | go_size))⟩
                  case measure => simp [intOf]; omega
                · have hd : decide (k < J) = false := by simp [hkj]
                  rw [hd] at HI
                  clear hd
                  obtain rfl : k = J := by omega
                  have HE : Hid (decide (k = nl) = false) := decide_eq_false (by omega)
                  go_wp2_with (go_at_call 54; ((with_reducible refine (HI.out _).mono ?_); rintro e w2 ⟨rfl, hb2⟩))
                  go_ret
                  exact ⟨by first | rfl | (rw [HE.out]; rfl), by have := HB.out; (repeat' (first | (with_reducible exact Below.refl _ _) | (with_reducible assumption) | (with_reducible refine Below.new ?_ _) | (with_reducible refine Below.alloc ?_ ?_ _) | (with_reducible refine Below.drew ?_) | (with_reducible refine Below.drewN ?_ _) | (with_reducible refine Below.setCell ?_ ?_ _) | (refine Below.step ?_ (by assumption)) | go_size))⟩
              · have HE : Hid (decide (J = nl) = true) := decide_eq_true (by omega)
                have HB := hid (HB1.out.trans (hbel.mono HB1.out.size))
                clear hbel
                go_wp2
                go_ret
                exact ⟨by first | rfl | (rw [HE.out]; rfl), by have := HB.out; (repeat' (first | (with_reducible exact Below.refl _ _) | (with_reducible assumption) | (with_reducible refine Below.new ?_ _) | (with_reducible refine Below.alloc ?_ ?_ _) | (with_reducible refine Below.drew ?_) | (with_reducible refine Below.drewN ?_ _) | (with_reducible refine Below.setCell ?_ ?_ _) | (refine Below.step ?_ (by assumption)) | go_size))⟩
          · rw [decide_eq_true h3, decide_eq_false h4, Bool.true_and, Bool.false_and]
            subst h3
            have hq : ((n : Int) != (nm : Int)) = true := by simp; omega
            clear h4
            go_enter Try.func24, Try.ntmps24
            go_wp2_with (go_at_call 22; ((with_reducible refine (HR.out _ (by (repeat' (first | (with_reducible exact Below.refl _ _) | (with_reducible assumption) | (with_reducible refine Below.new ?_ _) | (with_reducible refine Below.alloc ?_ ?_ _) | (with_reducible refine Below.drew ?_) | (with_reducible refine Below.drewN ?_ _) | (with_reducible refine Below.setCell ?_ ?_ _) | (refine Below.step ?_ (by assumption)) | go_size)))).mono ?_); rintro e w1 ⟨rfl, hb1⟩; obtain ⟨hc1, hf1, hk1, hz1⟩ := bcell3 hb1; (try simp only [World.size_alloc] at hz1); have : w.heap.size < w1.heap.size := (by omega); have : w.heap.size + 1 < w1.heap.size := (by omega)))
            go_ret
            exact ⟨rfl, by (repeat' (first | (with_reducible exact Below.refl _ _) | (with_reducible assumption) | (with_reducible refine Below.new ?_ _) | (with_reducible refine Below.alloc ?_ ?_ _) | (with_reducible refine Below.drew ?_) | (with_reducible refine Below.drewN ?_ _) | (with_reducible refine Below.setCell ?_ ?_ _) | (refine Below.step ?_ (by assumption)) | go_size))⟩
        · rw [decide_eq_false h3, Bool.false_and]
          have hq : ((nl : Int) != (nd : Int)) = true := by simp; omega
          clear h3
          go_enter Try.func24, Try.ntmps24
          go_wp2_with (go_at_call 22; ((with_reducible refine (HR.out _ (by (repeat' (first | (with_reducible exact Below.refl _ _) | (with_reducible assumption) | (with_reducible refine Below.new ?_ _) | (with_reducible refine Below.alloc ?_ ?_ _) | (with_reducible refine Below.drew ?_) | (with_reducible refine Below.drewN ?_ _) | (with_reducible refine Below.setCell ?_ ?_ _) | (refine Below.step ?_ (by assumption)) | go_size)))).mono ?_); rintro e w1 ⟨rfl, hb1⟩; obtain ⟨hc1, hf1, hk1, hz1⟩ := bcell3 hb1; (try simp only [World.size_alloc] at hz1); have : w.heap.size < w1.heap.size := (by omega); have : w.heap.size + 1 < w1.heap.size := (by omega)))
          go_ret
          exact ⟨rfl, by (repeat' (first | (with_reducible exact Below.refl _ _) | (with_reducible assumption) | (with_reducible refine Below.new ?_ _) | (with_reducible refine Below.alloc ?_ ?_ _) | (with_reducible refine Below.drew ?_) | (with_reducible refine Below.drewN ?_ _) | (with_reducible refine Below.setCell ?_ ?_ _) | (refine Below.step ?_ (by assumption)) | go_size))⟩
      · rw [decide_eq_false (show ¬ (0 ≤ t ∧ t ≤ 1000000000000) from by omega), Bool.false_and]
        go_enter Try.func24, Try.ntmps24
        go_wp2_with (go_at_call 22; ((with_reducible refine (HR.out _ (by (repeat' (first | (with_reducible exact Below.refl _ _) | (with_reducible assumption) | (with_reducible refine Below.new ?_ _) | (with_reducible refine Below.alloc ?_ ?_ _) | (with_reducible refine Below.drew ?_) | (with_reducible refine Below.drewN ?_ _) | (with_reducible refine Below.setCell ?_ ?_ _) | (refine Below.step ?_ (by assumption)) | go_size)))).mono ?_); rintro e w1 ⟨rfl, hb1⟩; obtain ⟨hc1, hf1, hk1, hz1⟩ := bcell3 hb1; (try simp only [World.size_alloc] at hz1); have : w.heap.size < w1.heap.size := (by omega); have : w.heap.size + 1 < w1.heap.size := (by omega)))
        go_ret
        exact ⟨rfl, by (repeat' (first | (with_reducible exact Below.refl _ _) | (with_reducible assumption) | (with_reducible refine Below.new ?_ _) | (with_reducible refine Below.alloc ?_ ?_ _) | (with_reducible refine Below.drew ?_) | (with_reducible refine Below.drewN ?_ _) | (with_reducible refine Below.setCell ?_ ?_ _) | (refine Below.step ?_ (by assumption)) | go_size))⟩
    · rw [decide_eq_false (show ¬ (0 ≤ t ∧ t ≤ 1000000000000) from by omega), Bool.false_and]
      go_enter Try.func24, Try.ntmps24
      go_wp2_with (go_at_call 22; ((with_reducible refine (HR.out _ (by (repeat' (first | (with_reducible exact Below.refl _ _) | (with_reducible assumption) | (with_reducible refine Below.new ?_ _) | (with_reducible refine Below.alloc ?_ ?_ _) | (with_reducible refine Below.drew ?_) | (with_reducible refine Below.drewN ?_ _) | (with_reducible refine Below.setCell ?_ ?_ _) | (refine Below.step ?_ (by assumption)) | go_size)))).mono ?_); rintro e w1 ⟨rfl, hb1⟩; obtain ⟨hc1, hf1, hk1, hz1⟩ := bcell3 hb1; (try simp only [World.size_alloc] at hz1); have : w.heap.size < w1.heap.size := (by omega); have : w.heap.size + 1 < w1.heap.size := (by omega)))
      go_ret
      exact ⟨rfl, by (repeat' (first | (with_reducible exact Below.refl _ _) | (with_reducible assumption) | (with_reducible refine Below.new ?_ _) | (with_reducible refine Below.alloc ?_ ?_ _) | (with_reducible refine Below.drew ?_) | (with_reducible refine Below.drewN ?_ _) | (with_reducible refine Below.setCell ?_ ?_ _) | (refine Below.step ?_ (by assumption)) | go_size))⟩
end Go.Proofs.Ytdgeinipdphoeaa
