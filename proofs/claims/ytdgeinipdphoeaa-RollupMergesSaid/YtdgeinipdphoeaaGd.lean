/- Texts joined: SchH, SchI, SchJ, SchK, SchL, SchM, SchN. -/
import Derived.Test.YtdgeinipdphoeaaGc
import Derived.Test.YtdgeinipdphoeaaShelf
import Derived.Test.YtdgeinipdphoeaaGa
/- Schemas: are all values right? The program's ContainsFunc over them. -/
namespace Go.Proofs.Ytdgeinipdphoeaa
set_option linter.unusedVariables false
set_option linter.unusedSimpArgs false
set_option maxRecDepth 100000
open Go.ChangeShapes Go.WideShapes Go.ChangeAt Go.RowKit

def okV (v : ValD) : Bool := valB v.s v.nl
theorem isOther_any (s : ByteArray) (hs : s.size ≤ 9223372036854775807) (nl : Bool) (w : World) : Calls Try.prog 51 #[.agg #[.string s, .bool nl]] w fun e w' => e = .returned (.bool (!valB s nl)) ∧ Below w.heap.size w w' := by
  have HI := hid (fun W => isValue_any s hs nl W)
  generalize valB s nl = b at HI ⊢
  go_enter Try.func51, Try.ntmps51
  go_wp2_with (go_at_call 52; ((with_reducible refine (HI.out _).mono ?_); rintro e w1 ⟨rfl, hb1⟩; obtain ⟨hc1, hf1, hk1, hz1⟩ := bcell3 hb1; (try simp only [World.size_alloc, World.size_drew] at hz1); have : w.heap.size < w1.heap.size := (by omega)))
  go_ret
  exact ⟨rfl, by (repeat' (first | (with_reducible exact Below.refl _ _) | (with_reducible assumption) | (with_reducible refine Below.new ?_ _) | (with_reducible refine Below.alloc ?_ ?_ _) | (with_reducible refine Below.drew ?_) | (with_reducible refine Below.drewN ?_ _) | (with_reducible refine Below.setCell ?_ ?_ _) | (refine Below.step ?_ (by assumption)) | go_size))⟩
/-- The first value that is not right, or none. -/
theorem firstV (l : List ValD) : (l.all okV = true ∧ ∀ i (hi : i < l.length), okV l[i] = true) ∨ (l.all okV = false ∧ ∃ j, ∃ hj : j < l.length, okV l[j] = false ∧ ∀ i (hi : i < j), okV (l[i]'(Nat.lt_trans hi hj)) = true) := by
  induction l with
  | nil => exact .inl ⟨rfl, fun i hi => absurd hi (Nat.not_lt_zero i)⟩
  | cons x xs ih =>
    by_cases hx : okV x = true
    · rcases ih with ⟨h1, h2⟩ | ⟨h1, j, h2, h3, h4⟩
      · refine .inl ⟨by simp [hx, h1], fun i hi => ?_⟩
        cases i with
        | zero => simpa using hx
        | succ i => simpa using h2 i (by simpa using hi)
      · refine .inr ⟨by simp [hx, h1], j + 1, by simpa using h2, by simpa using h3, fun i hi => ?_⟩
        cases i with
        | zero => simpa using hx
        | succ i => simpa using h4 i (by omega)
    · exact .inr ⟨by simp [hx], 0, by simp, by simpa using hx, fun i hi => absurd hi (Nat.not_lt_zero i)⟩
def Vals (l : List ValD) : Prop := l.length ≤ 1000000 ∧ ∀ v ∈ l, v.s.size ≤ 9223372036854775807

set_option maxHeartbeats 1000000 in
theorem idxV_any (v : Value) (l : List ValD) (w : World) (hv : ValsSl w v l) (hl : Vals l) (j : Nat) (hj : j ≤ l.length) (hpre : ∀ i (hi : i < j), okV (l[i]'(by omega)) = true) (hat : ∀ hj : j < l.length, okV l[j] = false) :
    Calls Try.prog 83 #[v, .func (.func 51) #[] #[]] w fun e w' => e = .returned (.int .i64 (if j < l.length then (j : Int) else -1)) ∧ Below w.heap.size w w' := by
  obtain ⟨ao, cap, rfl, h1, h2, h3, hA⟩ := ValsSl.parts hv
  have HA := hid hA; have HP := hid hpre; have HT := hid hat
  have HZ := hid (fun i (hi : i < l.length) => hl.2 l[i] (List.getElem_mem hi))
  obtain ⟨hl1, _⟩ := hl
  obtain ⟨L, hL⟩ : ∃ L, l.length = L := ⟨_, rfl⟩
  have HL := hid hL
  rw [hL] at hj hl1 h1 ⊢
  clear hA hpre hat hL h3 hv
  unfold maxLen at h2
  go_enter Try.func83, Try.ntmps83
  go_wp2
  go_loopw [8] (fun i wr => ∃ k : Nat, k ≤ j ∧ i = .int .i64 k ∧ Below w.heap.size w wr) (fun i _ => L - (intOf i).toNat)
  case atStart => exact ⟨0, Nat.zero_le _, rfl, Below.refl _ _⟩
  case round =>
    obtain ⟨k, hk, rfl, hbel⟩ := hrel
    by_cases hkL : k < L
    · obtain ⟨b, off, rfl, hc⟩ := HA.out (by rw [HL.out]; omega)
      obtain ⟨c1, c2⟩ := hc k (by rw [HL.out]; exact hkL)
      have d1 := cell_step c1 hbel
      have d2 := cell_step c2 hbel
      have hz := HZ.out k (by rw [HL.out]; exact hkL)
      have hok : okV (l[k]'(by rw [HL.out]; exact hkL)) = decide (k < j) := by
        by_cases h : k < j
        · rw [HP.out k h]; simp [h]
        · obtain rfl : k = j := by omega
          rw [HT.out]; simp
      unfold okV at hok
      have HI := hid (fun W => isOther_any (l[k]'(by rw [HL.out]; exact hkL)).s hz (l[k]'(by rw [HL.out]; exact hkL)).nl W)
      rw [hok] at HI
      generalize (l[k]'(by rw [HL.out]; exact hkL)).s = s at *
      generalize (l[k]'(by rw [HL.out]; exact hkL)).nl = nl at *
      have HB := hid hbel
      clear hc hok hz c1 c2 hbel
      by_cases hkj : k < j
      · have hd : decide (k < j) = true := by simp [hkj]
        rw [hd] at HI
        clear hd
        go_wp2_with (go_at_call 51; ((with_reducible refine (HI.out _).mono ?_); rintro e w2 ⟨rfl, hb2⟩))
        go_roundw
        case rel => exact ⟨k + 1, hkj, by go_num, by have := HB.out; (repeat' (first | (with_reducible exact Below.refl _ _) | (with_reducible assumption) | (with_reducible refine Below.new ?_ _) | (with_reducible refine Below.alloc ?_ ?_ _) | (with_reducible refine Below.drew ?_) | (with_reducible refine Below.drewN ?_ _) | (with_reducible refine Below.setCell ?_ ?_ _) | (refine Below.step ?_ (by assumption)) | go_size))⟩
        case measure => simp [intOf]; omega
      · have hd : decide (k < j) = false := by simp [hkj]
        rw [hd] at HI
        clear hd
        obtain rfl : k = j := by omega
        have HE : Hid ((if k < L then (k : Int) else -1) = (k : Int)) := if_pos hkL
        go_wp2_with (go_at_call 51; ((with_reducible refine (HI.out _).mono ?_); rintro e w2 ⟨rfl, hb2⟩))
        go_ret
        exact ⟨rfl, by have := HB.out; (repeat' (first | (with_reducible exact Below.refl _ _) | (with_reducible assumption) | (with_reducible refine Below.new ?_ _) | (with_reducible refine Below.alloc ?_ ?_ _) | (with_reducible refine Below.drew ?_) | (with_reducible refine Below.drewN ?_ _) | (with_reducible refine Below.setCell ?_ ?_ _) | (refine Below.step ?_ (by assumption)) | go_size))⟩
    · have HE : Hid ((if j < L then (j : Int) else -1) = -1) := if_neg (by omega)
      have HB := hid hbel
      clear hbel
      go_wp2
      go_ret
      exact ⟨rfl, by have := HB.out; (repeat' (first | (with_reducible exact Below.refl _ _) | (with_reducible assumption) | (with_reducible refine Below.new ?_ _) | (with_reducible refine Below.alloc ?_ ?_ _) | (with_reducible refine Below.drew ?_) | (with_reducible refine Below.drewN ?_ _) | (with_reducible refine Below.setCell ?_ ?_ _) | (refine Below.step ?_ (by assumption)) | go_size))⟩
theorem contV_any (v : Value) (l : List ValD) (w : World) (hv : ValsSl w v l) (hl : Vals l) :
    Calls Try.prog 53 #[v, .func (.func 51) #[] #[]] w fun e w' => e = .returned (.bool (!l.all okV)) ∧ Below w.heap.size w w' := by
  have H : ∃ r : Int, (!l.all okV) = decide (0 ≤ r) ∧ Calls Try.prog 83 #[v, .func (.func 51) #[] #[]] w fun e w' => e = .returned (.int .i64 r) ∧ Below w.heap.size w w' := by
    rcases firstV l with ⟨h1, h2⟩ | ⟨h1, j, h2, h3, h4⟩
    · refine ⟨-1, by rw [h1]; rfl, ?_⟩
      refine (idxV_any v l w hv hl l.length (Nat.le_refl _) (fun i hi => h2 i hi) (fun h => absurd h (Nat.lt_irrefl _))).mono fun e w' ⟨he, hw⟩ => ⟨?_, hw⟩
      rw [he, if_neg (Nat.lt_irrefl _)]
    · refine ⟨j, by rw [h1]; simp, ?_⟩
      refine (idxV_any v l w hv hl j (by omega) h4 (fun _ => h3)).mono fun e w' ⟨he, hw⟩ => ⟨?_, hw⟩
      rw [he, if_pos h2]
  obtain ⟨r, hr, hc⟩ := H
  rw [hr]
  have HC := hid hc
  clear hr hc hv
  go_enter Try.func53, Try.ntmps53
  go_wp2_with (go_at_call 83; ((with_reducible refine (HC.out).mono ?_); rintro e w2 ⟨rfl, hb2⟩))
  go_ret
  exact ⟨rfl, by (repeat' (first | (with_reducible exact Below.refl _ _) | (with_reducible assumption) | (with_reducible refine Below.new ?_ _) | (with_reducible refine Below.alloc ?_ ?_ _) | (with_reducible refine Below.drew ?_) | (with_reducible refine Below.drewN ?_ _) | (with_reducible refine Below.setCell ?_ ?_ _) | (refine Below.step ?_ (by assumption)) | go_size))⟩
end Go.Proofs.Ytdgeinipdphoeaa
/- Schemas: which rows fit, by the program and by the reference. -/
namespace Go.Proofs.Ytdgeinipdphoeaa
set_option linter.unusedVariables false
set_option linter.unusedSimpArgs false
set_option maxRecDepth 100000
open Go.ChangeShapes Go.WideShapes Go.ChangeAt Go.RowKit

/-- Does a row fit a schema? -/
def fitsS (ds ms : List ByteArray) (g t : Int) (l : List ValD) (n : Nat) : Bool :=
  rightS ds ms g && (decide (0 ≤ t ∧ t ≤ 1000000000000) && (decide (l.length = ds.length) && (decide (n = ms.length) && l.all okV)))

set_option maxHeartbeats 1000000 in
theorem fits_any (vd vm vr vn : Value) (ds ms : List ByteArray) (g t : Int) (l : List ValD) (n : Nat) (cs : List Value) (w : World) (hd : StrsSl w vd ds) (hm : StrsSl w vm ms) (td : Texts ds) (tm : Texts ms) (hr : ValsSl w vr l) (tr : Vals l) (hn : SlAt w vn n 1 cs) :
    Calls Try.prog 23 #[.agg #[vd, vm, .int .i64 g], .agg #[.int .i64 t, vr, vn]] w fun e w' => e = .returned (.bool (fitsS ds ms g t l n)) ∧ Below w.heap.size w w' := by
  have HR := hid (fun W (h : Below w.heap.size w W) => right_any vd vm ds ms g W (hd.below h) (hm.below h) td tm)
  have HC := hid (fun W (h : Below w.heap.size w W) => contV_any vr l W (hr.below h) tr)
  obtain ⟨ad, cd, rfl, _, _, _⟩ := SlAt.shape hd
  obtain ⟨am, cm, rfl, _, _, _⟩ := SlAt.shape hm
  obtain ⟨ar, cr, rfl, _, _, _⟩ := SlAt.shape hr
  obtain ⟨an, cn, rfl, _, hcn, _⟩ := SlAt.shape hn
  have td1 := td.1; have tm1 := tm.1; have tr1 := tr.1
  have hF : fitsS ds ms g t l n = (rightS ds ms g && (decide (0 ≤ t ∧ t ≤ 1000000000000) && (decide (l.length = ds.length) && (decide (n = ms.length) && l.all okV)))) := rfl
  rw [hF]
  clear hd hm hr hn hF td tm tr
  generalize ds.length = nd at *
  generalize ms.length = nm at *
  generalize l.length = nl at *
  generalize l.all okV = av at *
  generalize rightS ds ms g = rs at *
  cases rs with
  | false =>
    rw [Bool.false_and]
    go_enter Try.func23, Try.ntmps23
    go_wp2_with (go_at_call 21; ((with_reducible refine (HR.out _ (by (repeat' (first | (with_reducible exact Below.refl _ _) | (with_reducible assumption) | (with_reducible refine Below.new ?_ _) | (with_reducible refine Below.alloc ?_ ?_ _) | (with_reducible refine Below.drew ?_) | (with_reducible refine Below.drewN ?_ _) | (with_reducible refine Below.setCell ?_ ?_ _) | (refine Below.step ?_ (by assumption)) | go_size)))).mono ?_); rintro e w1 ⟨rfl, hb1⟩; obtain ⟨hc1, hf1, hk1, hz1⟩ := bcell3 hb1; (try simp only [World.size_alloc, World.size_drew] at hz1); have : w.heap.size < w1.heap.size := (by omega); have : w.heap.size + 1 < w1.heap.size := (by omega)))
    go_ret
    exact ⟨rfl, by (repeat' (first | (with_reducible exact Below.refl _ _) | (with_reducible assumption) | (with_reducible refine Below.new ?_ _) | (with_reducible refine Below.alloc ?_ ?_ _) | (with_reducible refine Below.drew ?_) | (with_reducible refine Below.drewN ?_ _) | (with_reducible refine Below.setCell ?_ ?_ _) | (refine Below.step ?_ (by assumption)) | go_size))⟩
  | true =>
    rw [Bool.true_and]
    by_cases h1 : 0 ≤ t
    · by_cases h2 : t ≤ 1000000000000
      · rw [decide_eq_true (show 0 ≤ t ∧ t ≤ 1000000000000 from ⟨h1, h2⟩), Bool.true_and]
        by_cases h3 : nl = nd
        · by_cases h4 : n = nm
          · rw [decide_eq_true h3, decide_eq_true h4, Bool.true_and, Bool.true_and]
            subst h3 h4
            go_enter Try.func23, Try.ntmps23
            go_wp2_with (first
              | (go_at_call 21; ((with_reducible refine (HR.out _ (by (repeat' (first | (with_reducible exact Below.refl _ _) | (with_reducible assumption) | (with_reducible refine Below.new ?_ _) | (with_reducible refine Below.alloc ?_ ?_ _) | (with_reducible refine Below.drew ?_) | (with_reducible refine Below.drewN ?_ _) | (with_reducible refine Below.setCell ?_ ?_ _) | (refine Below.step ?_ (by assumption)) | go_size)))).mono ?_); rintro e w1 ⟨rfl, hb1⟩; obtain ⟨hc1, hf1, hk1, hz1⟩ := bcell3 hb1; (try simp only [World.size_alloc, World.size_drew] at hz1); have : w.heap.size < w1.heap.size := (by omega); have : w.heap.size + 1 < w1.heap.size := (by omega)))
              | (go_at_call 53; ((with_reducible refine (HC.out _ (by (repeat' (first | (with_reducible exact Below.refl _ _) | (with_reducible assumption) | (with_reducible refine Below.new ?_ _) | (with_reducible refine Below.alloc ?_ ?_ _) | (with_reducible refine Below.drew ?_) | (with_reducible refine Below.drewN ?_ _) | (with_reducible refine Below.setCell ?_ ?_ _) | (refine Below.step ?_ (by assumption)) | go_size)))).mono ?_); rintro e w2 ⟨rfl, hb2⟩)))
            go_ret
            exact ⟨ret_bool (by simp), by (repeat' (first | (with_reducible exact Below.refl _ _) | (with_reducible assumption) | (with_reducible refine Below.new ?_ _) | (with_reducible refine Below.alloc ?_ ?_ _) | (with_reducible refine Below.drew ?_) | (with_reducible refine Below.drewN ?_ _) | (with_reducible refine Below.setCell ?_ ?_ _) | (refine Below.step ?_ (by assumption)) | go_size))⟩
          · rw [decide_eq_true h3, decide_eq_false h4, Bool.true_and, Bool.false_and]
            subst h3
            have hq : ((n : Int) == (nm : Int)) = false := by simp; omega
            clear h4
            go_enter Try.func23, Try.ntmps23
            go_wp2_with (go_at_call 21; ((with_reducible refine (HR.out _ (by (repeat' (first | (with_reducible exact Below.refl _ _) | (with_reducible assumption) | (with_reducible refine Below.new ?_ _) | (with_reducible refine Below.alloc ?_ ?_ _) | (with_reducible refine Below.drew ?_) | (with_reducible refine Below.drewN ?_ _) | (with_reducible refine Below.setCell ?_ ?_ _) | (refine Below.step ?_ (by assumption)) | go_size)))).mono ?_); rintro e w1 ⟨rfl, hb1⟩; obtain ⟨hc1, hf1, hk1, hz1⟩ := bcell3 hb1; (try simp only [World.size_alloc, World.size_drew] at hz1); have : w.heap.size < w1.heap.size := (by omega); have : w.heap.size + 1 < w1.heap.size := (by omega)))
            go_ret
            exact ⟨rfl, by (repeat' (first | (with_reducible exact Below.refl _ _) | (with_reducible assumption) | (with_reducible refine Below.new ?_ _) | (with_reducible refine Below.alloc ?_ ?_ _) | (with_reducible refine Below.drew ?_) | (with_reducible refine Below.drewN ?_ _) | (with_reducible refine Below.setCell ?_ ?_ _) | (refine Below.step ?_ (by assumption)) | go_size))⟩
        · rw [decide_eq_false h3, Bool.false_and]
          have hq : ((nl : Int) == (nd : Int)) = false := by simp; omega
          clear h3
          go_enter Try.func23, Try.ntmps23
          go_wp2_with (go_at_call 21; ((with_reducible refine (HR.out _ (by (repeat' (first | (with_reducible exact Below.refl _ _) | (with_reducible assumption) | (with_reducible refine Below.new ?_ _) | (with_reducible refine Below.alloc ?_ ?_ _) | (with_reducible refine Below.drew ?_) | (with_reducible refine Below.drewN ?_ _) | (with_reducible refine Below.setCell ?_ ?_ _) | (refine Below.step ?_ (by assumption)) | go_size)))).mono ?_); rintro e w1 ⟨rfl, hb1⟩; obtain ⟨hc1, hf1, hk1, hz1⟩ := bcell3 hb1; (try simp only [World.size_alloc, World.size_drew] at hz1); have : w.heap.size < w1.heap.size := (by omega); have : w.heap.size + 1 < w1.heap.size := (by omega)))
          go_ret
          exact ⟨rfl, by (repeat' (first | (with_reducible exact Below.refl _ _) | (with_reducible assumption) | (with_reducible refine Below.new ?_ _) | (with_reducible refine Below.alloc ?_ ?_ _) | (with_reducible refine Below.drew ?_) | (with_reducible refine Below.drewN ?_ _) | (with_reducible refine Below.setCell ?_ ?_ _) | (refine Below.step ?_ (by assumption)) | go_size))⟩
      · rw [decide_eq_false (show ¬ (0 ≤ t ∧ t ≤ 1000000000000) from by omega), Bool.false_and]
        go_enter Try.func23, Try.ntmps23
        go_wp2_with (go_at_call 21; ((with_reducible refine (HR.out _ (by (repeat' (first | (with_reducible exact Below.refl _ _) | (with_reducible assumption) | (with_reducible refine Below.new ?_ _) | (with_reducible refine Below.alloc ?_ ?_ _) | (with_reducible refine Below.drew ?_) | (with_reducible refine Below.drewN ?_ _) | (with_reducible refine Below.setCell ?_ ?_ _) | (refine Below.step ?_ (by assumption)) | go_size)))).mono ?_); rintro e w1 ⟨rfl, hb1⟩; obtain ⟨hc1, hf1, hk1, hz1⟩ := bcell3 hb1; (try simp only [World.size_alloc, World.size_drew] at hz1); have : w.heap.size < w1.heap.size := (by omega); have : w.heap.size + 1 < w1.heap.size := (by omega)))
        go_ret
        exact ⟨rfl, by (repeat' (first | (with_reducible exact Below.refl _ _) | (with_reducible assumption) | (with_reducible refine Below.new ?_ _) | (with_reducible refine Below.alloc ?_ ?_ _) | (with_reducible refine Below.drew ?_) | (with_reducible refine Below.drewN ?_ _) | (with_reducible refine Below.setCell ?_ ?_ _) | (refine Below.step ?_ (by assumption)) | go_size))⟩
    · rw [decide_eq_false (show ¬ (0 ≤ t ∧ t ≤ 1000000000000) from by omega), Bool.false_and]
      go_enter Try.func23, Try.ntmps23
      go_wp2_with (go_at_call 21; ((with_reducible refine (HR.out _ (by (repeat' (first | (with_reducible exact Below.refl _ _) | (with_reducible assumption) | (with_reducible refine Below.new ?_ _) | (with_reducible refine Below.alloc ?_ ?_ _) | (with_reducible refine Below.drew ?_) | (with_reducible refine Below.drewN ?_ _) | (with_reducible refine Below.setCell ?_ ?_ _) | (refine Below.step ?_ (by assumption)) | go_size)))).mono ?_); rintro e w1 ⟨rfl, hb1⟩; obtain ⟨hc1, hf1, hk1, hz1⟩ := bcell3 hb1; (try simp only [World.size_alloc, World.size_drew] at hz1); have : w.heap.size < w1.heap.size := (by omega); have : w.heap.size + 1 < w1.heap.size := (by omega)))
      go_ret
      exact ⟨rfl, by (repeat' (first | (with_reducible exact Below.refl _ _) | (with_reducible assumption) | (with_reducible refine Below.new ?_ _) | (with_reducible refine Below.alloc ?_ ?_ _) | (with_reducible refine Below.drew ?_) | (with_reducible refine Below.drewN ?_ _) | (with_reducible refine Below.setCell ?_ ?_ _) | (refine Below.step ?_ (by assumption)) | go_size))⟩
end Go.Proofs.Ytdgeinipdphoeaa
/- Schemas: the places of names, by the program and by the reference. -/
namespace Go.Proofs.Ytdgeinipdphoeaa
set_option linter.unusedVariables false
set_option linter.unusedSimpArgs false
set_option maxRecDepth 100000
open Go.ChangeShapes Go.WideShapes Go.ChangeAt Go.RowKit

theorem index_any (v : Value) (l : List ByteArray) (x : ByteArray) (w : World) (hv : StrsSl w v l) (hl : l.length ≤ 1000) :
    Calls Try.prog 80 #[v, .string x] w fun e w' => e = .returned (.int .i64 (Lib.idxOfS l x)) ∧ w = w' := by
  obtain ⟨ao, cap, rfl, h1, _, _⟩ := SlAt.shape hv
  by_cases h0 : 0 < l.length
  · obtain ⟨b, off, rfl, hc⟩ := (SlAt.parts hv).2.2.2.2 (by simpa using h0)
    refine (Try.slices_Index_string b off l.length cap l x w (Nat.le_refl _) (by omega) (fun j hj => hc j _ ?_)).mono fun e w' ⟨he, hw⟩ => ⟨?_, hw.symm⟩
    · rw [List.getElem?_map, List.getElem?_eq_getElem hj, List.getD_eq_getElem?_getD, List.getElem?_eq_getElem hj]; rfl
    · rw [he, List.take_length]
  · obtain rfl : l = [] := List.length_eq_zero_iff.1 (by omega)
    exact (Try.slices_Index_string_empty ao cap x w).mono fun e w' ⟨he, hw⟩ => ⟨he, hw.symm⟩
theorem idx_is (l : List ByteArray) (x : ByteArray) : (Lib.idxOfS l x = -1 ∧ ∀ i (hi : i < l.length), (l[i].toList == x.toList) = false) ∨ (∃ k, ∃ hk : k < l.length, Lib.idxOfS l x = (k : Int) ∧ l[k] = x ∧ (l[k].toList == x.toList) = true ∧ ∀ i (hi : i < k), ((l[i]'(Nat.lt_trans hi hk)).toList == x.toList) = false) := by
  have hne : ∀ a : ByteArray, ¬ a = x → (a.toList == x.toList) = false := fun a h => by
    rw [ByteArray.toList_eq, ByteArray.toList_eq]
    simp
    intro e
    exact h (ByteArray.ext e)
  have H : ∀ n, n ≤ l.length → (∀ i (hi : i < l.length), i < n → ¬ l[i] = x) ∨ (∃ j, ∃ hj : j < l.length, l[j] = x ∧ ∀ i (hi : i < j), ¬ (l[i]'(Nat.lt_trans hi hj)) = x) := by
    intro n
    induction n with
    | zero => intro _; exact .inl fun i hi h => absurd h (Nat.not_lt_zero i)
    | succ n ih =>
      intro hn
      rcases ih (by omega) with h | h
      · by_cases hg : (l[n]'(by omega)) = x
        · exact .inr ⟨n, by omega, hg, fun i hi => h i (by omega) hi⟩
        · refine .inl fun i hi hin => ?_
          by_cases e : i = n
          · subst e; exact hg
          · exact h i hi (by omega)
      · exact .inr h
  have hgd : ∀ i (hi : i < l.length), l.getD i ByteArray.empty = l[i] := fun i hi => by rw [List.getD_eq_getElem?_getD, List.getElem?_eq_getElem hi]; rfl
  rcases H l.length (Nat.le_refl _) with h | ⟨k, hk, he, h⟩
  · refine .inl ⟨?_, fun i hi => hne _ (h i hi hi)⟩
    have := Lib.idxOfS_miss l l.length x (fun j hj => by rw [hgd j hj]; exact h j hj hj)
    rwa [List.take_length] at this
  · refine .inr ⟨k, hk, ?_, he, by rw [he]; simp, fun i hi => hne _ (h i hi)⟩
    have := Lib.idxOfS_hit l l.length k x hk (Nat.le_refl _) (by rw [hgd k hk]; exact he) (fun j hj => by rw [hgd j (by omega)]; exact h j hj)
    rwa [List.take_length] at this
/-- A name's place, if the schema is right. -/
def placeI (rs : Bool) (r : Int) : Int := if rs = true ∧ 0 ≤ r then r else 0
def placeB (rs : Bool) (r : Int) : Bool := rs && decide (0 ≤ r)

set_option maxHeartbeats 1000000 in
theorem place_any (vd vm vl : Value) (ds ms l : List ByteArray) (g : Int) (x : ByteArray) (w : World) (hd : StrsSl w vd ds) (hm : StrsSl w vm ms) (td : Texts ds) (tm : Texts ms) (hl : StrsSl w vl l) (tl : Texts l) :
    Calls Try.prog 45 #[.agg #[vd, vm, .int .i64 g], vl, .string x] w fun e w' => e = .returned (.tuple #[.int .i64 (placeI (rightS ds ms g) (Lib.idxOfS l x)), .bool (placeB (rightS ds ms g) (Lib.idxOfS l x))]) ∧ Below w.heap.size w w' := by
  have HR := hid (fun W (h : Below w.heap.size w W) => right_any vd vm ds ms g W (hd.below h) (hm.below h) td tm)
  have HX := hid (fun W (h : Below w.heap.size w W) => index_any vl l x W (hl.below h) tl.1)
  obtain ⟨ad, cd, rfl, _, _, _⟩ := SlAt.shape hd
  obtain ⟨am, cm, rfl, _, _, _⟩ := SlAt.shape hm
  obtain ⟨al, cl, rfl, _, _, _⟩ := SlAt.shape hl
  have hr := idx_is l x
  have hr2 : Lib.idxOfS l x = -1 ∨ ∃ k : Nat, Lib.idxOfS l x = k := by
    rcases hr with ⟨h, _⟩ | ⟨k, _, h, _⟩
    · exact .inl h
    · exact .inr ⟨k, h⟩
  clear hr hd hm hl td tm tl
  generalize ds.length = nd at *
  generalize ms.length = nm at *
  generalize l.length = nl at *
  generalize rightS ds ms g = rs at *
  generalize Lib.idxOfS l x = r at *
  cases rs with
  | false =>
    have hI : placeI false r = 0 := by simp [placeI]
    have hB : placeB false r = false := by simp [placeB]
    rw [hI, hB]
    clear hI hB hr2
    go_enter Try.func45, Try.ntmps45
    go_wp2_with (first
      | (go_at_call 80; ((with_reducible refine (HX.out _ (by (repeat' (first | (with_reducible exact Below.refl _ _) | (with_reducible assumption) | (with_reducible refine Below.new ?_ _) | (with_reducible refine Below.alloc ?_ ?_ _) | (with_reducible refine Below.drew ?_) | (with_reducible refine Below.drewN ?_ _) | (with_reducible refine Below.setCell ?_ ?_ _) | (refine Below.step ?_ (by assumption)) | go_size)))).mono ?_); rintro e w1 ⟨rfl, rfl⟩))
      | (go_at_call 21; ((with_reducible refine (HR.out _ (by (repeat' (first | (with_reducible exact Below.refl _ _) | (with_reducible assumption) | (with_reducible refine Below.new ?_ _) | (with_reducible refine Below.alloc ?_ ?_ _) | (with_reducible refine Below.drew ?_) | (with_reducible refine Below.drewN ?_ _) | (with_reducible refine Below.setCell ?_ ?_ _) | (refine Below.step ?_ (by assumption)) | go_size)))).mono ?_); rintro e w2 ⟨rfl, hb2⟩)))
    go_ret2
    exact ⟨rfl, by (repeat' (first | (with_reducible exact Below.refl _ _) | (with_reducible assumption) | (with_reducible refine Below.new ?_ _) | (with_reducible refine Below.alloc ?_ ?_ _) | (with_reducible refine Below.drew ?_) | (with_reducible refine Below.drewN ?_ _) | (with_reducible refine Below.setCell ?_ ?_ _) | (refine Below.step ?_ (by assumption)) | go_size))⟩
  | true =>
    rcases hr2 with rfl | ⟨k, rfl⟩
    · have hI : placeI true (-1) = 0 := by simp [placeI]
      have hB : placeB true (-1) = false := by simp [placeB]
      rw [hI, hB]
      clear hI hB
      go_enter Try.func45, Try.ntmps45
      go_wp2_with (first
        | (go_at_call 80; ((with_reducible refine (HX.out _ (by (repeat' (first | (with_reducible exact Below.refl _ _) | (with_reducible assumption) | (with_reducible refine Below.new ?_ _) | (with_reducible refine Below.alloc ?_ ?_ _) | (with_reducible refine Below.drew ?_) | (with_reducible refine Below.drewN ?_ _) | (with_reducible refine Below.setCell ?_ ?_ _) | (refine Below.step ?_ (by assumption)) | go_size)))).mono ?_); rintro e w1 ⟨rfl, rfl⟩))
        | (go_at_call 21; ((with_reducible refine (HR.out _ (by (repeat' (first | (with_reducible exact Below.refl _ _) | (with_reducible assumption) | (with_reducible refine Below.new ?_ _) | (with_reducible refine Below.alloc ?_ ?_ _) | (with_reducible refine Below.drew ?_) | (with_reducible refine Below.drewN ?_ _) | (with_reducible refine Below.setCell ?_ ?_ _) | (refine Below.step ?_ (by assumption)) | go_size)))).mono ?_); rintro e w2 ⟨rfl, hb2⟩)))
      go_ret2
      exact ⟨rfl, by (repeat' (first | (with_reducible exact Below.refl _ _) | (with_reducible assumption) | (with_reducible refine Below.new ?_ _) | (with_reducible refine Below.alloc ?_ ?_ _) | (with_reducible refine Below.drew ?_) | (with_reducible refine Below.drewN ?_ _) | (with_reducible refine Below.setCell ?_ ?_ _) | (refine Below.step ?_ (by assumption)) | go_size))⟩
    · have hI : placeI true (k : Int) = (k : Int) := by simp [placeI]
      have hB : placeB true (k : Int) = true := by simp [placeB]
      rw [hI, hB]
      clear hI hB
      have hk : decide ((k : Int) < 0) = false := by simp
      go_enter Try.func45, Try.ntmps45
      go_wp2_with (first
        | (go_at_call 80; ((with_reducible refine (HX.out _ (by (repeat' (first | (with_reducible exact Below.refl _ _) | (with_reducible assumption) | (with_reducible refine Below.new ?_ _) | (with_reducible refine Below.alloc ?_ ?_ _) | (with_reducible refine Below.drew ?_) | (with_reducible refine Below.drewN ?_ _) | (with_reducible refine Below.setCell ?_ ?_ _) | (refine Below.step ?_ (by assumption)) | go_size)))).mono ?_); rintro e w1 ⟨rfl, rfl⟩))
        | (go_at_call 21; ((with_reducible refine (HR.out _ (by (repeat' (first | (with_reducible exact Below.refl _ _) | (with_reducible assumption) | (with_reducible refine Below.new ?_ _) | (with_reducible refine Below.alloc ?_ ?_ _) | (with_reducible refine Below.drew ?_) | (with_reducible refine Below.drewN ?_ _) | (with_reducible refine Below.setCell ?_ ?_ _) | (refine Below.step ?_ (by assumption)) | go_size)))).mono ?_); rintro e w2 ⟨rfl, hb2⟩)))
      go_ret2
      exact ⟨rfl, by (repeat' (first | (with_reducible exact Below.refl _ _) | (with_reducible assumption) | (with_reducible refine Below.new ?_ _) | (with_reducible refine Below.alloc ?_ ?_ _) | (with_reducible refine Below.drew ?_) | (with_reducible refine Below.drewN ?_ _) | (with_reducible refine Below.setCell ?_ ?_ _) | (refine Below.step ?_ (by assumption)) | go_size))⟩

theorem dim_any (vd vm : Value) (ds ms : List ByteArray) (g : Int) (x : ByteArray) (w : World) (hd : StrsSl w vd ds) (hm : StrsSl w vm ms) (td : Texts ds) (tm : Texts ms) :
    Calls Try.prog 17 #[.agg #[vd, vm, .int .i64 g], .string x] w fun e w' => e = .returned (.tuple #[.int .i64 (placeI (rightS ds ms g) (Lib.idxOfS ds x)), .bool (placeB (rightS ds ms g) (Lib.idxOfS ds x))]) ∧ Below w.heap.size w w' := by
  have HP := hid (fun W (h : Below w.heap.size w W) => place_any vd vm vd ds ms ds g x W (hd.below h) (hm.below h) td tm (hd.below h) td)
  obtain ⟨ad, cd, rfl, _, _, _⟩ := SlAt.shape hd
  obtain ⟨am, cm, rfl, _, _, _⟩ := SlAt.shape hm
  clear hd hm td tm
  generalize placeI (rightS ds ms g) (Lib.idxOfS ds x) = pi at *
  generalize placeB (rightS ds ms g) (Lib.idxOfS ds x) = pb at *
  generalize ds.length = nd at *
  generalize ms.length = nm at *
  go_enter Try.func17, Try.ntmps17
  go_wp2_with (go_at_call 45; ((with_reducible refine (HP.out _ (by (repeat' (first | (with_reducible exact Below.refl _ _) | (with_reducible assumption) | (with_reducible refine Below.new ?_ _) | (with_reducible refine Below.alloc ?_ ?_ _) | (with_reducible refine Below.drew ?_) | (with_reducible refine Below.drewN ?_ _) | (with_reducible refine Below.setCell ?_ ?_ _) | (refine Below.step ?_ (by assumption)) | go_size)))).mono ?_); rintro e w1 ⟨rfl, hb1⟩))
  go_ret2
  exact ⟨rfl, by (repeat' (first | (with_reducible exact Below.refl _ _) | (with_reducible assumption) | (with_reducible refine Below.new ?_ _) | (with_reducible refine Below.alloc ?_ ?_ _) | (with_reducible refine Below.drew ?_) | (with_reducible refine Below.drewN ?_ _) | (with_reducible refine Below.setCell ?_ ?_ _) | (refine Below.step ?_ (by assumption)) | go_size))⟩
theorem metric_any (vd vm : Value) (ds ms : List ByteArray) (g : Int) (x : ByteArray) (w : World) (hd : StrsSl w vd ds) (hm : StrsSl w vm ms) (td : Texts ds) (tm : Texts ms) :
    Calls Try.prog 19 #[.agg #[vd, vm, .int .i64 g], .string x] w fun e w' => e = .returned (.tuple #[.int .i64 (placeI (rightS ds ms g) (Lib.idxOfS ms x)), .bool (placeB (rightS ds ms g) (Lib.idxOfS ms x))]) ∧ Below w.heap.size w w' := by
  have HP := hid (fun W (h : Below w.heap.size w W) => place_any vd vm vm ds ms ms g x W (hd.below h) (hm.below h) td tm (hm.below h) tm)
  obtain ⟨ad, cd, rfl, _, _, _⟩ := SlAt.shape hd
  obtain ⟨am, cm, rfl, _, _, _⟩ := SlAt.shape hm
  clear hd hm td tm
  generalize placeI (rightS ds ms g) (Lib.idxOfS ms x) = pi at *
  generalize placeB (rightS ds ms g) (Lib.idxOfS ms x) = pb at *
  generalize ds.length = nd at *
  generalize ms.length = nm at *
  go_enter Try.func19, Try.ntmps19
  go_wp2_with (go_at_call 45; ((with_reducible refine (HP.out _ (by (repeat' (first | (with_reducible exact Below.refl _ _) | (with_reducible assumption) | (with_reducible refine Below.new ?_ _) | (with_reducible refine Below.alloc ?_ ?_ _) | (with_reducible refine Below.drew ?_) | (with_reducible refine Below.drewN ?_ _) | (with_reducible refine Below.setCell ?_ ?_ _) | (refine Below.step ?_ (by assumption)) | go_size)))).mono ?_); rintro e w1 ⟨rfl, hb1⟩))
  go_ret2
  exact ⟨rfl, by (repeat' (first | (with_reducible exact Below.refl _ _) | (with_reducible assumption) | (with_reducible refine Below.new ?_ _) | (with_reducible refine Below.alloc ?_ ?_ _) | (with_reducible refine Below.drew ?_) | (with_reducible refine Below.drewN ?_ _) | (with_reducible refine Below.setCell ?_ ?_ _) | (refine Below.step ?_ (by assumption)) | go_size))⟩

set_option maxHeartbeats 1000000 in
theorem refPlace_any (vl : Value) (l : List ByteArray) (x : ByteArray) (w : World) (hl : StrsSl w vl l) (tl : Texts l) :
    Calls Try.prog 46 #[vl, .string x] w fun e w' => e = .returned (.tuple #[.int .i64 (placeI true (Lib.idxOfS l x)), .bool (placeB true (Lib.idxOfS l x))]) ∧ w = w' := by
  obtain ⟨J, hJ, hpre, hat, hI, hB⟩ : ∃ J, J ≤ l.length ∧ (∀ i (hi : i < l.length), i < J → (l[i].toList == x.toList) = false) ∧ (∀ hj : J < l.length, (l[J].toList == x.toList) = true) ∧ placeI true (Lib.idxOfS l x) = (if J < l.length then (J : Int) else 0) ∧ placeB true (Lib.idxOfS l x) = decide (J < l.length) := by
    rcases idx_is l x with ⟨h, h2⟩ | ⟨k, hk, h, _, h2, h3⟩
    · exact ⟨l.length, Nat.le_refl _, fun i hi _ => h2 i hi, fun h => absurd h (Nat.lt_irrefl _), by rw [h]; simp [placeI], by rw [h]; simp [placeB]⟩
    · exact ⟨k, by omega, fun i _ hi => h3 i hi, fun _ => h2, by rw [h]; simp [placeI, hk], by rw [h]; simp [placeB, hk]⟩
  rw [hI, hB]
  clear hI hB
  have HPRE := hid hpre; have HAT := hid hat; have HV := hid hl
  obtain ⟨al, cl, rfl, _, hcl, _⟩ := SlAt.shape hl
  have tl1 := tl.1
  clear hpre hat hl tl
  obtain ⟨N, hN⟩ : ∃ N, l.length = N := ⟨_, rfl⟩
  have HN := hid hN
  rw [hN] at hJ tl1 ⊢
  simp only [hN] at HV
  clear hN
  go_enter Try.func46, Try.ntmps46
  go_wp2
  go_loop [6] (fun i => ∃ k : Nat, k ≤ J ∧ i = .int .i64 k) (fun i => N - (intOf i).toNat)
  case atStart => exact ⟨0, Nat.zero_le _, rfl⟩
  case round =>
    obtain ⟨k, hk, rfl⟩ := hrel
    by_cases hkN : k < N
    · have hlen : k < l.length := by rw [HN.out]; exact hkN
      have hp := SlAt.parts HV.out
      obtain ⟨b, off, rfl, hcell⟩ := hp.2.2.2.2 (by simp; omega)
      have ck := hcell k (.string l[k]) (by rw [List.getElem?_map, List.getElem?_eq_getElem hlen]; rfl)
      clear hcell hp
      by_cases hkJ : k < J
      · have hq := HPRE.out k hlen hkJ
        generalize l[k] = s at *
        go_wp2
        go_round
        case rel => exact ⟨k + 1, hkJ, by go_num⟩
        case measure => simp [intOf]; omega
      · obtain rfl : k = J := by omega
        have hq := HAT.out hlen
        generalize l[k] = s at *
        have H1 : Hid ((if k < N then (k : Int) else 0) = (k : Int)) := if_pos hkN
        have H2 : Hid (decide (k < N) = true) := decide_eq_true hkN
        clear hcl
        go_wp2
        go_ret2
        exact ⟨by first | rfl | rw [H1.out, H2.out], rfl⟩
    · have H1 : Hid ((if J < N then (J : Int) else 0) = 0) := if_neg (by omega)
      have H2 : Hid (decide (J < N) = false) := decide_eq_false (by omega)
      go_wp2
      go_ret2
      exact ⟨by first | rfl | rw [H1.out, H2.out], rfl⟩
end Go.Proofs.Ytdgeinipdphoeaa
/- Schemas: the reference's 'Dim', 'Metric', 'Fits'. -/
namespace Go.Proofs.Ytdgeinipdphoeaa
set_option linter.unusedVariables false
set_option linter.unusedSimpArgs false
set_option maxRecDepth 100000
open Go.ChangeShapes Go.WideShapes Go.ChangeAt Go.RowKit

theorem placeI_false (r : Int) : placeI false r = 0 := by simp [placeI]
theorem placeB_false (r : Int) : placeB false r = false := by simp [placeB]

set_option maxHeartbeats 1000000 in
theorem refDim_any (vd vm : Value) (ds ms : List ByteArray) (g : Int) (x : ByteArray) (w : World) (hd : StrsSl w vd ds) (hm : StrsSl w vm ms) (td : Texts ds) (tm : Texts ms) :
    Calls Try.prog 18 #[.agg #[vd, vm, .int .i64 g], .string x] w fun e w' => e = .returned (.tuple #[.int .i64 (placeI (rightS ds ms g) (Lib.idxOfS ds x)), .bool (placeB (rightS ds ms g) (Lib.idxOfS ds x))]) ∧ Below w.heap.size w w' := by
  have HR := hid (fun W (h : Below w.heap.size w W) => refRight_any vd vm ds ms g W (hd.below h) (hm.below h) td tm)
  have HP := hid (fun W (h : Below w.heap.size w W) => refPlace_any vd ds x W (hd.below h) td)
  obtain ⟨ad, cd, rfl, _, _, _⟩ := SlAt.shape hd
  obtain ⟨am, cm, rfl, _, _, _⟩ := SlAt.shape hm
  clear hd hm td tm
  generalize Lib.idxOfS ds x = r at *
  generalize ds.length = nd at *
  generalize ms.length = nm at *
  generalize rightS ds ms g = rs at *
  cases rs with
  | false =>
    rw [placeI_false, placeB_false]
    go_enter Try.func18, Try.ntmps18
    go_wp2_with (go_at_call 22; ((with_reducible refine (HR.out _ (by (repeat' (first | (with_reducible exact Below.refl _ _) | (with_reducible assumption) | (with_reducible refine Below.new ?_ _) | (with_reducible refine Below.alloc ?_ ?_ _) | (with_reducible refine Below.drew ?_) | (with_reducible refine Below.drewN ?_ _) | (with_reducible refine Below.setCell ?_ ?_ _) | (refine Below.step ?_ (by assumption)) | go_size)))).mono ?_); rintro e w1 ⟨rfl, hb1⟩; obtain ⟨hc1, hf1, hk1, hz1⟩ := bcell3 hb1; (try simp only [World.size_alloc, World.size_drew] at hz1); have : w.heap.size < w1.heap.size := (by omega)))
    go_ret2
    exact ⟨rfl, by (repeat' (first | (with_reducible exact Below.refl _ _) | (with_reducible assumption) | (with_reducible refine Below.new ?_ _) | (with_reducible refine Below.alloc ?_ ?_ _) | (with_reducible refine Below.drew ?_) | (with_reducible refine Below.drewN ?_ _) | (with_reducible refine Below.setCell ?_ ?_ _) | (refine Below.step ?_ (by assumption)) | go_size))⟩
  | true =>
    generalize placeI true r = pi at *
    generalize placeB true r = pb at *
    go_enter Try.func18, Try.ntmps18
    go_wp2_with (first
      | (go_at_call 22; ((with_reducible refine (HR.out _ (by (repeat' (first | (with_reducible exact Below.refl _ _) | (with_reducible assumption) | (with_reducible refine Below.new ?_ _) | (with_reducible refine Below.alloc ?_ ?_ _) | (with_reducible refine Below.drew ?_) | (with_reducible refine Below.drewN ?_ _) | (with_reducible refine Below.setCell ?_ ?_ _) | (refine Below.step ?_ (by assumption)) | go_size)))).mono ?_); rintro e w1 ⟨rfl, hb1⟩; obtain ⟨hc1, hf1, hk1, hz1⟩ := bcell3 hb1; (try simp only [World.size_alloc, World.size_drew] at hz1); have : w.heap.size < w1.heap.size := (by omega)))
      | (go_at_call 46; ((with_reducible refine (HP.out _ (by (repeat' (first | (with_reducible exact Below.refl _ _) | (with_reducible assumption) | (with_reducible refine Below.new ?_ _) | (with_reducible refine Below.alloc ?_ ?_ _) | (with_reducible refine Below.drew ?_) | (with_reducible refine Below.drewN ?_ _) | (with_reducible refine Below.setCell ?_ ?_ _) | (refine Below.step ?_ (by assumption)) | go_size)))).mono ?_); rintro e w2 ⟨rfl, rfl⟩)))
    go_ret2
    exact ⟨rfl, by (repeat' (first | (with_reducible exact Below.refl _ _) | (with_reducible assumption) | (with_reducible refine Below.new ?_ _) | (with_reducible refine Below.alloc ?_ ?_ _) | (with_reducible refine Below.drew ?_) | (with_reducible refine Below.drewN ?_ _) | (with_reducible refine Below.setCell ?_ ?_ _) | (refine Below.step ?_ (by assumption)) | go_size))⟩

set_option maxHeartbeats 1000000 in
theorem refMetric_any (vd vm : Value) (ds ms : List ByteArray) (g : Int) (x : ByteArray) (w : World) (hd : StrsSl w vd ds) (hm : StrsSl w vm ms) (td : Texts ds) (tm : Texts ms) :
    Calls Try.prog 20 #[.agg #[vd, vm, .int .i64 g], .string x] w fun e w' => e = .returned (.tuple #[.int .i64 (placeI (rightS ds ms g) (Lib.idxOfS ms x)), .bool (placeB (rightS ds ms g) (Lib.idxOfS ms x))]) ∧ Below w.heap.size w w' := by
  have HR := hid (fun W (h : Below w.heap.size w W) => refRight_any vd vm ds ms g W (hd.below h) (hm.below h) td tm)
  have HP := hid (fun W (h : Below w.heap.size w W) => refPlace_any vm ms x W (hm.below h) tm)
  obtain ⟨ad, cd, rfl, _, _, _⟩ := SlAt.shape hd
  obtain ⟨am, cm, rfl, _, _, _⟩ := SlAt.shape hm
  clear hd hm td tm
  generalize Lib.idxOfS ms x = r at *
  generalize ds.length = nd at *
  generalize ms.length = nm at *
  generalize rightS ds ms g = rs at *
  cases rs with
  | false =>
    rw [placeI_false, placeB_false]
    go_enter Try.func20, Try.ntmps20
    go_wp2_with (go_at_call 22; ((with_reducible refine (HR.out _ (by (repeat' (first | (with_reducible exact Below.refl _ _) | (with_reducible assumption) | (with_reducible refine Below.new ?_ _) | (with_reducible refine Below.alloc ?_ ?_ _) | (with_reducible refine Below.drew ?_) | (with_reducible refine Below.drewN ?_ _) | (with_reducible refine Below.setCell ?_ ?_ _) | (refine Below.step ?_ (by assumption)) | go_size)))).mono ?_); rintro e w1 ⟨rfl, hb1⟩; obtain ⟨hc1, hf1, hk1, hz1⟩ := bcell3 hb1; (try simp only [World.size_alloc, World.size_drew] at hz1); have : w.heap.size < w1.heap.size := (by omega)))
    go_ret2
    exact ⟨rfl, by (repeat' (first | (with_reducible exact Below.refl _ _) | (with_reducible assumption) | (with_reducible refine Below.new ?_ _) | (with_reducible refine Below.alloc ?_ ?_ _) | (with_reducible refine Below.drew ?_) | (with_reducible refine Below.drewN ?_ _) | (with_reducible refine Below.setCell ?_ ?_ _) | (refine Below.step ?_ (by assumption)) | go_size))⟩
  | true =>
    generalize placeI true r = pi at *
    generalize placeB true r = pb at *
    go_enter Try.func20, Try.ntmps20
    go_wp2_with (first
      | (go_at_call 22; ((with_reducible refine (HR.out _ (by (repeat' (first | (with_reducible exact Below.refl _ _) | (with_reducible assumption) | (with_reducible refine Below.new ?_ _) | (with_reducible refine Below.alloc ?_ ?_ _) | (with_reducible refine Below.drew ?_) | (with_reducible refine Below.drewN ?_ _) | (with_reducible refine Below.setCell ?_ ?_ _) | (refine Below.step ?_ (by assumption)) | go_size)))).mono ?_); rintro e w1 ⟨rfl, hb1⟩; obtain ⟨hc1, hf1, hk1, hz1⟩ := bcell3 hb1; (try simp only [World.size_alloc, World.size_drew] at hz1); have : w.heap.size < w1.heap.size := (by omega)))
      | (go_at_call 46; ((with_reducible refine (HP.out _ (by (repeat' (first | (with_reducible exact Below.refl _ _) | (with_reducible assumption) | (with_reducible refine Below.new ?_ _) | (with_reducible refine Below.alloc ?_ ?_ _) | (with_reducible refine Below.drew ?_) | (with_reducible refine Below.drewN ?_ _) | (with_reducible refine Below.setCell ?_ ?_ _) | (refine Below.step ?_ (by assumption)) | go_size)))).mono ?_); rintro e w2 ⟨rfl, rfl⟩)))
    go_ret2
    exact ⟨rfl, by (repeat' (first | (with_reducible exact Below.refl _ _) | (with_reducible assumption) | (with_reducible refine Below.new ?_ _) | (with_reducible refine Below.alloc ?_ ?_ _) | (with_reducible refine Below.drew ?_) | (with_reducible refine Below.drewN ?_ _) | (with_reducible refine Below.setCell ?_ ?_ _) | (refine Below.step ?_ (by assumption)) | go_size))⟩

set_option maxHeartbeats 2000000 in
theorem refFits_any (vd vm vr vn : Value) (ds ms : List ByteArray) (g t : Int) (l : List ValD) (n : Nat) (cs : List Value) (w : World) (hd : StrsSl w vd ds) (hm : StrsSl w vm ms) (td : Texts ds) (tm : Texts ms) (hr : ValsSl w vr l) (tr : Vals l) (hn : SlAt w vn n 1 cs) :
    Calls Try.prog 24 #[.agg #[vd, vm, .int .i64 g], .agg #[.int .i64 t, vr, vn]] w fun e w' => e = .returned (.bool (fitsS ds ms g t l n)) ∧ Below w.heap.size w w' := by
  have HR := hid (fun W (h : Below w.heap.size w W) => refRight_any vd vm ds ms g W (hd.below h) (hm.below h) td tm)
  obtain ⟨ad, cd, rfl, _, _, _⟩ := SlAt.shape hd
  obtain ⟨am, cm, rfl, _, _, _⟩ := SlAt.shape hm
  obtain ⟨ar, cr, rfl, hcr, hcr2, _⟩ := SlAt.shape hr
  obtain ⟨an, cn, rfl, _, hcn, _⟩ := SlAt.shape hn
  have td1 := td.1; have tm1 := tm.1; have tr1 := tr.1
  obtain ⟨J, hJ, hpre, hat, hall⟩ : ∃ J, J ≤ l.length ∧ (∀ i (hi : i < l.length), i < J → okV l[i] = true) ∧ (∀ hj : J < l.length, okV l[J] = false) ∧ l.all okV = decide (J = l.length) := by
    rcases firstV l with ⟨h1, h2⟩ | ⟨h1, j, hj, h2, h3⟩
    · exact ⟨l.length, Nat.le_refl _, fun i hi _ => h2 i hi, fun h => absurd h (Nat.lt_irrefl _), by rw [h1]; simp⟩
    · exact ⟨j, by omega, fun i _ hi => h3 i hi, fun _ => h2, by rw [h1]; exact (decide_eq_false (by omega)).symm⟩
  have hF : fitsS ds ms g t l n = (rightS ds ms g && (decide (0 ≤ t ∧ t ≤ 1000000000000) && (decide (l.length = ds.length) && (decide (n = ms.length) && decide (J = l.length))))) := by rw [← hall]; rfl
  rw [hF]
  obtain ⟨_, _, _, _, hA⟩ := ValsSl.parts hr
  have HA := hid (ValsSl.parts hr)
  have HP := hid hpre; have HT := hid hat
  have HZ := hid (fun i (hi : i < l.length) => tr.2 l[i] (List.getElem_mem hi))
  clear hd hm hr hn hF td tm tr hall hpre hat hA
  obtain ⟨nl, hnl⟩ : ∃ nl, l.length = nl := ⟨_, rfl⟩
  have HL := hid hnl
  rw [hnl] at hJ tr1 hcr ⊢
  clear hnl
  generalize ds.length = nd at *
  generalize ms.length = nm at *
  generalize rightS ds ms g = rs at *
  cases rs with
  | false =>
    rw [Bool.false_and]
    go_enter Try.func24, Try.ntmps24
    go_wp2_with (go_at_call 22; ((with_reducible refine (HR.out _ (by (repeat' (first | (with_reducible exact Below.refl _ _) | (with_reducible assumption) | (with_reducible refine Below.new ?_ _) | (with_reducible refine Below.alloc ?_ ?_ _) | (with_reducible refine Below.drew ?_) | (with_reducible refine Below.drewN ?_ _) | (with_reducible refine Below.setCell ?_ ?_ _) | (refine Below.step ?_ (by assumption)) | go_size)))).mono ?_); rintro e w1 ⟨rfl, hb1⟩; obtain ⟨hc1, hf1, hk1, hz1⟩ := bcell3 hb1; (try simp only [World.size_alloc, World.size_drew] at hz1); have : w.heap.size < w1.heap.size := (by omega); have : w.heap.size + 1 < w1.heap.size := (by omega)))
    go_ret
    exact ⟨rfl, by (repeat' (first | (with_reducible exact Below.refl _ _) | (with_reducible assumption) | (with_reducible refine Below.new ?_ _) | (with_reducible refine Below.alloc ?_ ?_ _) | (with_reducible refine Below.drew ?_) | (with_reducible refine Below.drewN ?_ _) | (with_reducible refine Below.setCell ?_ ?_ _) | (refine Below.step ?_ (by assumption)) | go_size))⟩
  | true =>
    rw [Bool.true_and]
    by_cases h1 : 0 ≤ t
    · by_cases h2 : t ≤ 1000000000000
      · rw [decide_eq_true (show 0 ≤ t ∧ t ≤ 1000000000000 from ⟨h1, h2⟩), Bool.true_and]
        by_cases h3 : nl = nd
        · by_cases h4 : n = nm
          · rw [decide_eq_true h3, decide_eq_true h4, Bool.true_and, Bool.true_and]
            subst h3 h4
            go_enter Try.func24, Try.ntmps24
            go_wp2_with (go_at_call 22; ((with_reducible refine (HR.out _ (by (repeat' (first | (with_reducible exact Below.refl _ _) | (with_reducible assumption) | (with_reducible refine Below.new ?_ _) | (with_reducible refine Below.alloc ?_ ?_ _) | (with_reducible refine Below.drew ?_) | (with_reducible refine Below.drewN ?_ _) | (with_reducible refine Below.setCell ?_ ?_ _) | (refine Below.step ?_ (by assumption)) | go_size)))).mono ?_); rintro e w1 ⟨rfl, hb1⟩; obtain ⟨hc1, hf1, hk1, hz1⟩ := bcell3 hb1; (try simp only [World.size_alloc, World.size_drew] at hz1); have : w.heap.size < w1.heap.size := (by omega); have : w.heap.size + 1 < w1.heap.size := (by omega)))
            have hB1 : Below w.heap.size w w1 := by (repeat' (first | (with_reducible exact Below.refl _ _) | (with_reducible assumption) | (with_reducible refine Below.new ?_ _) | (with_reducible refine Below.alloc ?_ ?_ _) | (with_reducible refine Below.drew ?_) | (with_reducible refine Below.drewN ?_ _) | (with_reducible refine Below.setCell ?_ ?_ _) | (refine Below.step ?_ (by assumption)) | go_size))
            have q0 : w1.cell? ⟨w.heap.size + 1, 1, none⟩ = some (.slice ar nl cr) := by go_simp
            clear hc1 hf1 hk1 hz1
            have HB1 := hid hB1
            clear hB1
            go_loopw [5] (fun i wr => ∃ k : Nat, k ≤ J ∧ i = .int .i64 k ∧ Below w1.heap.size w1 wr) (fun i _ => nl - (intOf i).toNat)
            case atStart => exact ⟨0, Nat.zero_le _, rfl, Below.refl _ _⟩
            case round =>
              obtain ⟨k, hk, rfl, hbel⟩ := hrel
              have q1 := cell_step q0 hbel
              by_cases hkL : k < nl
              · have hlen : k < l.length := by rw [HL.out]; exact hkL
                obtain ⟨ao, cap, e, _, _, _, hall⟩ := HA.out
                simp only [Value.slice.injEq] at e
                obtain ⟨rfl, _, rfl⟩ := e
                obtain ⟨b, off, rfl, hc⟩ := hall (by omega)
                obtain ⟨c1, c2⟩ := hc k hlen
                have hBw := HB1.out.trans (hbel.mono HB1.out.size)
                have d1 := cell_step c1 hBw
                have d2 := cell_step c2 hBw
                have hz := HZ.out k hlen
                have hok : okV l[k] = decide (k < J) := by
                  by_cases h : k < J
                  · rw [HP.out k hlen h]; simp [h]
                  · obtain rfl : k = J := by omega
                    rw [HT.out hlen]; simp
                unfold okV at hok
                have HI := hid (fun W => refValue_any l[k].s hz l[k].nl W)
                rw [hok] at HI
                have HB := hid hBw
                clear hok hz hc c1 c2 hBw hall
                generalize l[k].s = s at *
                generalize l[k].nl = bl at *
                have HB2 := hid hbel
                clear hbel
                by_cases hkj : k < J
                · have hd : decide (k < J) = true := by simp [hkj]
                  rw [hd] at HI
                  clear hd
                  go_wp2_with (go_at_call 54; ((with_reducible refine (HI.out _).mono ?_); rintro e w2 ⟨rfl, hb2⟩))
                  go_roundw
                  case rel => exact ⟨k + 1, hkj, by go_num, by have := HB2.out; (repeat' (first | (with_reducible exact Below.refl _ _) | (with_reducible assumption) | (with_reducible refine Below.new ?_ _) | (with_reducible refine Below.alloc ?_ ?_ _) | (with_reducible refine Below.drew ?_) | (with_reducible refine Below.drewN ?_ _) | (with_reducible refine Below.setCell ?_ ?_ _) | (refine Below.step ?_ (by assumption)) | go_size))⟩
                  case measure => simp [intOf]; omega
                · have hd : decide (k < J) = false := by simp [hkj]
                  rw [hd] at HI
                  clear hd
                  obtain rfl : k = J := by omega
                  have HE : Hid (decide (k = nl) = false) := decide_eq_false (by omega)
                  go_wp2_with (go_at_call 54; ((with_reducible refine (HI.out _).mono ?_); rintro e w2 ⟨rfl, hb2⟩))
                  go_ret
                  exact ⟨by first | rfl | (rw [HE.out]; rfl), by have := HB.out; (repeat' (first | (with_reducible exact Below.refl _ _) | (with_reducible assumption) | (with_reducible refine Below.new ?_ _) | (with_reducible refine Below.alloc ?_ ?_ _) | (with_reducible refine Below.drew ?_) | (with_reducible refine Below.drewN ?_ _) | (with_reducible refine Below.setCell ?_ ?_ _) | (refine Below.step ?_ (by assumption)) | go_size))⟩
              · have HE : Hid (decide (J = nl) = true) := decide_eq_true (by omega)
                have HB := hid (HB1.out.trans (hbel.mono HB1.out.size))
                clear hbel
                go_wp2
                go_ret
                exact ⟨by first | rfl | (rw [HE.out]; rfl), by have := HB.out; (repeat' (first | (with_reducible exact Below.refl _ _) | (with_reducible assumption) | (with_reducible refine Below.new ?_ _) | (with_reducible refine Below.alloc ?_ ?_ _) | (with_reducible refine Below.drew ?_) | (with_reducible refine Below.drewN ?_ _) | (with_reducible refine Below.setCell ?_ ?_ _) | (refine Below.step ?_ (by assumption)) | go_size))⟩
          · rw [decide_eq_true h3, decide_eq_false h4, Bool.true_and, Bool.false_and]
            subst h3
            have hq : ((n : Int) != (nm : Int)) = true := by simp; omega
            clear h4
            go_enter Try.func24, Try.ntmps24
            go_wp2_with (go_at_call 22; ((with_reducible refine (HR.out _ (by (repeat' (first | (with_reducible exact Below.refl _ _) | (with_reducible assumption) | (with_reducible refine Below.new ?_ _) | (with_reducible refine Below.alloc ?_ ?_ _) | (with_reducible refine Below.drew ?_) | (with_reducible refine Below.drewN ?_ _) | (with_reducible refine Below.setCell ?_ ?_ _) | (refine Below.step ?_ (by assumption)) | go_size)))).mono ?_); rintro e w1 ⟨rfl, hb1⟩; obtain ⟨hc1, hf1, hk1, hz1⟩ := bcell3 hb1; (try simp only [World.size_alloc, World.size_drew] at hz1); have : w.heap.size < w1.heap.size := (by omega); have : w.heap.size + 1 < w1.heap.size := (by omega)))
            go_ret
            exact ⟨rfl, by (repeat' (first | (with_reducible exact Below.refl _ _) | (with_reducible assumption) | (with_reducible refine Below.new ?_ _) | (with_reducible refine Below.alloc ?_ ?_ _) | (with_reducible refine Below.drew ?_) | (with_reducible refine Below.drewN ?_ _) | (with_reducible refine Below.setCell ?_ ?_ _) | (refine Below.step ?_ (by assumption)) | go_size))⟩
        · rw [decide_eq_false h3, Bool.false_and]
          have hq : ((nl : Int) != (nd : Int)) = true := by simp; omega
          clear h3
          go_enter Try.func24, Try.ntmps24
          go_wp2_with (go_at_call 22; ((with_reducible refine (HR.out _ (by (repeat' (first | (with_reducible exact Below.refl _ _) | (with_reducible assumption) | (with_reducible refine Below.new ?_ _) | (with_reducible refine Below.alloc ?_ ?_ _) | (with_reducible refine Below.drew ?_) | (with_reducible refine Below.drewN ?_ _) | (with_reducible refine Below.setCell ?_ ?_ _) | (refine Below.step ?_ (by assumption)) | go_size)))).mono ?_); rintro e w1 ⟨rfl, hb1⟩; obtain ⟨hc1, hf1, hk1, hz1⟩ := bcell3 hb1; (try simp only [World.size_alloc, World.size_drew] at hz1); have : w.heap.size < w1.heap.size := (by omega); have : w.heap.size + 1 < w1.heap.size := (by omega)))
          go_ret
          exact ⟨rfl, by (repeat' (first | (with_reducible exact Below.refl _ _) | (with_reducible assumption) | (with_reducible refine Below.new ?_ _) | (with_reducible refine Below.alloc ?_ ?_ _) | (with_reducible refine Below.drew ?_) | (with_reducible refine Below.drewN ?_ _) | (with_reducible refine Below.setCell ?_ ?_ _) | (refine Below.step ?_ (by assumption)) | go_size))⟩
      · rw [decide_eq_false (show ¬ (0 ≤ t ∧ t ≤ 1000000000000) from by omega), Bool.false_and]
        go_enter Try.func24, Try.ntmps24
        go_wp2_with (go_at_call 22; ((with_reducible refine (HR.out _ (by (repeat' (first | (with_reducible exact Below.refl _ _) | (with_reducible assumption) | (with_reducible refine Below.new ?_ _) | (with_reducible refine Below.alloc ?_ ?_ _) | (with_reducible refine Below.drew ?_) | (with_reducible refine Below.drewN ?_ _) | (with_reducible refine Below.setCell ?_ ?_ _) | (refine Below.step ?_ (by assumption)) | go_size)))).mono ?_); rintro e w1 ⟨rfl, hb1⟩; obtain ⟨hc1, hf1, hk1, hz1⟩ := bcell3 hb1; (try simp only [World.size_alloc, World.size_drew] at hz1); have : w.heap.size < w1.heap.size := (by omega); have : w.heap.size + 1 < w1.heap.size := (by omega)))
        go_ret
        exact ⟨rfl, by (repeat' (first | (with_reducible exact Below.refl _ _) | (with_reducible assumption) | (with_reducible refine Below.new ?_ _) | (with_reducible refine Below.alloc ?_ ?_ _) | (with_reducible refine Below.drew ?_) | (with_reducible refine Below.drewN ?_ _) | (with_reducible refine Below.setCell ?_ ?_ _) | (refine Below.step ?_ (by assumption)) | go_size))⟩
    · rw [decide_eq_false (show ¬ (0 ≤ t ∧ t ≤ 1000000000000) from by omega), Bool.false_and]
      go_enter Try.func24, Try.ntmps24
      go_wp2_with (go_at_call 22; ((with_reducible refine (HR.out _ (by (repeat' (first | (with_reducible exact Below.refl _ _) | (with_reducible assumption) | (with_reducible refine Below.new ?_ _) | (with_reducible refine Below.alloc ?_ ?_ _) | (with_reducible refine Below.drew ?_) | (with_reducible refine Below.drewN ?_ _) | (with_reducible refine Below.setCell ?_ ?_ _) | (refine Below.step ?_ (by assumption)) | go_size)))).mono ?_); rintro e w1 ⟨rfl, hb1⟩; obtain ⟨hc1, hf1, hk1, hz1⟩ := bcell3 hb1; (try simp only [World.size_alloc, World.size_drew] at hz1); have : w.heap.size < w1.heap.size := (by omega); have : w.heap.size + 1 < w1.heap.size := (by omega)))
      go_ret
      exact ⟨rfl, by (repeat' (first | (with_reducible exact Below.refl _ _) | (with_reducible assumption) | (with_reducible refine Below.new ?_ _) | (with_reducible refine Below.alloc ?_ ?_ _) | (with_reducible refine Below.drew ?_) | (with_reducible refine Below.drewN ?_ _) | (with_reducible refine Below.setCell ?_ ?_ _) | (refine Below.step ?_ (by assumption)) | go_size))⟩
end Go.Proofs.Ytdgeinipdphoeaa
/- What the laws cut: values of at most ten, texts. -/
namespace Go.Proofs.Ytdgeinipdphoeaa
set_option linter.unusedVariables false
set_option linter.unusedSimpArgs false
set_option maxRecDepth 100000
open Go.ChangeShapes Go.WideShapes Go.ChangeAt Go.RowKit

def cutS (n : Nat) (s : ByteArray) : ByteArray := s.extract 0 (min s.size n)
theorem cutS_size (n : Nat) (s : ByteArray) : (cutS n s).size ≤ n := by unfold cutS; rw [ByteArray.size_extract]; omega
theorem cutS_is (n : Nat) (s : ByteArray) : s.extract 0 (min (s.size : Int) (n : Int)).toNat = cutS n s := by
  unfold cutS
  rw [show (min (s.size : Int) (n : Int)).toNat = min s.size n by omega]
def valCut (v : ValD) : ValD := ⟨cutS 110 v.s, v.nl⟩
def valsCut (l : List ValD) : List ValD := (l.take 10).map valCut
theorem info_val : (Try.prog.info? 54).map (fun i => (i.zero, i.size, i.bytes)) = some (some (.agg #[.string { data := #[] }, .bool false]), 2, 24) := by kernel_rfl

set_option maxHeartbeats 2000000 in
theorem vals_any (v : Value) (l : List ValD) (w : World) (hv : ValsSl w v l) (hl : ∀ v ∈ l, v.s.size ≤ 9223372036854775807) :
    Calls Try.prog 44 #[v] w fun e w' => ∃ v', e = .returned v' ∧ w'.ownsRow w.heap.size 54 2 v' (valsCut l).length ((valsCut l).flatMap ValD.cells) ∧ Below w.heap.size w w' := by
  obtain ⟨i0, hi, hiz0, hiz1, hiz2⟩ := info_parts info_val
  obtain ⟨ao, cap, rfl, h1, h2, h3, hA⟩ := ValsSl.parts hv
  have HA := hid hA
  have HZ := hid (fun i (hi : i < l.length) => hl l[i] (List.getElem_mem hi))
  clear hl
  obtain ⟨N, hN⟩ : ∃ N, min l.length 10 = N := ⟨_, rfl⟩
  have HN := hid hN
  have HLn : Hid ((valsCut l).length = N) := by unfold Hid; rw [← hN]; simp [valsCut, Nat.min_comm]
  rw [HLn.out]
  have HT : Hid (∀ k (hk : k < l.length), k < N → ((l.take (k + 1)).map valCut).flatMap ValD.cells = ((l.take k).map valCut).flatMap ValD.cells ++ [.string (cutS 110 l[k].s), .bool l[k].nl]) := fun k hk _ => by
    rw [List.take_succ_eq_append_getElem hk, List.map_append, List.flatMap_append]
    rfl
  obtain ⟨R, hR⟩ : ∃ R, (valsCut l).flatMap ValD.cells = R := ⟨_, rfl⟩
  rw [hR]
  have HE : Hid (((l.take N).map valCut).flatMap ValD.cells = R) := by
    unfold Hid
    rw [← hR]
    unfold valsCut
    congr 2
    rw [← hN]
    by_cases h : l.length ≤ 10
    · rw [List.take_of_length_le (by omega), List.take_of_length_le h]
    · rw [show min l.length 10 = 10 by omega]
  clear hA hv HLn hR
  unfold maxLen at h2
  obtain ⟨L, hL⟩ : ∃ L, l.length = L := ⟨_, rfl⟩
  have HL := hid hL
  have hN10 : N ≤ 10 := by omega
  have hNL : N ≤ L := by omega
  have hcase : N = L ∨ N = 10 := by omega
  have HCS := hid hcase
  rw [hL] at h1 ⊢
  clear hL hN hcase
  go_enter Try.func44, Try.ntmps44
  go_wp2
  go_loopw [3, 4] (fun o i wr => ∃ k : Nat, k ≤ N ∧ i = .int .i64 k ∧ wr.ownsRow w.heap.size 54 2 o k (((l.take k).map valCut).flatMap ValD.cells) ∧ Below w.heap.size w wr) (fun _ i _ => N - (intOf i).toNat)
  case atStart => exact ⟨0, Nat.zero_le _, rfl, by simpa using World.ownsRow_nil _ _ _ _, Below.refl _ _⟩
  case round =>
    obtain ⟨k, hk, rfl, hown, hbel⟩ := hrel
    by_cases hkN : k < N
    · have hlen : k < l.length := by rw [HL.out]; omega
      obtain ⟨b, off, rfl, hc⟩ := HA.out (by omega)
      obtain ⟨c1, c2⟩ := hc k hlen
      have hblt : b < w.heap.size := World.block_lt_of_cell? _ _ c1
      have d1 := cell_step c1 hbel
      have d2 := cell_step c2 hbel
      have hz := HZ.out k hlen
      have ht := HT.out k hlen hkN
      generalize l[k].s = s at *
      generalize l[k].nl = bl at *
      have HT2 := hid ht; have HB := hid hbel; have HO := hid hown
      clear ht hbel hown hc c1 c2
      have g1 : (0 : Int) ≤ (k : Int) := Int.natCast_nonneg _
      have g2 : (k : Int) < (L : Int) := by omega
      have g3 : k < L := by omega
      have g4 : k < 10 := by omega
      obtain ⟨W0, hW0⟩ : ∃ W0, wr = W0 := ⟨_, rfl⟩
      rw [hW0] at HB HO d1 d2 ⊢
      clear hW0
      have im := ite_min
      have q1 : (0 : Int) ≤ min (s.size : Int) 110 := by omega
      have q2 : min (s.size : Int) 110 ≤ (s.size : Int) := by omega
      have q3 : s.extract 0 (min (s.size : Int) 110).toNat = cutS 110 s := cutS_is 110 s
      go_wp2
      go_region_held3 (fun w' => w'.cell? ⟨b, off + k * 2, none⟩ = some (.string s) ∧ w'.cell? ⟨b, off + k * 2 + 1, none⟩ = some (.bool bl)) (first | exact ⟨e0, e1⟩ | go_keep) ((first
        | (refine step_append_sl _ (by rfl) _ _ _ (by rfl) w.heap.size 54 i0 (.agg #[.string { data := #[] }, .bool false]) 2 24 Try.underlying25 hi hiz0 hiz1 hiz2 rfl (by decide) _ k _ (by rfl) ((HO.out.alloc _).drew) (.slice (some ⟨W0.heap.size, 0, none⟩) 1 1) 1 [.string (cutS 110 s), .bool bl] (by rfl) ((SlAt.new W0 #[.string (cutS 110 s), .bool bl] 54).drew) (by simp [Value.oneCell']) (by unfold maxLen; omega) (by omega) (by have := HB.out.size; go_size) ?_; intro v1 w1 hown1 hgrow1 hb1; have e0 : w1.cell? ⟨b, off + k * 2, none⟩ = some (.string s) := own_far ((HO.out.alloc _).drew) hgrow1 hblt (by go_simp); have e1 : w1.cell? ⟨b, off + k * 2 + 1, none⟩ = some (.bool bl) := own_far ((HO.out.alloc _).drew) hgrow1 hblt (by go_simp); have hB1 : Below w.heap.size w w1 := own_below ((HO.out.alloc _).drew) hgrow1 (by have := HB.out; (repeat' (first | (with_reducible exact Below.refl _ _) | (with_reducible assumption) | (with_reducible refine Below.new ?_ _) | (with_reducible refine Below.alloc ?_ ?_ _) | (with_reducible refine Below.drew ?_) | (with_reducible refine Below.drewN ?_ _) | (with_reducible refine Below.setCell ?_ ?_ _) | (refine Below.step ?_ (by assumption)) | go_size))) (Nat.le_refl _))))
      have hown2 : w1.ownsRow w.heap.size 54 2 v1 (k + 1) (((l.take (k + 1)).map valCut).flatMap ValD.cells) := by rw [HT2.out]; exact hown1
      have HO2 := hid hown2; have HB2 := hid hB1
      clear hown1 hown2 hgrow1 hb1 hB1
      go_wp2
      go_roundw
      case rel => exact ⟨k + 1, by omega, by go_num, HO2.out, HB2.out⟩
      case measure => simp [intOf]; omega
    · obtain rfl : k = N := by omega
      rw [HE.out] at hown
      have HO := hid hown; have HB := hid hbel
      clear hown hbel
      rcases HCS.out with h | h
      · subst h
        go_wp2
        go_ret
        exact ⟨u3, rfl, HO.out, HB.out⟩
      · subst h
        by_cases h10 : L = 10
        · subst h10
          go_wp2
          go_ret
          exact ⟨u3, rfl, HO.out, HB.out⟩
        · have h11 : 10 < L := by omega
          clear h10
          go_wp2
          go_ret
          exact ⟨u3, rfl, HO.out, HB.out⟩
end Go.Proofs.Ytdgeinipdphoeaa
/- What the laws cut: schemas. -/
namespace Go.Proofs.Ytdgeinipdphoeaa
set_option linter.unusedVariables false
set_option linter.unusedSimpArgs false
set_option maxRecDepth 100000
open Go.ChangeShapes Go.WideShapes Go.ChangeAt Go.RowKit

def txtCut (n m : Nat) (ss : List ByteArray) : List ByteArray := (ss.take m).map (cutS n)
theorem txt_snoc (n : Nat) {ss : List ByteArray} {k : Nat} (hk : k < ss.length) : strsV ((ss.take (k + 1)).map (cutS n)) = strsV ((ss.take k).map (cutS n)) ++ [.string (cutS n ss[k])] := by
  rw [List.take_succ_eq_append_getElem hk, List.map_append]
  unfold strsV
  rw [List.map_append]
  rfl
theorem three_is {w : World} {b : Nat} {x y z : Value} {t : TypeId} (h : w.heap[b]? = some (.cells #[x, y, z] t (0, 0))) : w.cell? ⟨b, 0, none⟩ = some x ∧ w.cell? ⟨b, 1, none⟩ = some y ∧ w.cell? ⟨b, 2, none⟩ = some z ∧ w.frozen? ⟨b, 0, none⟩ = false ∧ w.frozen? ⟨b, 1, none⟩ = false ∧ w.frozen? ⟨b, 2, none⟩ = false := by
  unfold World.cell? World.frozen?
  rw [h]
  simp

theorem ownsRow_far {w : World} {base b o : Nat} {e : TypeId} {size : Nat} {v : Value} {n : Nat} {xs : List Value} (h : w.ownsRow base e size v n xs) (hb : b < base) {u : Value} : (w.setCell ⟨b, o, none⟩ u).ownsRow base e size v n xs := by
  refine ⟨h.1, ?_⟩
  rcases h.2 with h2 | ⟨g, cap, cur, hv, hg, hh, r⟩
  · exact .inl h2
  · exact .inr ⟨g, cap, cur, hv, hg, (heap_set_other (by omega)).trans hh, r⟩
theorem row_cnt {w : World} {base : Nat} {e : TypeId} {v : Value} {n : Nat} {X : List ByteArray} (h : w.ownsRow base e 1 v n (strsV X)) : w.ownsRow base e 1 v X.length (strsV X) := by
  have := h.1
  simp at this
  subst this
  exact h
set_option maxHeartbeats 4000000 in
theorem cut_any (vd vm : Value) (ds ms : List ByteArray) (g : Int) (w : World) (hd : StrsSl w vd ds) (hm : StrsSl w vm ms) (td : ∀ s ∈ ds, s.size ≤ 9223372036854775807) (tm : ∀ s ∈ ms, s.size ≤ 9223372036854775807) :
    Calls Try.prog 14 #[.agg #[vd, vm, .int .i64 g]] w fun e w' => ∃ v1 v2, e = .returned (.agg #[v1, v2, .int .i64 g]) ∧ w'.ownsRow w.heap.size 9 1 v1 (txtCut 30 10 ds).length (strsV (txtCut 30 10 ds)) ∧ w'.ownsRow w.heap.size 9 1 v2 (txtCut 30 10 ms).length (strsV (txtCut 30 10 ms)) ∧ Below w.heap.size w w' := by
  obtain ⟨i0, hi, hiz0, hiz1, hiz2⟩ := info_parts info_string
  have HD := hid hd; have HM := hid hm
  have HZD := hid (fun i (hi : i < ds.length) => td ds[i] (List.getElem_mem hi))
  have HZM := hid (fun i (hi : i < ms.length) => tm ms[i] (List.getElem_mem hi))
  obtain ⟨ad, cd, rfl, hcd, hcd2, _⟩ := SlAt.shape hd
  obtain ⟨am, cm, rfl, hcm, hcm2, _⟩ := SlAt.shape hm
  obtain ⟨LD, hLD⟩ : ∃ L, ds.length = L := ⟨_, rfl⟩
  obtain ⟨LM, hLM⟩ : ∃ L, ms.length = L := ⟨_, rfl⟩
  have HLD := hid hLD; have HLM := hid hLM
  obtain ⟨N, hN⟩ : ∃ N, min LD 10 = N := ⟨_, rfl⟩
  obtain ⟨M, hM⟩ : ∃ M, min LM 10 = M := ⟨_, rfl⟩
  have HCN : Hid ((N = LD ∨ N = 10) ∧ N ≤ LD ∧ N ≤ 10) := by unfold Hid; omega
  have HCM : Hid ((M = LM ∨ M = 10) ∧ M ≤ LM ∧ M ≤ 10) := by unfold Hid; omega
  rw [hLD] at hcd ⊢
  rw [hLM] at hcm ⊢
  clear hd hm td tm hLD hLM hN hM
  unfold maxLen at hcd2 hcm2
  go_enter Try.func14, Try.ntmps14
  go_wp2
  go_loopw [4] (fun i wr => ∃ k v, k ≤ N ∧ i = .int .i64 (k : Nat) ∧ wr.heap[w.heap.size + 1 + 1]? = some (.cells #[v, .slice none 0 0, .int .i64 0] 24 (0, 0)) ∧ wr.heap[w.heap.size]? = some (.cells #[.slice ad LD cd, .slice am LM cm, .int .i64 g] 24 (0, 0)) ∧ wr.heap[w.heap.size + 1]? = some (.cells #[.slice none 0 0, .slice none 0 0, .int .i64 0] 24 (0, 0)) ∧ wr.ownsRow (w.heap.size + 1 + 1 + 1) 9 1 v k (strsV ((ds.take k).map (cutS 30))) ∧ Below w.heap.size w wr) (fun i _ => N - (intOf i).toNat)
  case atStart => exact ⟨0, _, Nat.zero_le _, rfl, by (simp (disch := first | omega | (simp only [World.size_alloc, World.size_setCell, World.size_drew]; done) | (simp only [World.size_alloc, World.size_setCell, World.size_drew]; omega)) only [heap_at, heap_past, heap_set_other, heap_set_same]), by (simp (disch := first | omega | (simp only [World.size_alloc, World.size_setCell, World.size_drew]; done) | (simp only [World.size_alloc, World.size_setCell, World.size_drew]; omega)) only [heap_at, heap_past, heap_set_other, heap_set_same]), by (simp (disch := first | omega | (simp only [World.size_alloc, World.size_setCell, World.size_drew]; done) | (simp only [World.size_alloc, World.size_setCell, World.size_drew]; omega)) only [heap_at, heap_past, heap_set_other, heap_set_same]), World.ownsRow_nil _ _ _ _, by (repeat' (first | (with_reducible exact Below.refl _ _) | (with_reducible assumption) | (with_reducible refine Below.new ?_ _) | (with_reducible refine Below.alloc ?_ ?_ _) | (with_reducible refine Below.drew ?_) | (with_reducible refine Below.drewN ?_ _) | (with_reducible refine Below.setCell ?_ ?_ _) | (refine Below.step ?_ (by assumption)) | go_size))⟩
  case round =>
    obtain ⟨k, v, hk, rfl, hb2, hb0, hb1', hown, hbel⟩ := hrel
    obtain ⟨c20, c21, c22, f20, f21, f22⟩ := three_is hb2
    obtain ⟨c00, c01, c02, _, _, _⟩ := three_is hb0
    by_cases hkN : k < N
    · have hkL : k < LD := by have := HCN.out; omega
      have hk10 : k < 10 := by have := HCN.out; omega
      have hlen : k < ds.length := by rw [HLD.out]; exact hkL
      obtain ⟨b, off, rfl, hcell⟩ := (SlAt.parts HD.out).2.2.2.2 (by simp; omega)
      have ck := hcell k (.string ds[k]) (by rw [List.getElem?_map, List.getElem?_eq_getElem hlen]; rfl)
      have hblt : b < w.heap.size := World.block_lt_of_cell? _ _ ck
      have dk := cell_step ck hbel
      have hz := HZD.out k hlen
      have HT := hid (txt_snoc 30 hlen)
      generalize ds[k] = s at *
      have z2 := blk_lt hb2
      have z0 := blk_lt hb0
      have z3 : b < wr.heap.size := World.block_lt_of_cell? _ _ dk
      have HB := hid hbel; have HO := hid hown; have H2 := hid hb2; have H0 := hid hb0; have H1b := hid hb1'; have z1 := blk_lt hb1'
      clear hcell ck hbel hown hb2 hb0 hb1'
      have g1 : (0 : Int) ≤ (k : Int) := Int.natCast_nonneg _
      have g2 : (k : Int) < (LD : Int) := by omega
      have im := ite_min
      have q1 : (0 : Int) ≤ min (s.size : Int) 30 := by omega
      have q2 : min (s.size : Int) 30 ≤ (s.size : Int) := by omega
      have q3 : s.extract 0 (min (s.size : Int) 30).toNat = cutS 30 s := cutS_is 30 s
      go_wp2
      have hS0 : (fun w' : World => w'.cell? ⟨w.heap.size, 0, none⟩ = some (.slice (some ⟨b, off, none⟩) LD cd) ∧ w'.cell? ⟨w.heap.size + 1 + 1, 0, none⟩ = some v ∧ w'.cell? ⟨b, off + k, none⟩ = some (.string s)) wr.drew := ⟨c00, c20, dk⟩
      refine wp_region_some (fun w' : World => w'.cell? ⟨w.heap.size, 0, none⟩ = some (.slice (some ⟨b, off, none⟩) LD cd) ∧ w'.cell? ⟨w.heap.size + 1 + 1, 0, none⟩ = some v ∧ w'.cell? ⟨b, off + k, none⟩ = some (.string s)) [16, 17, 18] (by kernel_rfl) ?_
      (refine wpMix_take (i := 0) (v := ?_) rfl (by kernel_rfl) (fun _ _ _ h => h) (Or.inl ⟨by rfl, ?_⟩) hS0 ?_; rotate_left 1; (focus (intro w hSw; (try dsimp only at hSw); go_simp; try (with_reducible rfl))); (try simp only [Act.put, List.setIfInBounds_toArray, List.set_cons_zero, List.set_cons_succ]))
      (refine wpMix_take (i := 1) (v := ?_) rfl (by kernel_rfl) (fun _ _ _ h => h) (Or.inl ⟨by rfl, ?_⟩) hS0 ?_; rotate_left 1; (focus (intro w hSw; (try dsimp only at hSw); go_simp; try (with_reducible rfl))); (try simp only [Act.put, List.setIfInBounds_toArray, List.set_cons_zero, List.set_cons_succ]))
      (refine wpMix_take (i := 2) (v := ?_) rfl (by kernel_rfl) (fun _ _ _ h => h) (Or.inl ⟨by rfl, ?_⟩) hS0 ?_; rotate_left 1; (focus (intro w hSw; (try dsimp only at hSw); go_simp; try (with_reducible rfl))); (try simp only [Act.put, List.setIfInBounds_toArray, List.set_cons_zero, List.set_cons_succ]))
      (refine wpMix_take (i := 3) (v := ?_) rfl (by kernel_rfl) (fun _ _ _ h => h) (Or.inl ⟨by rfl, ?_⟩) hS0 ?_; rotate_left 1; (focus (intro w hSw; (try dsimp only at hSw); go_simp; try (with_reducible rfl))); (try simp only [Act.put, List.setIfInBounds_toArray, List.set_cons_zero, List.set_cons_succ]))
      (refine wpMix_take (i := 4) (v := ?_) rfl (by kernel_rfl) (fun _ _ _ h => h) (Or.inl ⟨by rfl, ?_⟩) hS0 ?_; rotate_left 1; (focus (intro w hSw; (try dsimp only at hSw); go_simp; try (with_reducible rfl))); (try simp only [Act.put, List.setIfInBounds_toArray, List.set_cons_zero, List.set_cons_succ]))
      (refine wpMix_take (i := 5) (v := ?_) rfl (by kernel_rfl) (fun _ _ _ h => h) (Or.inl ⟨by rfl, ?_⟩) hS0 ?_; rotate_left 1; (focus (intro w hSw; (try dsimp only at hSw); go_simp; try (with_reducible rfl))); (try simp only [Act.put, List.setIfInBounds_toArray, List.set_cons_zero, List.set_cons_succ]))
      (refine wpMix_take (i := 6) (v := ?_) rfl (by kernel_rfl) (fun _ _ _ h => h) (Or.inl ⟨by rfl, ?_⟩) hS0 ?_; rotate_left 1; (focus (intro w hSw; (try dsimp only at hSw); go_simp; try (with_reducible rfl))); (try simp only [Act.put, List.setIfInBounds_toArray, List.set_cons_zero, List.set_cons_succ]))
      (refine wpMix_take (i := 7) (v := ?_) rfl (by kernel_rfl) (fun _ _ _ h => h) (Or.inl ⟨by rfl, ?_⟩) hS0 ?_; rotate_left 1; (focus (intro w hSw; (try dsimp only at hSw); go_simp; try (with_reducible rfl))); (try simp only [Act.put, List.setIfInBounds_toArray, List.set_cons_zero, List.set_cons_succ]))
      (refine wpMix_take (i := 8) (v := ?_) rfl (by kernel_rfl) (fun _ _ _ h => h) (Or.inl ⟨by rfl, ?_⟩) hS0 ?_; rotate_left 1; (focus (intro w hSw; (try dsimp only at hSw); go_simp; try (with_reducible rfl))); (try simp only [Act.put, List.setIfInBounds_toArray, List.set_cons_zero, List.set_cons_succ]))
      (refine wpMix_take (i := 9) (v := ?_) rfl (by kernel_rfl) (fun _ _ _ h => h) (Or.inl ⟨by rfl, ?_⟩) hS0 ?_; rotate_left 1; (focus (intro w hSw; (try dsimp only at hSw); go_simp; try (with_reducible rfl))); (try simp only [Act.put, List.setIfInBounds_toArray, List.set_cons_zero, List.set_cons_succ]))
      (refine wpMix_take (i := 10) (v := ?_) rfl (by kernel_rfl) (fun _ _ _ h => h) (Or.inl ⟨by rfl, ?_⟩) hS0 ?_; rotate_left 1; (focus (intro w hSw; (try dsimp only at hSw); go_simp; try (with_reducible rfl))); (try simp only [Act.put, List.setIfInBounds_toArray, List.set_cons_zero, List.set_cons_succ]))
      (refine wpMix_take (i := 11) (v := ?_) rfl (by kernel_rfl) (fun _ _ _ h => h) (Or.inl ⟨by rfl, ?_⟩) hS0 ?_; rotate_left 1; (focus (intro w hSw; (try dsimp only at hSw); go_simp; try (with_reducible rfl))); (try simp only [Act.put, List.setIfInBounds_toArray, List.set_cons_zero, List.set_cons_succ]))
      (refine wpMix_take (i := 12) (v := ?_) rfl (by kernel_rfl) (fun _ _ _ h => h) (Or.inl ⟨by rfl, ?_⟩) hS0 ?_; rotate_left 1; (focus (intro w hSw; (try dsimp only at hSw); go_simp; try (with_reducible rfl))); (try simp only [Act.put, List.setIfInBounds_toArray, List.set_cons_zero, List.set_cons_succ]))
      (refine wpMix_take (i := 13) (v := ?_) rfl (by kernel_rfl) (fun _ _ _ h => h) (Or.inl ⟨by rfl, ?_⟩) hS0 ?_; rotate_left 1; (focus (intro w hSw; (try dsimp only at hSw); go_simp; try (with_reducible rfl))); (try simp only [Act.put, List.setIfInBounds_toArray, List.set_cons_zero, List.set_cons_succ]))
      (refine wpMix_take (i := 14) (v := ?_) rfl (by kernel_rfl) (fun _ _ _ h => h) (Or.inl ⟨by rfl, ?_⟩) hS0 ?_; rotate_left 1; (focus (intro w hSw; (try dsimp only at hSw); go_simp; try (with_reducible rfl))); (try simp only [Act.put, List.setIfInBounds_toArray, List.set_cons_zero, List.set_cons_succ]))
      refine wpMix_next (t := 15) (by kernel_rfl) ?_
      simp only [opsAt, List.flatMap_cons, List.flatMap_nil, List.take_succ_cons, List.take_zero, List.drop_succ_cons, List.drop_zero, List.append_nil, List.cons_append, List.nil_append]
      go_wp2
      refine ⟨⟨by go_simp, by go_simp, by go_simp⟩, ?_⟩
      refine wpMix_rest [16, 17, 18] (by kernel_rfl) ?_
      simp only [opsAt, List.flatMap_cons, List.flatMap_nil, List.take_succ_cons, List.take_zero, List.drop_succ_cons, List.drop_zero, List.append_nil, List.cons_append, List.nil_append]
      go_wp2_with (at_builtin; go_loud (refine wpList_append_sl _ rfl _ _ 22 rfl (w.heap.size + 1 + 1 + 1) 9 i0 (.string { data := #[] }) 1 16 Try.underlying22 hi hiz0 hiz1 hiz2 rfl (by decide) v k _ rfl ((HO.out.alloc _).drew) (.slice (some ⟨wr.heap.size, 0, none⟩) 1 1) 1 [.string (cutS 30 s)] rfl ((SlAt.new wr #[.string (cutS 30 s)] 9).drew) (by simp [Value.oneCell']) (by unfold maxLen; omega) (by omega) (by go_size) ?_); intro v1 w1 hown1 hgrow1 hb1; obtain ⟨a1, cp1, rfl, _, _, _⟩ := SlAt.shape (SlAt.own hown1); have hbk : w1.heap[w.heap.size + 1 + 1]? = some (.cells #[v, .slice none 0 0, .int .i64 0] 24 (0, 0)) := own_blk ((HO.out.alloc _).drew) hgrow1 (by omega) ((heap_past z2).trans H2.out); have e0 : w1.cell? ⟨w.heap.size + 1 + 1, 0, none⟩ = some v := (blk_cell hbk).trans rfl; have e1 : w1.frozen? ⟨w.heap.size + 1 + 1, 0, none⟩ = false := blk_free hbk)
      go_roundw
      case rel => exact ⟨k + 1, _, hkN, by go_num, blk_set hbk, (heap_set_other (by omega)).trans (own_blk ((HO.out.alloc _).drew) hgrow1 (by omega) ((heap_past z0).trans H0.out)), (heap_set_other (by omega)).trans (own_blk ((HO.out.alloc _).drew) hgrow1 (by omega) ((heap_past z1).trans H1b.out)), by rw [HT.out]; exact ownsRow_far hown1 (by omega), Below.setCell (own_below ((HO.out.alloc _).drew) hgrow1 (by have := HB.out; (repeat' (first | (with_reducible exact Below.refl _ _) | (with_reducible assumption) | (with_reducible refine Below.new ?_ _) | (with_reducible refine Below.alloc ?_ ?_ _) | (with_reducible refine Below.drew ?_) | (with_reducible refine Below.drewN ?_ _) | (with_reducible refine Below.setCell ?_ ?_ _) | (refine Below.step ?_ (by assumption)) | go_size))) (by omega)) (by simp; omega) _⟩
      case measure => simp [intOf]; omega
    · obtain rfl : k = N := by omega
      have hE : strsV ((ds.take k).map (cutS 30)) = strsV (txtCut 30 10 ds) := by
        have h1 := HCN.out; have h2 := HLD.out
        unfold txtCut
        rcases h1.1 with h | h
        · rw [List.take_of_length_le (by omega), List.take_of_length_le (by omega)]
        · rw [h]
      rw [hE] at hown
      have hv0 : StrsSl wr v (txtCut 30 10 ds) := StrsSl.own hown
      have HV0 := hid hown; have HG := hid (fun g h => (hown.lt g h).2); have HB := hid hbel; have H2 := hid hb2; have H0 := hid hb0; have H1b := hid hb1'; have z1 := blk_lt hb1'
      have hex : LD = k ∨ (k < LD ∧ k = 10) := by have := HCN.out; omega
      have HEX := hid hex
      obtain ⟨a0, cp0, rfl, _, _, _⟩ := SlAt.shape hv0
      generalize (txtCut 30 10 ds).length = n0 at *
      have hVs := hbel.size
      clear hE hown hbel hb2 hb0 hb1' hv0 hex z1
      obtain ⟨V0, hV0⟩ : ∃ V, wr = V := ⟨_, rfl⟩
      rw [hV0] at HV0 HG HB H2 H0 H1b hVs c20 c21 c22 f20 f21 f22 c00 c01 c02 ⊢
      clear hV0
      have zV := blk_lt H2.out
      obtain ⟨n9, hn9⟩ : ∃ n9, k = n9 := ⟨_, rfl⟩
      rw [hn9] at HV0
      clear hn9
      rcases HEX.out with h | ⟨h, h10⟩
      all_goals
        first | subst h | skip
        first | subst h10 | skip
        go_wp2
        go_loopw [5] (fun i wr => ∃ j v, j ≤ M ∧ i = .int .i64 (j : Nat) ∧ wr.heap[w.heap.size + 1 + 1]? = some (.cells #[.slice a0 n0 cp0, v, .int .i64 0] 24 (0, 0)) ∧ wr.heap[w.heap.size]? = some (.cells #[.slice ad LD cd, .slice am LM cm, .int .i64 g] 24 (0, 0)) ∧ wr.heap[w.heap.size + 1]? = some (.cells #[.slice none 0 0, .slice none 0 0, .int .i64 0] 24 (0, 0)) ∧ wr.ownsRow V0.heap.size 9 1 v j (strsV ((ms.take j).map (cutS 30))) ∧ wr.ownsRow (w.heap.size + 1 + 1 + 1) 9 1 (.slice a0 n0 cp0) n9 (strsV (txtCut 30 10 ds)) ∧ V0.heap.size ≤ wr.heap.size ∧ Below w.heap.size w wr) (fun i _ => M - (intOf i).toNat)
        case atStart => exact ⟨0, _, Nat.zero_le _, rfl, H2.out, H0.out, H1b.out, World.ownsRow_nil _ _ _ _, HV0.out, Nat.le_refl _, HB.out⟩
        case round =>
          obtain ⟨j, v, hj, rfl, hb2, hb0, hb1', hown, hown1', hVw, hbel⟩ := hrel
          clear c20 c21 c22 f20 f21 f22 c00 c01 c02
          obtain ⟨c20, c21, c22, f20, f21, f22⟩ := three_is hb2
          obtain ⟨c00, c01, c02, _, _, _⟩ := three_is hb0
          by_cases hjM : j < M
          · have hjL : j < LM := by have := HCM.out; omega
            have hj10 : j < 10 := by have := HCM.out; omega
            have hlen : j < ms.length := by rw [HLM.out]; exact hjL
            obtain ⟨b, off, rfl, hcell⟩ := (SlAt.parts HM.out).2.2.2.2 (by simp; omega)
            have ck := hcell j (.string ms[j]) (by rw [List.getElem?_map, List.getElem?_eq_getElem hlen]; rfl)
            have hblt : b < w.heap.size := World.block_lt_of_cell? _ _ ck
            have dk := cell_step ck hbel
            have hz := HZM.out j hlen
            have HT := hid (txt_snoc 30 hlen)
            generalize ms[j] = s at *
            have z2 := blk_lt hb2
            have z0 := blk_lt hb0
            have z3 : b < wr.heap.size := World.block_lt_of_cell? _ _ dk
            have HB := hid hbel; have HO := hid hown; have H1 := hid hown1'; have H2 := hid hb2; have H0 := hid hb0; have H1b := hid hb1'; have z1 := blk_lt hb1'
            clear hcell ck hbel hown hb2 hb0 hb1' hown1'
            have g1 : (0 : Int) ≤ (j : Int) := Int.natCast_nonneg _
            have g2 : (j : Int) < (LM : Int) := by omega
            have im := ite_min
            have q1 : (0 : Int) ≤ min (s.size : Int) 30 := by omega
            have q2 : min (s.size : Int) 30 ≤ (s.size : Int) := by omega
            have q3 : s.extract 0 (min (s.size : Int) 30).toNat = cutS 30 s := cutS_is 30 s
            go_wp2
            have hS0 : (fun w' : World => w'.cell? ⟨w.heap.size, 1, none⟩ = some (.slice (some ⟨b, off, none⟩) LM cm) ∧ w'.cell? ⟨w.heap.size + 1 + 1, 1, none⟩ = some v ∧ w'.cell? ⟨b, off + j, none⟩ = some (.string s)) wr.drew := ⟨c01, c21, dk⟩
            refine wp_region_some (fun w' : World => w'.cell? ⟨w.heap.size, 1, none⟩ = some (.slice (some ⟨b, off, none⟩) LM cm) ∧ w'.cell? ⟨w.heap.size + 1 + 1, 1, none⟩ = some v ∧ w'.cell? ⟨b, off + j, none⟩ = some (.string s)) [16, 17, 18] (by kernel_rfl) ?_
            (refine wpMix_take (i := 0) (v := ?_) rfl (by kernel_rfl) (fun _ _ _ h => h) (Or.inl ⟨by rfl, ?_⟩) hS0 ?_; rotate_left 1; (focus (intro w hSw; (try dsimp only at hSw); go_simp; try (with_reducible rfl))); (try simp only [Act.put, List.setIfInBounds_toArray, List.set_cons_zero, List.set_cons_succ]))
            (refine wpMix_take (i := 1) (v := ?_) rfl (by kernel_rfl) (fun _ _ _ h => h) (Or.inl ⟨by rfl, ?_⟩) hS0 ?_; rotate_left 1; (focus (intro w hSw; (try dsimp only at hSw); go_simp; try (with_reducible rfl))); (try simp only [Act.put, List.setIfInBounds_toArray, List.set_cons_zero, List.set_cons_succ]))
            (refine wpMix_take (i := 2) (v := ?_) rfl (by kernel_rfl) (fun _ _ _ h => h) (Or.inl ⟨by rfl, ?_⟩) hS0 ?_; rotate_left 1; (focus (intro w hSw; (try dsimp only at hSw); go_simp; try (with_reducible rfl))); (try simp only [Act.put, List.setIfInBounds_toArray, List.set_cons_zero, List.set_cons_succ]))
            (refine wpMix_take (i := 3) (v := ?_) rfl (by kernel_rfl) (fun _ _ _ h => h) (Or.inl ⟨by rfl, ?_⟩) hS0 ?_; rotate_left 1; (focus (intro w hSw; (try dsimp only at hSw); go_simp; try (with_reducible rfl))); (try simp only [Act.put, List.setIfInBounds_toArray, List.set_cons_zero, List.set_cons_succ]))
            (refine wpMix_take (i := 4) (v := ?_) rfl (by kernel_rfl) (fun _ _ _ h => h) (Or.inl ⟨by rfl, ?_⟩) hS0 ?_; rotate_left 1; (focus (intro w hSw; (try dsimp only at hSw); go_simp; try (with_reducible rfl))); (try simp only [Act.put, List.setIfInBounds_toArray, List.set_cons_zero, List.set_cons_succ]))
            (refine wpMix_take (i := 5) (v := ?_) rfl (by kernel_rfl) (fun _ _ _ h => h) (Or.inl ⟨by rfl, ?_⟩) hS0 ?_; rotate_left 1; (focus (intro w hSw; (try dsimp only at hSw); go_simp; try (with_reducible rfl))); (try simp only [Act.put, List.setIfInBounds_toArray, List.set_cons_zero, List.set_cons_succ]))
            (refine wpMix_take (i := 6) (v := ?_) rfl (by kernel_rfl) (fun _ _ _ h => h) (Or.inl ⟨by rfl, ?_⟩) hS0 ?_; rotate_left 1; (focus (intro w hSw; (try dsimp only at hSw); go_simp; try (with_reducible rfl))); (try simp only [Act.put, List.setIfInBounds_toArray, List.set_cons_zero, List.set_cons_succ]))
            (refine wpMix_take (i := 7) (v := ?_) rfl (by kernel_rfl) (fun _ _ _ h => h) (Or.inl ⟨by rfl, ?_⟩) hS0 ?_; rotate_left 1; (focus (intro w hSw; (try dsimp only at hSw); go_simp; try (with_reducible rfl))); (try simp only [Act.put, List.setIfInBounds_toArray, List.set_cons_zero, List.set_cons_succ]))
            (refine wpMix_take (i := 8) (v := ?_) rfl (by kernel_rfl) (fun _ _ _ h => h) (Or.inl ⟨by rfl, ?_⟩) hS0 ?_; rotate_left 1; (focus (intro w hSw; (try dsimp only at hSw); go_simp; try (with_reducible rfl))); (try simp only [Act.put, List.setIfInBounds_toArray, List.set_cons_zero, List.set_cons_succ]))
            (refine wpMix_take (i := 9) (v := ?_) rfl (by kernel_rfl) (fun _ _ _ h => h) (Or.inl ⟨by rfl, ?_⟩) hS0 ?_; rotate_left 1; (focus (intro w hSw; (try dsimp only at hSw); go_simp; try (with_reducible rfl))); (try simp only [Act.put, List.setIfInBounds_toArray, List.set_cons_zero, List.set_cons_succ]))
            (refine wpMix_take (i := 10) (v := ?_) rfl (by kernel_rfl) (fun _ _ _ h => h) (Or.inl ⟨by rfl, ?_⟩) hS0 ?_; rotate_left 1; (focus (intro w hSw; (try dsimp only at hSw); go_simp; try (with_reducible rfl))); (try simp only [Act.put, List.setIfInBounds_toArray, List.set_cons_zero, List.set_cons_succ]))
            (refine wpMix_take (i := 11) (v := ?_) rfl (by kernel_rfl) (fun _ _ _ h => h) (Or.inl ⟨by rfl, ?_⟩) hS0 ?_; rotate_left 1; (focus (intro w hSw; (try dsimp only at hSw); go_simp; try (with_reducible rfl))); (try simp only [Act.put, List.setIfInBounds_toArray, List.set_cons_zero, List.set_cons_succ]))
            (refine wpMix_take (i := 12) (v := ?_) rfl (by kernel_rfl) (fun _ _ _ h => h) (Or.inl ⟨by rfl, ?_⟩) hS0 ?_; rotate_left 1; (focus (intro w hSw; (try dsimp only at hSw); go_simp; try (with_reducible rfl))); (try simp only [Act.put, List.setIfInBounds_toArray, List.set_cons_zero, List.set_cons_succ]))
            (refine wpMix_take (i := 13) (v := ?_) rfl (by kernel_rfl) (fun _ _ _ h => h) (Or.inl ⟨by rfl, ?_⟩) hS0 ?_; rotate_left 1; (focus (intro w hSw; (try dsimp only at hSw); go_simp; try (with_reducible rfl))); (try simp only [Act.put, List.setIfInBounds_toArray, List.set_cons_zero, List.set_cons_succ]))
            (refine wpMix_take (i := 14) (v := ?_) rfl (by kernel_rfl) (fun _ _ _ h => h) (Or.inl ⟨by rfl, ?_⟩) hS0 ?_; rotate_left 1; (focus (intro w hSw; (try dsimp only at hSw); go_simp; try (with_reducible rfl))); (try simp only [Act.put, List.setIfInBounds_toArray, List.set_cons_zero, List.set_cons_succ]))
            refine wpMix_next (t := 15) (by kernel_rfl) ?_
            simp only [opsAt, List.flatMap_cons, List.flatMap_nil, List.take_succ_cons, List.take_zero, List.drop_succ_cons, List.drop_zero, List.append_nil, List.cons_append, List.nil_append]
            go_wp2
            refine ⟨⟨by go_simp, by go_simp, by go_simp⟩, ?_⟩
            refine wpMix_rest [16, 17, 18] (by kernel_rfl) ?_
            simp only [opsAt, List.flatMap_cons, List.flatMap_nil, List.take_succ_cons, List.take_zero, List.drop_succ_cons, List.drop_zero, List.append_nil, List.cons_append, List.nil_append]
            go_wp2_with (at_builtin; go_loud (refine wpList_append_sl _ rfl _ _ 22 rfl V0.heap.size 9 i0 (.string { data := #[] }) 1 16 Try.underlying22 hi hiz0 hiz1 hiz2 rfl (by decide) v j _ rfl ((HO.out.alloc _).drew) (.slice (some ⟨wr.heap.size, 0, none⟩) 1 1) 1 [.string (cutS 30 s)] rfl ((SlAt.new wr #[.string (cutS 30 s)] 9).drew) (by simp [Value.oneCell']) (by unfold maxLen; omega) (by omega) (by have := hVw; simp; omega) ?_); intro v1 w1 hown1 hgrow1 hb1; obtain ⟨a1, cp1, rfl, _, _, _⟩ := SlAt.shape (SlAt.own hown1); have hbk : w1.heap[w.heap.size + 1 + 1]? = some (.cells #[.slice a0 n0 cp0, v, .int .i64 0] 24 (0, 0)) := own_blk ((HO.out.alloc _).drew) hgrow1 (by omega) ((heap_past z2).trans H2.out); have e0 : w1.cell? ⟨w.heap.size + 1 + 1, 1, none⟩ = some v := (blk_cell hbk).trans rfl; have e1 : w1.frozen? ⟨w.heap.size + 1 + 1, 1, none⟩ = false := blk_free hbk)
            go_roundw
            case rel => exact ⟨j + 1, _, hjM, by go_num, blk_set hbk, (heap_set_other (by omega)).trans (own_blk ((HO.out.alloc _).drew) hgrow1 (by omega) ((heap_past z0).trans H0.out)), (heap_set_other (by omega)).trans (own_blk ((HO.out.alloc _).drew) hgrow1 (by omega) ((heap_past z1).trans H1b.out)), by rw [HT.out]; exact ownsRow_far hown1 (by omega), ownsRow_far (((H1.out.alloc _).drew).kept hgrow1 (by cases hg : (Value.slice a0 n0 cp0).ownBlock with | none => exact .inl rfl | some g => exact .inr fun e => by have h1 := HG.out g hg; have h2 := (HO.out.lt g e.symm).1; omega)) (by omega), by have := hgrow1.size; simp at this ⊢; omega, Below.setCell (own_below ((HO.out.alloc _).drew) hgrow1 (by have := HB.out; (repeat' (first | (with_reducible exact Below.refl _ _) | (with_reducible assumption) | (with_reducible refine Below.new ?_ _) | (with_reducible refine Below.alloc ?_ ?_ _) | (with_reducible refine Below.drew ?_) | (with_reducible refine Below.drewN ?_ _) | (with_reducible refine Below.setCell ?_ ?_ _) | (refine Below.step ?_ (by assumption)) | go_size))) (by omega)) (by simp; omega) _⟩
            case measure => simp [intOf]; omega
          · obtain rfl : j = M := by omega
            have hE : strsV ((ms.take j).map (cutS 30)) = strsV (txtCut 30 10 ms) := by
              have h1 := HCM.out; have h2 := HLM.out
              unfold txtCut
              rcases h1.1 with h | h
              · rw [List.take_of_length_le (by omega), List.take_of_length_le (by omega)]
              · rw [h]
            rw [hE] at hown
            have hv1 : StrsSl wr v (txtCut 30 10 ms) := StrsSl.own hown
            obtain ⟨a1, cp1, rfl, _, _, _⟩ := SlAt.shape hv1
            obtain ⟨c10, c11, c12, f10, f11, f12⟩ := three_is hb1'
            have z2 := blk_lt hb2
            have z1 := blk_lt hb1'
            have HV1 := hid hown; have HV2 := hid hown1'; have HB2 := hid hbel; have H2' := hid hb2; have H1' := hid hb1'
            have hex : LM = j ∨ (j < LM ∧ j = 10) := by have := HCM.out; omega
            have HEX2 := hid hex
            generalize (txtCut 30 10 ms).length = n1 at *
            clear hE hown hown1' hbel hb2 hb0 hb1' hv1 hex
            rcases HEX2.out with h | ⟨h, h10⟩
            all_goals
              first | subst h | skip
              first | subst h10 | skip
              go_wp2
              ((show bodyPost _ _ _ _ _ _); refine bodyPost_ret (by simp only [results, Try.results14]; go_simp; try rfl) rfl ?_)
              have x1 := ownsRow_far (b := w.heap.size + 1 + 1) (o := 2) (u := .int .i64 g) HV2.out (by omega)
              have x2 := ownsRow_far (b := w.heap.size + 1) (o := 0) (u := .slice a0 n0 cp0) x1 (by omega)
              have x3 := ownsRow_far (b := w.heap.size + 1) (o := 1) (u := .slice a1 n1 cp1) x2 (by omega)
              have x4 := (row_cnt (ownsRow_far (b := w.heap.size + 1) (o := 2) (u := .int .i64 g) x3 (by omega))).base_le (b' := w.heap.size) (by omega)
              have y1 := ownsRow_far (b := w.heap.size + 1 + 1) (o := 2) (u := .int .i64 g) HV1.out (by omega)
              have y2 := ownsRow_far (b := w.heap.size + 1) (o := 0) (u := .slice a0 n0 cp0) y1 (by omega)
              have y3 := ownsRow_far (b := w.heap.size + 1) (o := 1) (u := .slice a1 n1 cp1) y2 (by omega)
              have y4 := (row_cnt (ownsRow_far (b := w.heap.size + 1) (o := 2) (u := .int .i64 g) y3 (by omega))).base_le (b' := w.heap.size) (by omega)
              exact ⟨_, _, rfl, x4, y4, by have := HB2.out; (repeat' (first | (with_reducible exact Below.refl _ _) | (with_reducible assumption) | (with_reducible refine Below.new ?_ _) | (with_reducible refine Below.alloc ?_ ?_ _) | (with_reducible refine Below.drew ?_) | (with_reducible refine Below.drewN ?_ _) | (with_reducible refine Below.setCell ?_ ?_ _) | (refine Below.step ?_ (by assumption)) | go_size))⟩
end Go.Proofs.Ytdgeinipdphoeaa
/- What the laws cut: a row; some texts. -/
namespace Go.Proofs.Ytdgeinipdphoeaa
set_option linter.unusedVariables false
set_option linter.unusedSimpArgs false
set_option maxRecDepth 100000
open Go.ChangeShapes Go.WideShapes Go.ChangeAt Go.RowKit

theorem cell_new {w : World} {a : Addr} {v : Value} (h : w.cell? a = some v) (o : Obj) : (w.alloc o).cell? a = some v := (World.cell?_alloc_lt w o a (World.block_lt_of_cell? _ _ h)).trans h
theorem row_far {w : World} {base b o : Nat} {e : TypeId} {size : Nat} {v : Value} {n : Nat} {xs : List Value} (h : w.ownsRow base e size v n xs) (hb : b < base) {u : Value} : (w.setCell ⟨b, o, none⟩ u).ownsRow base e size v n xs := by
  refine ⟨h.1, ?_⟩
  rcases h.2 with h2 | ⟨g, cap, cur, hv, hg, hh, r⟩
  · exact .inl h2
  · exact .inr ⟨g, cap, cur, hv, hg, (heap_set_other (by omega)).trans hh, r⟩
theorem row_below {w w' : World} {base : Nat} {e : TypeId} {size : Nat} {v : Value} {n : Nat} {xs : List Value} (h : w.ownsRow base e size v n xs) (hb : Below w.heap.size w w') : w'.ownsRow base e size v n xs :=
  h.kept (row := none) ⟨hb.os, hb.tape, hb.output, hb.size, fun i hi _ => hb.block i hi⟩ (by cases v.ownBlock <;> simp)
theorem set3 {w : World} {b : Nat} {x y z x' y' z' : Value} {T : TypeId} (h : w.heap[b]? = some (.cells #[x, y, z] T (0, 0))) : (((w.setCell ⟨b, 0, none⟩ x').setCell ⟨b, 1, none⟩ y').setCell ⟨b, 2, none⟩ z').heap[b]? = some (.cells #[x', y', z'] T (0, 0)) := by
  have := blk_set (o := 2) (v := z') (blk_set (o := 1) (v := y') (blk_set (o := 0) (v := x') h))
  simpa using this
theorem set3_other {w : World} {b c : Nat} {x' y' z' : Value} {o : Obj} (h : w.heap[c]? = some o) (hne : c ≠ b) : (((w.setCell ⟨b, 0, none⟩ x').setCell ⟨b, 1, none⟩ y').setCell ⟨b, 2, none⟩ z').heap[c]? = some o :=
  (heap_set_other hne).trans ((heap_set_other hne).trans ((heap_set_other hne).trans h))
theorem row_far3 {w : World} {base b : Nat} {e : TypeId} {size : Nat} {v : Value} {n : Nat} {xs : List Value} (h : w.ownsRow base e size v n xs) (hb : b < base) {x' y' z' : Value} : (((w.setCell ⟨b, 0, none⟩ x').setCell ⟨b, 1, none⟩ y').setCell ⟨b, 2, none⟩ z').ownsRow base e size v n xs :=
  row_far (row_far (row_far h hb) hb) hb
theorem below3 {w0 w : World} {b : Nat} (h : Below w0.heap.size w0 w) (hb : w0.heap.size ≤ b) {x' y' z' : Value} : Below w0.heap.size w0 (((w.setCell ⟨b, 0, none⟩ x').setCell ⟨b, 1, none⟩ y').setCell ⟨b, 2, none⟩ z') :=
  Below.setCell (Below.setCell (Below.setCell h hb _) hb _) hb _
theorem three_at {w : World} {b : Nat} {x y z : Value} {t : TypeId} (h : w.heap[b]? = some (.cells #[x, y, z] t (0, 0))) : w.cell? ⟨b, 0, none⟩ = some x ∧ w.cell? ⟨b, 1, none⟩ = some y ∧ w.cell? ⟨b, 2, none⟩ = some z ∧ w.frozen? ⟨b, 0, none⟩ = false ∧ w.frozen? ⟨b, 1, none⟩ = false ∧ w.frozen? ⟨b, 2, none⟩ = false := by
  unfold World.cell? World.frozen?
  rw [h]
  simp
theorem blk_below {w w' : World} {b : Nat} {o : Obj} (h : w.heap[b]? = some o) (hb : Below w.heap.size w w') : w'.heap[b]? = some o := (hb.block b (blk_lt h)).trans h
set_option maxHeartbeats 2000000 in
theorem fewRow_some (vd : Value) (an : Option Addr) (n cn : Nat) (t : Int) (l : List ValD) (w : World) (hv : ValsSl w vd l) (hl : ∀ v ∈ l, v.s.size ≤ 9223372036854775807) (h1 : n ≤ cn) (h2 : cn ≤ maxLen) (h3 : an = none → cn = 0) :
    Calls Try.prog 15 #[.agg #[.int .i64 t, vd, .slice an n cn]] w fun e w' => ∃ v', e = .returned (.agg #[.int .i64 t, v', .slice an (min n 10) cn]) ∧ w'.ownsRow (w.heap.size + 1 + 1) 54 2 v' (valsCut l).length ((valsCut l).flatMap ValD.cells) ∧ Below w.heap.size w w' := by
  obtain ⟨ad, cd, rfl, hcd, hcd2, _⟩ := SlAt.shape hv
  have HV := hid (fun W (h : Below w.heap.size w W) => vals_any _ l W (hv.below h) hl)
  clear hv
  unfold maxLen at h2
  obtain ⟨M, hM⟩ : ∃ M, min n 10 = M := ⟨_, rfl⟩
  have hM2 : (min (n : Int) 10).toNat = M := by omega
  have hML : M ≤ n := by omega
  rw [hM]
  have HM := hid hM
  clear hM
  generalize (valsCut l).length = N at *
  generalize (valsCut l).flatMap ValD.cells = R at *
  generalize l.length = L at *
  have im := ite_min
  have q1 : (0 : Int) ≤ min (n : Int) 10 := by omega
  have q2 : min (n : Int) 10 ≤ (cn : Int) := by omega
  have q3 : min (n : Int) 10 ≤ (n : Int) := by omega
  go_enter Try.func15, Try.ntmps15
  go_wp2
  have hS0 : (fun w' : World => w'.cell? ⟨w.heap.size, 0, none⟩ = some (.int .i64 t) ∧ w'.cell? ⟨w.heap.size, 1, none⟩ = some (.slice ad L cd) ∧ w'.cell? ⟨w.heap.size, 2, none⟩ = some (.slice an n cn)) ((w.alloc (.cells #[.int .i64 t, .slice ad L cd, .slice an n cn] 28)).alloc (.cells #[.int .i64 0, .slice none 0 0, .slice none 0 0] 28)).drew := ⟨by go_simp, by go_simp, by go_simp⟩
  refine wp_region_some (fun w' : World => w'.cell? ⟨w.heap.size, 0, none⟩ = some (.int .i64 t) ∧ w'.cell? ⟨w.heap.size, 1, none⟩ = some (.slice ad L cd) ∧ w'.cell? ⟨w.heap.size, 2, none⟩ = some (.slice an n cn)) [12, 13] (by kernel_rfl) ?_
  (refine wpMix_take (i := 0) (v := ?_) rfl (by kernel_rfl) (fun _ _ _ h => h) (Or.inl ⟨by rfl, ?_⟩) hS0 ?_; rotate_left 1; (focus (intro w hSw; (try dsimp only at hSw); go_simp; try (with_reducible rfl))); (try simp only [Act.put, List.setIfInBounds_toArray, List.set_cons_zero, List.set_cons_succ]))
  (refine wpMix_take (i := 1) (v := ?_) rfl (by kernel_rfl) (fun _ _ _ h => h) (Or.inl ⟨by rfl, ?_⟩) hS0 ?_; rotate_left 1; (focus (intro w hSw; (try dsimp only at hSw); go_simp; try (with_reducible rfl))); (try simp only [Act.put, List.setIfInBounds_toArray, List.set_cons_zero, List.set_cons_succ]))
  (refine wpMix_take (i := 2) (v := ?_) rfl (by kernel_rfl) (fun _ _ _ h => h) (Or.inl ⟨by rfl, ?_⟩) hS0 ?_; rotate_left 1; (focus (intro w hSw; (try dsimp only at hSw); go_simp; try (with_reducible rfl))); (try simp only [Act.put, List.setIfInBounds_toArray, List.set_cons_zero, List.set_cons_succ]))
  (refine wpMix_take (i := 3) (v := ?_) rfl (by kernel_rfl) (fun _ _ _ h => h) (Or.inl ⟨by rfl, ?_⟩) hS0 ?_; rotate_left 1; (focus (intro w hSw; (try dsimp only at hSw); go_simp; try (with_reducible rfl))); (try simp only [Act.put, List.setIfInBounds_toArray, List.set_cons_zero, List.set_cons_succ]))
  (refine wpMix_take (i := 5) (v := ?_) rfl (by kernel_rfl) (fun _ _ _ h => h) (Or.inl ⟨by rfl, ?_⟩) hS0 ?_; rotate_left 1; (focus (intro w hSw; (try dsimp only at hSw); go_simp; try (with_reducible rfl))); (try simp only [Act.put, List.setIfInBounds_toArray, List.set_cons_zero, List.set_cons_succ]))
  (refine wpMix_take (i := 6) (v := ?_) rfl (by kernel_rfl) (fun _ _ _ h => h) (Or.inl ⟨by rfl, ?_⟩) hS0 ?_; rotate_left 1; (focus (intro w hSw; (try dsimp only at hSw); go_simp; try (with_reducible rfl))); (try simp only [Act.put, List.setIfInBounds_toArray, List.set_cons_zero, List.set_cons_succ]))
  (refine wpMix_take (i := 7) (v := ?_) rfl (by kernel_rfl) (fun _ _ _ h => h) (Or.inl ⟨by rfl, ?_⟩) hS0 ?_; rotate_left 1; (focus (intro w hSw; (try dsimp only at hSw); go_simp; try (with_reducible rfl))); (try simp only [Act.put, List.setIfInBounds_toArray, List.set_cons_zero, List.set_cons_succ]))
  (refine wpMix_take (i := 8) (v := ?_) rfl (by kernel_rfl) (fun _ _ _ h => h) (Or.inl ⟨by rfl, ?_⟩) hS0 ?_; rotate_left 1; (focus (intro w hSw; (try dsimp only at hSw); go_simp; try (with_reducible rfl))); (try simp only [Act.put, List.setIfInBounds_toArray, List.set_cons_zero, List.set_cons_succ]))
  (refine wpMix_take (i := 9) (v := ?_) rfl (by kernel_rfl) (fun _ _ _ h => h) (Or.inl ⟨by rfl, ?_⟩) hS0 ?_; rotate_left 1; (focus (intro w hSw; (try dsimp only at hSw); go_simp; try (with_reducible rfl))); (try simp only [Act.put, List.setIfInBounds_toArray, List.set_cons_zero, List.set_cons_succ]))
  (refine wpMix_take (i := 10) (v := ?_) rfl (by kernel_rfl) (fun _ _ _ h => h) (Or.inl ⟨by rfl, ?_⟩) hS0 ?_; rotate_left 1; (focus (intro w hSw; (try dsimp only at hSw); go_simp; try (with_reducible rfl))); (try simp only [Act.put, List.setIfInBounds_toArray, List.set_cons_zero, List.set_cons_succ]))
  (refine wpMix_take (i := 11) (v := ?_) rfl (by kernel_rfl) (fun _ _ _ h => h) (Or.inl ⟨by rfl, ?_⟩) hS0 ?_; rotate_left 1; (focus (intro w hSw; (try dsimp only at hSw); go_simp; try (with_reducible rfl))); (try simp only [Act.put, List.setIfInBounds_toArray, List.set_cons_zero, List.set_cons_succ]))
  refine wpMix_next (t := 4) (by kernel_rfl) ?_
  simp only [opsAt, List.flatMap_cons, List.flatMap_nil, List.take_succ_cons, List.take_zero, List.drop_succ_cons, List.drop_zero, List.append_nil, List.cons_append, List.nil_append]
  go_wp2_with (go_at_call 44; go_loud ((with_reducible refine (HV.out _ (by (repeat' (first | (with_reducible exact Below.refl _ _) | (with_reducible assumption) | (with_reducible refine Below.new ?_ _) | (with_reducible refine Below.alloc ?_ ?_ _) | (with_reducible refine Below.drew ?_) | (with_reducible refine Below.drewN ?_ _) | (with_reducible refine Below.setCell ?_ ?_ _) | (refine Below.step ?_ (by assumption)) | go_size)))).mono ?_); rintro e w1 ⟨v', rfl, hown, hb1⟩; obtain ⟨hc1, hf1, hk1, hz1⟩ := bcell3 hb1; (try simp only [World.size_alloc, World.size_drew] at hz1); have : w.heap.size < w1.heap.size := (by omega); have : w.heap.size + 1 < w1.heap.size := (by omega); have s0 := cell_step hS0.1 hb1; have s1 := cell_step hS0.2.1 hb1; have s2 := cell_step hS0.2.2 hb1))
  refine ⟨⟨s0, s1, s2⟩, ?_⟩
  refine wpMix_rest [12, 13] (by kernel_rfl) ?_
  simp only [opsAt, List.flatMap_cons, List.flatMap_nil, List.take_succ_cons, List.take_zero, List.drop_succ_cons, List.drop_zero, List.append_nil, List.cons_append, List.nil_append]
  obtain ⟨a1, c1, rfl⟩ : ∃ ao cap, v' = .slice ao N cap := by
    obtain ⟨ao, cap, h, _⟩ := SlAt.shape (SlAt.own hown)
    exact ⟨ao, cap, h⟩
  go_wp2
  ((show bodyPost _ _ _ _ _ _); refine bodyPost_ret (by simp only [results, Try.results15]; go_simp; try rfl) rfl ?_)
  refine ⟨_, rfl, ?_, by (repeat' (first | (with_reducible exact Below.refl _ _) | (with_reducible assumption) | (with_reducible refine Below.new ?_ _) | (with_reducible refine Below.alloc ?_ ?_ _) | (with_reducible refine Below.drew ?_) | (with_reducible refine Below.drewN ?_ _) | (with_reducible refine Below.setCell ?_ ?_ _) | (refine Below.step ?_ (by assumption)) | go_size))⟩
  repeat (refine row_far ?_ (by omega))
  exact hown.base_le (by simp)
/-- The first of some numbers. -/
theorem IntsSl.take {w : World} {an : Option Addr} {cn : Nat} {xs : List Int} (h : IntsSl w (.slice an xs.length cn) xs) (k : Nat) : IntsSl w (.slice an (min xs.length k) cn) (xs.take k) := by
  have h2 := SlAt.take h (k := min xs.length k) (Nat.min_le_left _ _)
  have e : (xs.take k).length = min xs.length k := by rw [List.length_take, Nat.min_comm]
  unfold IntsSl
  rw [e, List.map_take]
  rw [Nat.mul_one] at h2
  by_cases hk : k ≤ xs.length
  · rw [Nat.min_eq_right hk] at h2 ⊢
    exact h2
  · rw [Nat.min_eq_left (by omega)] at h2 ⊢
    rw [List.take_of_length_le (by simp)] at h2
    rw [List.take_of_length_le (by simp; omega)]
    exact h2
theorem fewRow_any (vd vn : Value) (t : Int) (l : List ValD) (xs : List Int) (w : World) (hv : ValsSl w vd l) (hl : ∀ v ∈ l, v.s.size ≤ 9223372036854775807) (hn : IntsSl w vn xs) :
    Calls Try.prog 15 #[.agg #[.int .i64 t, vd, vn]] w fun e w' => ∃ v1 v2, e = .returned (.agg #[.int .i64 t, v1, v2]) ∧ w'.ownsRow (w.heap.size + 1 + 1) 54 2 v1 (valsCut l).length ((valsCut l).flatMap ValD.cells) ∧ (∀ w0, IntsSl w0 vn xs → IntsSl w0 v2 (xs.take 10)) ∧ Below w.heap.size w w' := by
  obtain ⟨an, cn, rfl, h1, h2, h3⟩ := SlAt.shape hn
  exact (fewRow_some vd an xs.length cn t l w hv hl h1 h2 h3).mono fun e w' ⟨v', h1, h2, h3⟩ => ⟨v', _, h1, h2, fun w0 h0 => IntsSl.take h0 10, h3⟩

theorem txt5_snoc {ss : List ByteArray} {k : Nat} (hk : k < ss.length) : strsV ((ss.take (k + 1)).map (cutS 110)) = strsV ((ss.take k).map (cutS 110)) ++ [.string (cutS 110 ss[k])] := by
  rw [List.take_succ_eq_append_getElem hk, List.map_append]
  unfold strsV
  rw [List.map_append]
  rfl
set_option maxHeartbeats 2000000 in
theorem few5_any (vd : Value) (ss : List ByteArray) (n : Nat) (w : World) (hd : StrsSl w vd ss) (hn : n ≤ 1000000000) (td : ∀ s ∈ ss, s.size ≤ 9223372036854775807) :
    Calls Try.prog 16 #[vd, .int .i64 (n : Int)] w fun e w' => ∃ v1, e = .returned v1 ∧ w'.ownsRow w.heap.size 9 1 v1 (min ss.length n) (strsV ((ss.take n).map (cutS 110))) ∧ Below w.heap.size w w' := by
  obtain ⟨i0, hi, hiz0, hiz1, hiz2⟩ := info_parts info_string
  have HD := hid hd
  have HZD := hid (fun i (hi : i < ss.length) => td ss[i] (List.getElem_mem hi))
  obtain ⟨ad, cd, rfl, hcd, hcd2, _⟩ := SlAt.shape hd
  obtain ⟨LD, hLD⟩ : ∃ L, ss.length = L := ⟨_, rfl⟩
  have HLD := hid hLD
  obtain ⟨N, hN⟩ : ∃ N, min LD n = N := ⟨_, rfl⟩
  have HCN : Hid ((N = LD ∨ N = n) ∧ N ≤ LD ∧ N ≤ n) := by unfold Hid; omega
  obtain ⟨R, hR⟩ : ∃ R, strsV ((ss.take n).map (cutS 110)) = R := ⟨_, rfl⟩
  have HR : Hid (strsV ((ss.take N).map (cutS 110)) = R) := by
    unfold Hid
    rw [← hR, ← hN]
    by_cases h : LD ≤ n
    · rw [List.take_of_length_le (by omega), List.take_of_length_le (by omega)]
    · rw [Nat.min_eq_right (by omega)]
  rw [hR]
  rw [hLD] at hcd ⊢
  rw [hN]
  clear hd td hLD hN hR
  unfold maxLen at hcd2
  go_enter Try.func16, Try.ntmps16
  go_wp2
  go_loopw [5, 6] (fun o i wr => ∃ k, k ≤ N ∧ i = .int .i64 (k : Nat) ∧ wr.ownsRow w.heap.size 9 1 o k (strsV ((ss.take k).map (cutS 110))) ∧ Below w.heap.size w wr) (fun _ i _ => N - (intOf i).toNat)
  case atStart => exact ⟨0, Nat.zero_le _, rfl, World.ownsRow_nil _ _ _ _, Below.refl _ _⟩
  case round =>
    obtain ⟨k, hk, rfl, hown, hbel⟩ := hrel
    by_cases hkN : k < N
    · have hkL : k < LD := by have := HCN.out; omega
      have hkn : k < n := by have := HCN.out; omega
      have hlen : k < ss.length := by rw [HLD.out]; exact hkL
      obtain ⟨b, off, rfl, hcell⟩ := (SlAt.parts HD.out).2.2.2.2 (by simp; omega)
      have ck := hcell k (.string ss[k]) (by rw [List.getElem?_map, List.getElem?_eq_getElem hlen]; rfl)
      have dk := cell_step ck hbel
      have hz := HZD.out k hlen
      have HT := hid (txt5_snoc hlen)
      generalize ss[k] = s at *
      have z3 : b < wr.heap.size := World.block_lt_of_cell? _ _ dk
      have zW := hbel.size
      have HB := hid hbel; have HO := hid hown
      clear hcell ck hbel hown
      have g1 : (0 : Int) ≤ (k : Int) := Int.natCast_nonneg _
      have g2 : (k : Int) < (LD : Int) := by omega
      have im := ite_min
      have q1 : (0 : Int) ≤ min (s.size : Int) 110 := by omega
      have q2 : min (s.size : Int) 110 ≤ (s.size : Int) := by omega
      have q3 : s.extract 0 (min (s.size : Int) 110).toNat = cutS 110 s := cutS_is 110 s
      go_wp2
      have hS0 : (fun w' : World => w'.cell? ⟨b, off + k, none⟩ = some (.string s)) wr.drew := dk
      refine wp_region_some (fun w' : World => w'.cell? ⟨b, off + k, none⟩ = some (.string s)) [13, 14] (by kernel_rfl) ?_
      (refine wpMix_take (i := 0) (v := ?_) rfl (by kernel_rfl) (fun _ _ _ h => h) (Or.inl ⟨by rfl, ?_⟩) hS0 ?_; rotate_left 1; (focus (intro w hSw; (try dsimp only at hSw); go_simp; try (with_reducible rfl))); (try simp only [Act.put, List.setIfInBounds_toArray, List.set_cons_zero, List.set_cons_succ]))
      (refine wpMix_take (i := 1) (v := ?_) rfl (by kernel_rfl) (fun _ _ _ h => h) (Or.inl ⟨by rfl, ?_⟩) hS0 ?_; rotate_left 1; (focus (intro w hSw; (try dsimp only at hSw); go_simp; try (with_reducible rfl))); (try simp only [Act.put, List.setIfInBounds_toArray, List.set_cons_zero, List.set_cons_succ]))
      (refine wpMix_take (i := 2) (v := ?_) rfl (by kernel_rfl) (fun _ _ _ h => h) (Or.inl ⟨by rfl, ?_⟩) hS0 ?_; rotate_left 1; (focus (intro w hSw; (try dsimp only at hSw); go_simp; try (with_reducible rfl))); (try simp only [Act.put, List.setIfInBounds_toArray, List.set_cons_zero, List.set_cons_succ]))
      (refine wpMix_take (i := 3) (v := ?_) rfl (by kernel_rfl) (fun _ _ _ h => h) (Or.inl ⟨by rfl, ?_⟩) hS0 ?_; rotate_left 1; (focus (intro w hSw; (try dsimp only at hSw); go_simp; try (with_reducible rfl))); (try simp only [Act.put, List.setIfInBounds_toArray, List.set_cons_zero, List.set_cons_succ]))
      (refine wpMix_take (i := 4) (v := ?_) rfl (by kernel_rfl) (fun _ _ _ h => h) (Or.inl ⟨by rfl, ?_⟩) hS0 ?_; rotate_left 1; (focus (intro w hSw; (try dsimp only at hSw); go_simp; try (with_reducible rfl))); (try simp only [Act.put, List.setIfInBounds_toArray, List.set_cons_zero, List.set_cons_succ]))
      (refine wpMix_take (i := 5) (v := ?_) rfl (by kernel_rfl) (fun _ _ _ h => h) (Or.inl ⟨by rfl, ?_⟩) hS0 ?_; rotate_left 1; (focus (intro w hSw; (try dsimp only at hSw); go_simp; try (with_reducible rfl))); (try simp only [Act.put, List.setIfInBounds_toArray, List.set_cons_zero, List.set_cons_succ]))
      (refine wpMix_take (i := 6) (v := ?_) rfl (by kernel_rfl) (fun _ _ _ h => h) (Or.inl ⟨by rfl, ?_⟩) hS0 ?_; rotate_left 1; (focus (intro w hSw; (try dsimp only at hSw); go_simp; try (with_reducible rfl))); (try simp only [Act.put, List.setIfInBounds_toArray, List.set_cons_zero, List.set_cons_succ]))
      (refine wpMix_take (i := 7) (v := ?_) rfl (by kernel_rfl) (fun _ _ _ h => h) (Or.inl ⟨by rfl, ?_⟩) hS0 ?_; rotate_left 1; (focus (intro w hSw; (try dsimp only at hSw); go_simp; try (with_reducible rfl))); (try simp only [Act.put, List.setIfInBounds_toArray, List.set_cons_zero, List.set_cons_succ]))
      (refine wpMix_take (i := 8) (v := ?_) rfl (by kernel_rfl) (fun _ _ _ h => h) (Or.inl ⟨by rfl, ?_⟩) hS0 ?_; rotate_left 1; (focus (intro w hSw; (try dsimp only at hSw); go_simp; try (with_reducible rfl))); (try simp only [Act.put, List.setIfInBounds_toArray, List.set_cons_zero, List.set_cons_succ]))
      (refine wpMix_take (i := 9) (v := ?_) rfl (by kernel_rfl) (fun _ _ _ h => h) (Or.inl ⟨by rfl, ?_⟩) hS0 ?_; rotate_left 1; (focus (intro w hSw; (try dsimp only at hSw); go_simp; try (with_reducible rfl))); (try simp only [Act.put, List.setIfInBounds_toArray, List.set_cons_zero, List.set_cons_succ]))
      (refine wpMix_take (i := 10) (v := ?_) rfl (by kernel_rfl) (fun _ _ _ h => h) (Or.inl ⟨by rfl, ?_⟩) hS0 ?_; rotate_left 1; (focus (intro w hSw; (try dsimp only at hSw); go_simp; try (with_reducible rfl))); (try simp only [Act.put, List.setIfInBounds_toArray, List.set_cons_zero, List.set_cons_succ]))
      (refine wpMix_take (i := 11) (v := ?_) rfl (by kernel_rfl) (fun _ _ _ h => h) (Or.inl ⟨by rfl, ?_⟩) hS0 ?_; rotate_left 1; (focus (intro w hSw; (try dsimp only at hSw); go_simp; try (with_reducible rfl))); (try simp only [Act.put, List.setIfInBounds_toArray, List.set_cons_zero, List.set_cons_succ]))
      refine wpMix_next (t := 12) (by kernel_rfl) ?_
      simp only [opsAt, List.flatMap_cons, List.flatMap_nil, List.take_succ_cons, List.take_zero, List.drop_succ_cons, List.drop_zero, List.append_nil, List.cons_append, List.nil_append]
      go_wp2
      refine ⟨by go_simp, ?_⟩
      refine wpMix_rest [13, 14] (by kernel_rfl) ?_
      simp only [opsAt, List.flatMap_cons, List.flatMap_nil, List.take_succ_cons, List.take_zero, List.drop_succ_cons, List.drop_zero, List.append_nil, List.cons_append, List.nil_append]
      go_wp2_with (at_builtin; go_loud (refine wpList_append_sl _ rfl _ _ 22 rfl w.heap.size 9 i0 (.string { data := #[] }) 1 16 Try.underlying22 hi hiz0 hiz1 hiz2 rfl (by decide) _ k _ rfl ((HO.out.alloc _).drew) (.slice (some ⟨wr.heap.size, 0, none⟩) 1 1) 1 [.string (cutS 110 s)] rfl ((SlAt.new wr #[.string (cutS 110 s)] 9).drew) (by simp [Value.oneCell']) (by unfold maxLen; omega) (by omega) (by simp; omega) ?_); intro v1 w1 hown1 hgrow1 hb1)
      go_roundw
      case rel => exact ⟨k + 1, hkN, by go_num, by rw [HT.out]; exact hown1, own_below ((HO.out.alloc _).drew) hgrow1 (by have := HB.out; (repeat' (first | (with_reducible exact Below.refl _ _) | (with_reducible assumption) | (with_reducible refine Below.new ?_ _) | (with_reducible refine Below.alloc ?_ ?_ _) | (with_reducible refine Below.drew ?_) | (with_reducible refine Below.drewN ?_ _) | (with_reducible refine Below.setCell ?_ ?_ _) | (refine Below.step ?_ (by assumption)) | go_size))) (Nat.le_refl _)⟩
      case measure => simp [intOf]; omega
    · obtain rfl : k = N := by omega
      rw [HR.out] at hown
      have hex : LD = k ∨ (k < LD ∧ k = n) := by have := HCN.out; omega
      have HEX := hid hex; have HO := hid hown; have HB := hid hbel
      clear hex hown hbel
      rcases HEX.out with h | ⟨h, h10⟩
      all_goals
        first | subst h | skip
        first | subst h10 | skip
        go_wp2
        go_ret
        exact ⟨_, rfl, HO.out, HB.out⟩
end Go.Proofs.Ytdgeinipdphoeaa
