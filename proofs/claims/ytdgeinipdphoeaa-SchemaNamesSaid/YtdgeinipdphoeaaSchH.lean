/- Schemas: are all values right? The program's ContainsFunc over them. -/
import Derived.Test.YtdgeinipdphoeaaSchG
namespace Go.Proofs.Ytdgeinipdphoeaa
set_option linter.unusedVariables false
set_option linter.unusedSimpArgs false
set_option maxRecDepth 100000
open Go.ChangeShapes Go.WideShapes Go.ChangeAt Go.RowKit

def okV (v : ValD) : Bool := valB v.s v.nl
theorem isOther_any (s : ByteArray) (hs : s.size ≤ 9223372036854775807) (nl : Bool) (w : World) : Calls Try.prog 51 #[.agg #[.string s, .bool nl]] w fun e w' => e = .returned (.bool (!valB s nl)) ∧ Below w.heap.size w w' := by
  have HI := hid (fun W => isValue_any s hs nl W)
  generalize valB s nl = b at HI ⊢
  go_enter Try.func51, Try.ntmps51
  go_wp2_with (go_at_call 52; ((with_reducible refine (HI.out _).mono ?_); rintro e w1 ⟨rfl, hb1⟩; obtain ⟨hc1, hf1, hk1, hz1⟩ := bcell3 hb1; (try simp only [World.size_alloc] at hz1); have : w.heap.size < w1.heap.size := (by omega)))
  go_ret
  exact ⟨rfl, by (repeat' (first | (with_reducible exact Below.refl _ _) | (with_reducible assumption) | (with_reducible refine Below.new ?_ _) | (with_reducible refine Below.alloc ?_ ?_ _) | (with_reducible refine Below.drew ?_) | (with_reducible refine Below.drewN ?_ _) | (with_reducible refine Below.setCell ?_ ?_ _) | (refine Below.step ?_ (by assumption)) | go_size))⟩
/-- The first value that is not right, or none. -/
theorem firstV (l : List ValD) : (l.all okV = true ∧ ∀ i (hi : i < l.length), okV l[i] = true) ∨ (l.all okV = false ∧ ∃ j, ∃ hj : j < l.length, okV l[j] = false ∧ ∀ i (hi : i < j), okV (l[i]'(Nat.lt_trans hi hj)) = true) := by
  induction l with
  | nil => exact .inl ⟨rfl, fun i hi => absurd hi (Nat.not_lt_zero i)⟩
  | cons x xs ih =>
    by_cases hx : okV x = true
    · rcases ih with ⟨h1, h2⟩ | ⟨h1, j, h2, h3, h4⟩
      · refine .inl ⟨by simp [hx, h1], fun i hi => ?_⟩
        cases i with
        | zero => simpa using hx
        | succ i => simpa using h2 i (by simpa using hi)
      · refine .inr ⟨by simp [hx, h1], j + 1, by simpa using h2, by simpa using h3, fun i hi => ?_⟩
        cases i with
        | zero => simpa using hx
        | succ i => simpa using h4 i (by omega)
    · exact .inr ⟨by simp [hx], 0, by simp, by simpa using hx, fun i hi => absurd hi (Nat.not_lt_zero i)⟩
def Vals (l : List ValD) : Prop := l.length ≤ 1000000 ∧ ∀ v ∈ l, v.s.size ≤ 9223372036854775807

set_option maxHeartbeats 1000000 in
theorem idxV_any (v : Value) (l : List ValD) (w : World) (hv : ValsSl w v l) (hl : Vals l) (j : Nat) (hj : j ≤ l.length) (hpre : ∀ i (hi : i < j), okV (l[i]'(by omega)) = true) (hat : ∀ hj : j < l.length, okV l[j] = false) :
    Calls Try.prog 83 #[v, .func (.func 51) #[] #[]] w fun e w' => e = .returned (.int .i64 (if j < l.length then (j : Int) else -1)) ∧ Below w.heap.size w w' := by
  obtain ⟨ao, cap, rfl, h1, h2, h3, hA⟩ := ValsSl.parts hv
  have HA := hid hA; have HP := hid hpre; have HT := hid hat
  have HZ := hid (fun i (hi : i < l.length) => hl.2 l[i] (List.getElem_mem hi))
  obtain ⟨hl1, _⟩ := hl
  obtain ⟨L, hL⟩ : ∃ L, l.length = L := ⟨_, rfl⟩
  have HL := hid hL
  rw [hL] at hj hl1 h1 ⊢
  clear hA hpre hat hL h3 hv
  unfold maxLen at h2
  go_enter Try.func83, Try.ntmps83
  go_wp2
  go_loopw [8] (fun i wr => ∃ k : Nat, k ≤ j ∧ i = .int .i64 k ∧ Below w.heap.size w wr) (fun i _ => L - (intOf i).toNat)
  case atStart => exact ⟨0, Nat.zero_le _, rfl, Below.refl _ _⟩
  case round =>
    obtain ⟨k, hk, rfl, hbel⟩ := hrel
    by_cases hkL : k < L
    · obtain ⟨b, off, rfl, hc⟩ := HA.out (by rw [HL.out]; omega)
      obtain ⟨c1, c2⟩ := hc k (by rw [HL.out]; exact hkL)
      have d1 := cell_step c1 hbel
      have d2 := cell_step c2 hbel
      have hz := HZ.out k (by rw [HL.out]; exact hkL)
      have hok : okV (l[k]'(by rw [HL.out]; exact hkL)) = decide (k < j) := by
        by_cases h : k < j
        · rw [HP.out k h]; simp [h]
        · obtain rfl : k = j := by omega
          rw [HT.out]; simp
      unfold okV at hok
      have HI := hid (fun W => isOther_any (l[k]'(by rw [HL.out]; exact hkL)).s hz (l[k]'(by rw [HL.out]; exact hkL)).nl W)
      rw [hok] at HI
      generalize (l[k]'(by rw [HL.out]; exact hkL)).s = s at *
      generalize (l[k]'(by rw [HL.out]; exact hkL)).nl = nl at *
      have HB := hid hbel
      clear hc hok hz c1 c2 hbel
      by_cases hkj : k < j
      · have hd : decide (k < j) = true := by simp [hkj]
        rw [hd] at HI
        clear hd
        go_wp2_with (go_at_call 51; ((with_reducible refine (HI.out _).mono ?_); rintro e w2 ⟨rfl, hb2⟩))
        go_roundw
        case rel => exact ⟨k + 1, hkj, by go_num, by have := HB.out; (repeat' (first | (with_reducible exact Below.refl _ _) | (with_reducible assumption) | (with_reducible refine Below.new ?_ _) | (with_reducible refine Below.alloc ?_ ?_ _) | (with_reducible refine Below.drew ?_) | (with_reducible refine Below.drewN ?_ _) | (with_reducible refine Below.setCell ?_ ?_ _) | (refine Below.step ?_ (by assumption)) | go_size))⟩
        case measure => simp [intOf]; omega
      · have hd : decide (k < j) = false := by simp [hkj]
        rw [hd] at HI
        clear hd
        obtain rfl : k = j := by omega
        have HE : Hid ((if k < L then (k : Int) else -1) = (k : Int)) := if_pos hkL
        go_wp2_with (go_at_call 51; ((with_reducible refine (HI.out _).mono ?_); rintro e w2 ⟨rfl, hb2⟩))
        go_ret
        exact ⟨rfl, by have := HB.out; (repeat' (first | (with_reducible exact Below.refl _ _) | (with_reducible assumption) | (with_reducible refine Below.new ?_ _) | (with_reducible refine Below.alloc ?_ ?_ _) | (with_reducible refine Below.drew ?_) | (with_reducible refine Below.drewN ?_ _) | (with_reducible refine Below.setCell ?_ ?_ _) | (refine Below.step ?_ (by assumption)) | go_size))⟩
    · have HE : Hid ((if j < L then (j : Int) else -1) = -1) := if_neg (by omega)
      have HB := hid hbel
      clear hbel
      go_wp2
      go_ret
      exact ⟨rfl, by have := HB.out; (repeat' (first | (with_reducible exact Below.refl _ _) | (with_reducible assumption) | (with_reducible refine Below.new ?_ _) | (with_reducible refine Below.alloc ?_ ?_ _) | (with_reducible refine Below.drew ?_) | (with_reducible refine Below.drewN ?_ _) | (with_reducible refine Below.setCell ?_ ?_ _) | (refine Below.step ?_ (by assumption)) | go_size))⟩
theorem contV_any (v : Value) (l : List ValD) (w : World) (hv : ValsSl w v l) (hl : Vals l) :
    Calls Try.prog 53 #[v, .func (.func 51) #[] #[]] w fun e w' => e = .returned (.bool (!l.all okV)) ∧ Below w.heap.size w w' := by
  have H : ∃ r : Int, (!l.all okV) = decide (0 ≤ r) ∧ Calls Try.prog 83 #[v, .func (.func 51) #[] #[]] w fun e w' => e = .returned (.int .i64 r) ∧ Below w.heap.size w w' := by
    rcases firstV l with ⟨h1, h2⟩ | ⟨h1, j, h2, h3, h4⟩
    · refine ⟨-1, by rw [h1]; rfl, ?_⟩
      refine (idxV_any v l w hv hl l.length (Nat.le_refl _) (fun i hi => h2 i hi) (fun h => absurd h (Nat.lt_irrefl _))).mono fun e w' ⟨he, hw⟩ => ⟨?_, hw⟩
      rw [he, if_neg (Nat.lt_irrefl _)]
    · refine ⟨j, by rw [h1]; simp, ?_⟩
      refine (idxV_any v l w hv hl j (by omega) h4 (fun _ => h3)).mono fun e w' ⟨he, hw⟩ => ⟨?_, hw⟩
      rw [he, if_pos h2]
  obtain ⟨r, hr, hc⟩ := H
  rw [hr]
  have HC := hid hc
  clear hr hc hv
  go_enter Try.func53, Try.ntmps53
  go_wp2_with (go_at_call 83; ((with_reducible refine (HC.out).mono ?_); rintro e w2 ⟨rfl, hb2⟩))
  go_ret
  exact ⟨rfl, by (repeat' (first | (with_reducible exact Below.refl _ _) | (with_reducible assumption) | (with_reducible refine Below.new ?_ _) | (with_reducible refine Below.alloc ?_ ?_ _) | (with_reducible refine Below.drew ?_) | (with_reducible refine Below.drewN ?_ _) | (with_reducible refine Below.setCell ?_ ?_ _) | (refine Below.step ?_ (by assumption)) | go_size))⟩
end Go.Proofs.Ytdgeinipdphoeaa
