/- Schemas: the places of names, by the program and by the reference. -/
import Derived.Test.YtdgeinipdphoeaaSchI
import Derived.Test.YtdgeinipdphoeaaShelf
namespace Go.Proofs.Ytdgeinipdphoeaa
set_option linter.unusedVariables false
set_option linter.unusedSimpArgs false
set_option maxRecDepth 100000
open Go.ChangeShapes Go.WideShapes Go.ChangeAt Go.RowKit

theorem index_any (v : Value) (l : List ByteArray) (x : ByteArray) (w : World) (hv : StrsSl w v l) (hl : l.length ≤ 1000) :
    Calls Try.prog 80 #[v, .string x] w fun e w' => e = .returned (.int .i64 (Lib.idxOfS l x)) ∧ w = w' := by
  obtain ⟨ao, cap, rfl, h1, _, _⟩ := SlAt.shape hv
  by_cases h0 : 0 < l.length
  · obtain ⟨b, off, rfl, hc⟩ := (SlAt.parts hv).2.2.2.2 (by simpa using h0)
    refine (Try.slices_Index_string b off l.length cap l x w (Nat.le_refl _) (by omega) (fun j hj => hc j _ ?_)).mono fun e w' ⟨he, hw⟩ => ⟨?_, hw.symm⟩
    · rw [List.getElem?_map, List.getElem?_eq_getElem hj, List.getD_eq_getElem?_getD, List.getElem?_eq_getElem hj]; rfl
    · rw [he, List.take_length]
  · obtain rfl : l = [] := List.length_eq_zero_iff.1 (by omega)
    exact (Try.slices_Index_string_empty ao cap x w).mono fun e w' ⟨he, hw⟩ => ⟨he, hw.symm⟩
theorem idx_is (l : List ByteArray) (x : ByteArray) : (Lib.idxOfS l x = -1 ∧ ∀ i (hi : i < l.length), (l[i].toList == x.toList) = false) ∨ (∃ k, ∃ hk : k < l.length, Lib.idxOfS l x = (k : Int) ∧ l[k] = x ∧ (l[k].toList == x.toList) = true ∧ ∀ i (hi : i < k), ((l[i]'(Nat.lt_trans hi hk)).toList == x.toList) = false) := by
  have hne : ∀ a : ByteArray, ¬ a = x → (a.toList == x.toList) = false := fun a h => by
    rw [ByteArray.toList_eq, ByteArray.toList_eq]
    simp
    intro e
    exact h (ByteArray.ext e)
  have H : ∀ n, n ≤ l.length → (∀ i (hi : i < l.length), i < n → ¬ l[i] = x) ∨ (∃ j, ∃ hj : j < l.length, l[j] = x ∧ ∀ i (hi : i < j), ¬ (l[i]'(Nat.lt_trans hi hj)) = x) := by
    intro n
    induction n with
    | zero => intro _; exact .inl fun i hi h => absurd h (Nat.not_lt_zero i)
    | succ n ih =>
      intro hn
      rcases ih (by omega) with h | h
      · by_cases hg : (l[n]'(by omega)) = x
        · exact .inr ⟨n, by omega, hg, fun i hi => h i (by omega) hi⟩
        · refine .inl fun i hi hin => ?_
          by_cases e : i = n
          · subst e; exact hg
          · exact h i hi (by omega)
      · exact .inr h
  have hgd : ∀ i (hi : i < l.length), l.getD i ByteArray.empty = l[i] := fun i hi => by rw [List.getD_eq_getElem?_getD, List.getElem?_eq_getElem hi]; rfl
  rcases H l.length (Nat.le_refl _) with h | ⟨k, hk, he, h⟩
  · refine .inl ⟨?_, fun i hi => hne _ (h i hi hi)⟩
    have := Lib.idxOfS_miss l l.length x (fun j hj => by rw [hgd j hj]; exact h j hj hj)
    rwa [List.take_length] at this
  · refine .inr ⟨k, hk, ?_, he, by rw [he]; simp, fun i hi => hne _ (h i hi)⟩
    have := Lib.idxOfS_hit l l.length k x hk (Nat.le_refl _) (by rw [hgd k hk]; exact he) (fun j hj => by rw [hgd j (by omega)]; exact h j hj)
    rwa [List.take_length] at this
/-- A name's place, if the schema is right. -/
def placeI (rs : Bool) (r : Int) : Int := if rs = true ∧ 0 ≤ r then r else 0
def placeB (rs : Bool) (r : Int) : Bool := rs && decide (0 ≤ r)

set_option maxHeartbeats 1000000 in
theorem place_any (vd vm vl : Value) (ds ms l : List ByteArray) (g : Int) (x : ByteArray) (w : World) (hd : StrsSl w vd ds) (hm : StrsSl w vm ms) (td : Texts ds) (tm : Texts ms) (hl : StrsSl w vl l) (tl : Texts l) :
    Calls Try.prog 45 #[.agg #[vd, vm, .int .i64 g], vl, .string x] w fun e w' => e = .returned (.tuple #[.int .i64 (placeI (rightS ds ms g) (Lib.idxOfS l x)), .bool (placeB (rightS ds ms g) (Lib.idxOfS l x))]) ∧ Below w.heap.size w w' := by
  have HR := hid (fun W (h : Below w.heap.size w W) => right_any vd vm ds ms g W (hd.below h) (hm.below h) td tm)
  have HX := hid (fun W (h : Below w.heap.size w W) => index_any vl l x W (hl.below h) tl.1)
  obtain ⟨ad, cd, rfl, _, _, _⟩ := SlAt.shape hd
  obtain ⟨am, cm, rfl, _, _, _⟩ := SlAt.shape hm
  obtain ⟨al, cl, rfl, _, _, _⟩ := SlAt.shape hl
  have hr := idx_is l x
  have hr2 : Lib.idxOfS l x = -1 ∨ ∃ k : Nat, Lib.idxOfS l x = k := by
    rcases hr with ⟨h, _⟩ | ⟨k, _, h, _⟩
    · exact .inl h
    · exact .inr ⟨k, h⟩
  clear hr hd hm hl td tm tl
  generalize ds.length = nd at *
  generalize ms.length = nm at *
  generalize l.length = nl at *
  generalize rightS ds ms g = rs at *
  generalize Lib.idxOfS l x = r at *
  cases rs with
  | false =>
    have hI : placeI false r = 0 := by simp [placeI]
    have hB : placeB false r = false := by simp [placeB]
    rw [hI, hB]
    clear hI hB hr2
    go_enter Try.func45, Try.ntmps45
    go_wp2_with (first
      | (go_at_call 80; ((with_reducible refine (HX.out _ (by (repeat' (first | (with_reducible exact Below.refl _ _) | (with_reducible assumption) | (with_reducible refine Below.new ?_ _) | (with_reducible refine Below.alloc ?_ ?_ _) | (with_reducible refine Below.drew ?_) | (with_reducible refine Below.drewN ?_ _) | (with_reducible refine Below.setCell ?_ ?_ _) | (refine Below.step ?_ (by assumption)) | go_size)))).mono ?_); rintro e w1 ⟨rfl, rfl⟩))
      | (go_at_call 21; ((with_reducible refine (HR.out _ (by (repeat' (first | (with_reducible exact Below.refl _ _) | (with_reducible assumption) | (with_reducible refine Below.new ?_ _) | (with_reducible refine Below.alloc ?_ ?_ _) | (with_reducible refine Below.drew ?_) | (with_reducible refine Below.drewN ?_ _) | (with_reducible refine Below.setCell ?_ ?_ _) | (refine Below.step ?_ (by assumption)) | go_size)))).mono ?_); rintro e w2 ⟨rfl, hb2⟩)))
    go_ret2
    exact ⟨rfl, by (repeat' (first | (with_reducible exact Below.refl _ _) | (with_reducible assumption) | (with_reducible refine Below.new ?_ _) | (with_reducible refine Below.alloc ?_ ?_ _) | (with_reducible refine Below.drew ?_) | (with_reducible refine Below.drewN ?_ _) | (with_reducible refine Below.setCell ?_ ?_ _) | (refine Below.step ?_ (by assumption)) | go_size))⟩
  | true =>
    rcases hr2 with rfl | ⟨k, rfl⟩
    · have hI : placeI true (-1) = 0 := by simp [placeI]
      have hB : placeB true (-1) = false := by simp [placeB]
      rw [hI, hB]
      clear hI hB
      go_enter Try.func45, Try.ntmps45
      go_wp2_with (first
        | (go_at_call 80; ((with_reducible refine (HX.out _ (by (repeat' (first | (with_reducible exact Below.refl _ _) | (with_reducible assumption) | (with_reducible refine Below.new ?_ _) | (with_reducible refine Below.alloc ?_ ?_ _) | (with_reducible refine Below.drew ?_) | (with_reducible refine Below.drewN ?_ _) | (with_reducible refine Below.setCell ?_ ?_ _) | (refine Below.step ?_ (by assumption)) | go_size)))).mono ?_); rintro e w1 ⟨rfl, rfl⟩))
        | (go_at_call 21; ((with_reducible refine (HR.out _ (by (repeat' (first | (with_reducible exact Below.refl _ _) | (with_reducible assumption) | (with_reducible refine Below.new ?_ _) | (with_reducible refine Below.alloc ?_ ?_ _) | (with_reducible refine Below.drew ?_) | (with_reducible refine Below.drewN ?_ _) | (with_reducible refine Below.setCell ?_ ?_ _) | (refine Below.step ?_ (by assumption)) | go_size)))).mono ?_); rintro e w2 ⟨rfl, hb2⟩)))
      go_ret2
      exact ⟨rfl, by (repeat' (first | (with_reducible exact Below.refl _ _) | (with_reducible assumption) | (with_reducible refine Below.new ?_ _) | (with_reducible refine Below.alloc ?_ ?_ _) | (with_reducible refine Below.drew ?_) | (with_reducible refine Below.drewN ?_ _) | (with_reducible refine Below.setCell ?_ ?_ _) | (refine Below.step ?_ (by assumption)) | go_size))⟩
    · have hI : placeI true (k : Int) = (k : Int) := by simp [placeI]
      have hB : placeB true (k : Int) = true := by simp [placeB]
      rw [hI, hB]
      clear hI hB
      have hk : decide ((k : Int) < 0) = false := by simp
      go_enter Try.func45, Try.ntmps45
      go_wp2_with (first
        | (go_at_call 80; ((with_reducible refine (HX.out _ (by (repeat' (first | (with_reducible exact Below.refl _ _) | (with_reducible assumption) | (with_reducible refine Below.new ?_ _) | (with_reducible refine Below.alloc ?_ ?_ _) | (with_reducible refine Below.drew ?_) | (with_reducible refine Below.drewN ?_ _) | (with_reducible refine Below.setCell ?_ ?_ _) | (refine Below.step ?_ (by assumption)) | go_size)))).mono ?_); rintro e w1 ⟨rfl, rfl⟩))
        | (go_at_call 21; ((with_reducible refine (HR.out _ (by (repeat' (first | (with_reducible exact Below.refl _ _) | (with_reducible assumption) | (with_reducible refine Below.new ?_ _) | (with_reducible refine Below.alloc ?_ ?_ _) | (with_reducible refine Below.drew ?_) | (with_reducible refine Below.drewN ?_ _) | (with_reducible refine Below.setCell ?_ ?_ _) | (refine Below.step ?_ (by assumption)) | go_size)))).mono ?_); rintro e w2 ⟨rfl, hb2⟩)))
      go_ret2
      exact ⟨rfl, by (repeat' (first | (with_reducible exact Below.refl _ _) | (with_reducible assumption) | (with_reducible refine Below.new ?_ _) | (with_reducible refine Below.alloc ?_ ?_ _) | (with_reducible refine Below.drew ?_) | (with_reducible refine Below.drewN ?_ _) | (with_reducible refine Below.setCell ?_ ?_ _) | (refine Below.step ?_ (by assumption)) | go_size))⟩

theorem dim_any (vd vm : Value) (ds ms : List ByteArray) (g : Int) (x : ByteArray) (w : World) (hd : StrsSl w vd ds) (hm : StrsSl w vm ms) (td : Texts ds) (tm : Texts ms) :
    Calls Try.prog 17 #[.agg #[vd, vm, .int .i64 g], .string x] w fun e w' => e = .returned (.tuple #[.int .i64 (placeI (rightS ds ms g) (Lib.idxOfS ds x)), .bool (placeB (rightS ds ms g) (Lib.idxOfS ds x))]) ∧ Below w.heap.size w w' := by
  have HP := hid (fun W (h : Below w.heap.size w W) => place_any vd vm vd ds ms ds g x W (hd.below h) (hm.below h) td tm (hd.below h) td)
  obtain ⟨ad, cd, rfl, _, _, _⟩ := SlAt.shape hd
  obtain ⟨am, cm, rfl, _, _, _⟩ := SlAt.shape hm
  clear hd hm td tm
  generalize placeI (rightS ds ms g) (Lib.idxOfS ds x) = pi at *
  generalize placeB (rightS ds ms g) (Lib.idxOfS ds x) = pb at *
  generalize ds.length = nd at *
  generalize ms.length = nm at *
  go_enter Try.func17, Try.ntmps17
  go_wp2_with (go_at_call 45; ((with_reducible refine (HP.out _ (by (repeat' (first | (with_reducible exact Below.refl _ _) | (with_reducible assumption) | (with_reducible refine Below.new ?_ _) | (with_reducible refine Below.alloc ?_ ?_ _) | (with_reducible refine Below.drew ?_) | (with_reducible refine Below.drewN ?_ _) | (with_reducible refine Below.setCell ?_ ?_ _) | (refine Below.step ?_ (by assumption)) | go_size)))).mono ?_); rintro e w1 ⟨rfl, hb1⟩))
  go_ret2
  exact ⟨rfl, by (repeat' (first | (with_reducible exact Below.refl _ _) | (with_reducible assumption) | (with_reducible refine Below.new ?_ _) | (with_reducible refine Below.alloc ?_ ?_ _) | (with_reducible refine Below.drew ?_) | (with_reducible refine Below.drewN ?_ _) | (with_reducible refine Below.setCell ?_ ?_ _) | (refine Below.step ?_ (by assumption)) | go_size))⟩
theorem metric_any (vd vm : Value) (ds ms : List ByteArray) (g : Int) (x : ByteArray) (w : World) (hd : StrsSl w vd ds) (hm : StrsSl w vm ms) (td : Texts ds) (tm : Texts ms) :
    Calls Try.prog 19 #[.agg #[vd, vm, .int .i64 g], .string x] w fun e w' => e = .returned (.tuple #[.int .i64 (placeI (rightS ds ms g) (Lib.idxOfS ms x)), .bool (placeB (rightS ds ms g) (Lib.idxOfS ms x))]) ∧ Below w.heap.size w w' := by
  have HP := hid (fun W (h : Below w.heap.size w W) => place_any vd vm vm ds ms ms g x W (hd.below h) (hm.below h) td tm (hm.below h) tm)
  obtain ⟨ad, cd, rfl, _, _, _⟩ := SlAt.shape hd
  obtain ⟨am, cm, rfl, _, _, _⟩ := SlAt.shape hm
  clear hd hm td tm
  generalize placeI (rightS ds ms g) (Lib.idxOfS ms x) = pi at *
  generalize placeB (rightS ds ms g) (Lib.idxOfS ms x) = pb at *
  generalize ds.length = nd at *
  generalize ms.length = nm at *
  go_enter Try.func19, Try.ntmps19
  go_wp2_with (go_at_call 45; ((with_reducible refine (HP.out _ (by (repeat' (first | (with_reducible exact Below.refl _ _) | (with_reducible assumption) | (with_reducible refine Below.new ?_ _) | (with_reducible refine Below.alloc ?_ ?_ _) | (with_reducible refine Below.drew ?_) | (with_reducible refine Below.drewN ?_ _) | (with_reducible refine Below.setCell ?_ ?_ _) | (refine Below.step ?_ (by assumption)) | go_size)))).mono ?_); rintro e w1 ⟨rfl, hb1⟩))
  go_ret2
  exact ⟨rfl, by (repeat' (first | (with_reducible exact Below.refl _ _) | (with_reducible assumption) | (with_reducible refine Below.new ?_ _) | (with_reducible refine Below.alloc ?_ ?_ _) | (with_reducible refine Below.drew ?_) | (with_reducible refine Below.drewN ?_ _) | (with_reducible refine Below.setCell ?_ ?_ _) | (refine Below.step ?_ (by assumption)) | go_size))⟩

set_option maxHeartbeats 1000000 in
theorem refPlace_any (vl : Value) (l : List ByteArray) (x : ByteArray) (w : World) (hl : StrsSl w vl l) (tl : Texts l) :
    Calls Try.prog 46 #[vl, .string x] w fun e w' => e = .returned (.tuple #[.int .i64 (placeI true (Lib.idxOfS l x)), .bool (placeB true (Lib.idxOfS l x))]) ∧ w = w' := by
  obtain ⟨J, hJ, hpre, hat, hI, hB⟩ : ∃ J, J ≤ l.length ∧ (∀ i (hi : i < l.length), i < J → (l[i].toList == x.toList) = false) ∧ (∀ hj : J < l.length, (l[J].toList == x.toList) = true) ∧ placeI true (Lib.idxOfS l x) = (if J < l.length then (J : Int) else 0) ∧ placeB true (Lib.idxOfS l x) = decide (J < l.length) := by
    rcases idx_is l x with ⟨h, h2⟩ | ⟨k, hk, h, _, h2, h3⟩
    · exact ⟨l.length, Nat.le_refl _, fun i hi _ => h2 i hi, fun h => absurd h (Nat.lt_irrefl _), by rw [h]; simp [placeI], by rw [h]; simp [placeB]⟩
    · exact ⟨k, by omega, fun i _ hi => h3 i hi, fun _ => h2, by rw [h]; simp [placeI, hk], by rw [h]; simp [placeB, hk]⟩
  rw [hI, hB]
  clear hI hB
  have HPRE := hid hpre; have HAT := hid hat; have HV := hid hl
  obtain ⟨al, cl, rfl, _, hcl, _⟩ := SlAt.shape hl
  have tl1 := tl.1
  clear hpre hat hl tl
  obtain ⟨N, hN⟩ : ∃ N, l.length = N := ⟨_, rfl⟩
  have HN := hid hN
  rw [hN] at hJ tl1 ⊢
  simp only [hN] at HV
  clear hN
  go_enter Try.func46, Try.ntmps46
  go_wp2
  go_loop [6] (fun i => ∃ k : Nat, k ≤ J ∧ i = .int .i64 k) (fun i => N - (intOf i).toNat)
  case atStart => exact ⟨0, Nat.zero_le _, rfl⟩
  case round =>
    obtain ⟨k, hk, rfl⟩ := hrel
    by_cases hkN : k < N
    · have hlen : k < l.length := by rw [HN.out]; exact hkN
      have hp := SlAt.parts HV.out
      obtain ⟨b, off, rfl, hcell⟩ := hp.2.2.2.2 (by simp; omega)
      have ck := hcell k (.string l[k]) (by rw [List.getElem?_map, List.getElem?_eq_getElem hlen]; rfl)
      clear hcell hp
      by_cases hkJ : k < J
      · have hq := HPRE.out k hlen hkJ
        generalize l[k] = s at *
        go_wp2
        go_round
        case rel => exact ⟨k + 1, hkJ, by go_num⟩
        case measure => simp [intOf]; omega
      · obtain rfl : k = J := by omega
        have hq := HAT.out hlen
        generalize l[k] = s at *
        have H1 : Hid ((if k < N then (k : Int) else 0) = (k : Int)) := if_pos hkN
        have H2 : Hid (decide (k < N) = true) := decide_eq_true hkN
        clear hcl
        go_wp2
        go_ret2
        exact ⟨by first | rfl | rw [H1.out, H2.out], rfl⟩
    · have H1 : Hid ((if J < N then (J : Int) else 0) = 0) := if_neg (by omega)
      have H2 : Hid (decide (J < N) = false) := decide_eq_false (by omega)
      go_wp2
      go_ret2
      exact ⟨by first | rfl | rw [H1.out, H2.out], rfl⟩
end Go.Proofs.Ytdgeinipdphoeaa
