/- Schemas: the program's 'Right'. -/
import Derived.Test.YtdgeinipdphoeaaSchE
namespace Go.Proofs.Ytdgeinipdphoeaa
set_option linter.unusedVariables false
set_option linter.unusedSimpArgs false
set_option maxRecDepth 100000
open Go.ChangeShapes Go.WideShapes Go.ChangeAt Go.RowKit

theorem StrsSl.strs {w : World} {v : Value} {ss : List ByteArray} (h : StrsSl w v ss) : StrsAt w v ss := by
  obtain ⟨_, ao, cap, rfl, _, _, _, h⟩ := h
  refine ⟨ao, cap, rfl, fun hl => ?_⟩
  obtain ⟨b, off, rfl, hc⟩ := h (by simpa using hl)
  refine ⟨b, off, rfl, fun j hj => hc j _ ?_⟩
  rw [List.getElem?_map, List.getElem?_eq_getElem hj]; rfl
/-- Is a schema right? -/
def rightS (ds ms : List ByteArray) (g : Int) : Bool := decide (1 ≤ ds.length ∧ ds.length ≤ 6) && (decide (ms.length ≤ 4) && (decide (1 ≤ g ∧ g ≤ 1000000000) && namesB (ds ++ ms)))
/-- Texts that a machine can hold. -/
def Texts (ss : List ByteArray) : Prop := ss.length ≤ 1000 ∧ ∀ s ∈ ss, s.size ≤ 9223372036854775807
theorem Texts.app {a b : List ByteArray} (ha : Texts a) (hb : Texts b) : (∀ s ∈ a ++ b, s.size ≤ 9223372036854775807) ∧ (a ++ b).length ≤ 1000000 := by
  refine ⟨fun s hs => ?_, by have := ha.1; have := hb.1; simp; omega⟩
  rcases List.mem_append.1 hs with h | h
  · exact ha.2 s h
  · exact hb.2 s h

/-- Two lists joined, whichever is nil. -/
theorem concat_any (vd vm : Value) (ds ms : List ByteArray) (b : Nat) (w : World) (hd : StrsSl w vd ds) (hm : StrsSl w vm ms) (l1 : ds.length ≤ 1000) (l2 : ms.length ≤ 1000) (e1 : w.cell? ⟨b, 0, none⟩ = some vd) (e2 : w.cell? ⟨b, 1, none⟩ = some vm) :
    Calls Try.prog 49 #[.slice (some ⟨b, 0, none⟩) 2 2] w fun e w' => ∃ v, e = .returned v ∧ StrsSl w' v (ds ++ ms) ∧ Below w.heap.size w w' := by
  obtain ⟨ad, cd, rfl, _, _, nd⟩ := SlAt.shape hd
  obtain ⟨am, cm, rfl, _, _, nm⟩ := SlAt.shape hm
  cases ad with
  | none =>
    obtain rfl := nd rfl
    have h0 : ds.length = 0 := by have := (SlAt.parts hd).2.1; omega
    obtain rfl := List.length_eq_zero_iff.1 h0
    cases am with
    | none =>
      obtain rfl := nm rfl
      have h0 : ms.length = 0 := by have := (SlAt.parts hm).2.1; omega
      obtain rfl := List.length_eq_zero_iff.1 h0
      exact (concat_nn b w e1 e2).mono fun e w' ⟨v, h1, h2, h3⟩ => ⟨v, h1, StrsSl.own h2, h3⟩
    | some a2 =>
      obtain ⟨b2, o2, s2⟩ := a2
      exact (concat_ns _ cm ms b w (SlAt.src hm) l2 e1 e2).mono fun e w' ⟨v, h1, h2, h3⟩ => ⟨v, h1, StrsSl.own (n := ms.length) (by simpa using h2), h3⟩
  | some a1 =>
    obtain ⟨b1, o1, s1⟩ := a1
    cases am with
    | none =>
      obtain rfl := nm rfl
      have h0 : ms.length = 0 := by have := (SlAt.parts hm).2.1; omega
      obtain rfl := List.length_eq_zero_iff.1 h0
      exact (concat_sn _ cd ds b w (SlAt.src hd) l1 e1 e2).mono fun e w' ⟨v, h1, h2, h3⟩ => ⟨v, h1, StrsSl.own (n := ds.length) (by simpa using h2), h3⟩
    | some a2 =>
      obtain ⟨b2, o2, s2⟩ := a2
      exact (concat_ss _ _ cd cm ds ms b w (SlAt.src hd) (SlAt.src hm) l1 l2 e1 e2).mono fun e w' ⟨v, h1, h2, h3⟩ => ⟨v, h1, StrsSl.own (n := ds.length + ms.length) (by simpa using h2), h3⟩

set_option maxHeartbeats 1000000 in
theorem right_any (vd vm : Value) (ds ms : List ByteArray) (g : Int) (w : World) (hd : StrsSl w vd ds) (hm : StrsSl w vm ms) (td : Texts ds) (tm : Texts ms) :
    Calls Try.prog 21 #[.agg #[vd, vm, .int .i64 g]] w fun e w' => e = .returned (.bool (rightS ds ms g)) ∧ Below w.heap.size w w' := by
  obtain ⟨ta, tl⟩ := td.app tm
  obtain ⟨td, _⟩ := td
  obtain ⟨tm, _⟩ := tm
  have HD := hid hd; have HM := hid hm
  have HA := hid (fun v W (h : StrsSl W v (ds ++ ms)) => areNames_any v (ds ++ ms) W h.strs tl ta)
  obtain ⟨ad, cd, rfl, _, _, _⟩ := SlAt.shape hd
  obtain ⟨am, cm, rfl, _, _, _⟩ := SlAt.shape hm
  have HC := hid (fun b W (h1 : StrsSl W (.slice ad ds.length cd) ds) (h2 : StrsSl W (.slice am ms.length cm) ms) => concat_any _ _ ds ms b W h1 h2 td tm)
  clear hd hm ta tl
  by_cases h1 : 1 ≤ ds.length ∧ ds.length ≤ 6
  · have hw : decide ((1 : Int) ≤ (ds.length : Int) ∧ (ds.length : Int) ≤ 6) = true := by simp; omega
    have HW := hid (fun W => within_any (ds.length : Int) 1 6 W)
    rw [hw] at HW
    clear hw
    by_cases h2 : ms.length ≤ 4
    · by_cases h3 : 1 ≤ g
      · by_cases h4 : g ≤ 1000000000
        · have hr : rightS ds ms g = namesB (ds ++ ms) := by simp [rightS, h1, h2, h3, h4]
          rw [hr]
          clear hr
          generalize namesB (ds ++ ms) = NB at HA ⊢
          generalize ds.length = nd at HC HW HD td ⊢
          generalize ms.length = nm at HC HM tm h2 ⊢
          go_enter Try.func21, Try.ntmps21
          go_wp2_with (first
            | (go_at_call 47; ((with_reducible refine (HW.out _).mono ?_); rintro e w1 ⟨rfl, rfl⟩))
            | (go_at_call 49; go_loud ((with_reducible refine (HC.out _ _ (StrsSl.below HD.out (by (repeat' (first | (with_reducible exact Below.refl _ _) | (with_reducible assumption) | (with_reducible refine Below.new ?_ _) | (with_reducible refine Below.alloc ?_ ?_ _) | (with_reducible refine Below.drew ?_) | (with_reducible refine Below.drewN ?_ _) | (with_reducible refine Below.setCell ?_ ?_ _) | (refine Below.step ?_ (by assumption)) | go_size)))) (StrsSl.below HM.out (by (repeat' (first | (with_reducible exact Below.refl _ _) | (with_reducible assumption) | (with_reducible refine Below.new ?_ _) | (with_reducible refine Below.alloc ?_ ?_ _) | (with_reducible refine Below.drew ?_) | (with_reducible refine Below.drewN ?_ _) | (with_reducible refine Below.setCell ?_ ?_ _) | (refine Below.step ?_ (by assumption)) | go_size)))) (by go_simp) (by go_simp)).mono ?_); rintro e w2 ⟨v, rfl, hv, hb2⟩; have HV := hid hv; clear hv))
            | (go_at_call 48; ((with_reducible refine (HA.out _ _ HV.out).mono ?_); rintro e w3 ⟨rfl, hb3⟩)))
          go_ret
          exact ⟨rfl, by (repeat' (first | (with_reducible exact Below.refl _ _) | (with_reducible assumption) | (with_reducible refine Below.new ?_ _) | (with_reducible refine Below.alloc ?_ ?_ _) | (with_reducible refine Below.drew ?_) | (with_reducible refine Below.drewN ?_ _) | (with_reducible refine Below.setCell ?_ ?_ _) | (refine Below.step ?_ (by assumption)) | go_size))⟩
        · have hr : rightS ds ms g = false := by simp [rightS]; omega
          rw [hr]
          clear hr
          go_enter Try.func21, Try.ntmps21
          go_wp2_with (go_at_call 47; ((with_reducible refine (HW.out _).mono ?_); rintro e w1 ⟨rfl, rfl⟩))
          go_ret
          exact ⟨rfl, by (repeat' (first | (with_reducible exact Below.refl _ _) | (with_reducible assumption) | (with_reducible refine Below.new ?_ _) | (with_reducible refine Below.alloc ?_ ?_ _) | (with_reducible refine Below.drew ?_) | (with_reducible refine Below.drewN ?_ _) | (with_reducible refine Below.setCell ?_ ?_ _) | (refine Below.step ?_ (by assumption)) | go_size))⟩
      · have hr : rightS ds ms g = false := by simp [rightS]; omega
        rw [hr]
        clear hr
        go_enter Try.func21, Try.ntmps21
        go_wp2_with (go_at_call 47; ((with_reducible refine (HW.out _).mono ?_); rintro e w1 ⟨rfl, rfl⟩))
        go_ret
        exact ⟨rfl, by (repeat' (first | (with_reducible exact Below.refl _ _) | (with_reducible assumption) | (with_reducible refine Below.new ?_ _) | (with_reducible refine Below.alloc ?_ ?_ _) | (with_reducible refine Below.drew ?_) | (with_reducible refine Below.drewN ?_ _) | (with_reducible refine Below.setCell ?_ ?_ _) | (refine Below.step ?_ (by assumption)) | go_size))⟩
    · have hr : rightS ds ms g = false := by simp [rightS]; omega
      rw [hr]
      clear hr
      go_enter Try.func21, Try.ntmps21
      go_wp2_with (go_at_call 47; ((with_reducible refine (HW.out _).mono ?_); rintro e w1 ⟨rfl, rfl⟩))
      go_ret
      exact ⟨rfl, by (repeat' (first | (with_reducible exact Below.refl _ _) | (with_reducible assumption) | (with_reducible refine Below.new ?_ _) | (with_reducible refine Below.alloc ?_ ?_ _) | (with_reducible refine Below.drew ?_) | (with_reducible refine Below.drewN ?_ _) | (with_reducible refine Below.setCell ?_ ?_ _) | (refine Below.step ?_ (by assumption)) | go_size))⟩
  · have hr : rightS ds ms g = false := by simp [rightS]; omega
    rw [hr]
    clear hr
    have hw : decide ((1 : Int) ≤ (ds.length : Int) ∧ (ds.length : Int) ≤ 6) = false := by simp; omega
    have HW := hid (fun W => within_any (ds.length : Int) 1 6 W)
    rw [hw] at HW
    clear hw h1
    go_enter Try.func21, Try.ntmps21
    go_wp2_with (go_at_call 47; ((with_reducible refine (HW.out _).mono ?_); rintro e w1 ⟨rfl, rfl⟩))
    go_ret
    exact ⟨rfl, by (repeat' (first | (with_reducible exact Below.refl _ _) | (with_reducible assumption) | (with_reducible refine Below.new ?_ _) | (with_reducible refine Below.alloc ?_ ?_ _) | (with_reducible refine Below.drew ?_) | (with_reducible refine Below.drewN ?_ _) | (with_reducible refine Below.setCell ?_ ?_ _) | (refine Below.step ?_ (by assumption)) | go_size))⟩
end Go.Proofs.Ytdgeinipdphoeaa
