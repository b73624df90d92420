/- Texts joined: SchE, SchF, AppSl, SchG, SchH. -/
import Derived.Test.YtejleplhmkmegaaGreatDoorOa
import Derived.Laws.AppendOwnNone
import Derived.Maps.AppendAt
import Derived.Deep.AppendLies
import Derived.Deep.RegionHeld3
import Derived.Deep.QuietTactic
import Derived.BigQuiet
/- Schemas: the library's slices.Concat of two slices of strings. -/
namespace Go.Proofs.YtejleplhmkmegaaGreatDoor
set_option linter.unusedVariables false
set_option linter.unusedSimpArgs false
set_option maxRecDepth 100000
open Go.ChangeShapes Go.WideShapes Go.ChangeAt Go.RowKit

set_option maxHeartbeats 2000000 in
theorem concat_ss (a1 a2 : Addr) (c1 c2 : Nat) (s1 s2 : List ByteArray) (b : Nat) (w : World) (h1 : ∀ j u, (strsV s1)[j]? = some u → w.cell? (a1.add j) = some u) (h2 : ∀ j u, (strsV s2)[j]? = some u → w.cell? (a2.add j) = some u)
    (l1 : s1.length ≤ 1000) (l2 : s2.length ≤ 1000) (e1 : w.cell? ⟨b, 0, none⟩ = some (.slice (some a1) s1.length c1)) (e2 : w.cell? ⟨b, 1, none⟩ = some (.slice (some a2) s2.length c2)) :
    Calls Tryz.prog 106 #[.slice (some ⟨b, 0, none⟩) 2 2] w fun e w' => ∃ v, e = .returned v ∧ w'.ownsRow w.heap.size 9 1 v (s1.length + s2.length) (strsV s1 ++ strsV s2) ∧ Below w.heap.size w w' := by
  obtain ⟨i0, hi, hiz0, hiz1, hiz2⟩ := info_parts info_string
  have HG := hid (fun w => grow_any (s1.length + s2.length) (by omega) w)
  have H1 := hid h1; have H2 := hid h2
  clear h1 h2
  obtain ⟨n1, hn1⟩ : ∃ n1, s1.length = n1 := ⟨_, rfl⟩
  obtain ⟨n2, hn2⟩ : ∃ n2, s2.length = n2 := ⟨_, rfl⟩
  have HN1 := hid hn1; have HN2 := hid hn2
  rw [hn1] at HG l1 e1 ⊢
  rw [hn2] at HG l2 e2 ⊢
  clear hn1 hn2
  obtain ⟨N, hN⟩ : ∃ N, n1 + n2 = N := ⟨_, rfl⟩
  rw [hN] at HG ⊢
  have hsum : ((n1 : Int) + (n2 : Int)) = (N : Int) := by omega
  go_enter Tryz.func106, Tryz.ntmps106
  go_wp2
  refine wp_loop_rounds 3 ?_
  rw [rounds_succ]
  go_wp2
  rw [rounds_succ]
  go_wp2
  rw [rounds_succ]
  go_wp2_with (go_at_call 170; go_loud ((with_reducible refine (HG.out _).mono ?_); rintro e w1 ⟨v, rfl, hown, hb1⟩; have d1 := cell_step e1 hb1; have d2 := cell_step e2 hb1; have hz1 := hb1.size))
  refine wp_loop_rounds 3 ?_
  rw [rounds_succ]
  go_wp2_with (at_builtin; go_loud (refine wpList_append_own _ rfl _ _ 23 rfl w.heap.size 9 i0 (.string { data := #[] }) 1 16 Tryz.underlying23 hi hiz0 hiz1 hiz2 rfl (by decide) _ _ _ rfl hown a1 n1 c1 (strsV s1) rfl (by simp [HN1.out]) (fun j u h => cell_step (H1.out j u h) hb1) (strs_one _) (by unfold maxLen; omega) (by omega) (by omega) ?_); intro v2 w2 hown2 hgr2 hnil2)
  have hB2 : Below w.heap.size w w2 := hb1.grown hgr2 (by omega) (fun r e => (hown.lt r e).1)
  have f2 := cell_step e2 hB2
  have hz2 := hB2.size
  rw [rounds_succ]
  go_wp2_with (at_builtin; go_loud (refine wpList_append_own _ rfl _ _ 23 rfl w.heap.size 9 i0 (.string { data := #[] }) 1 16 Tryz.underlying23 hi hiz0 hiz1 hiz2 rfl (by decide) _ _ _ rfl hown2 a2 n2 c2 (strsV s2) rfl (by simp [HN2.out]) (fun j u h => cell_step (H2.out j u h) hB2) (strs_one _) (by unfold maxLen; omega) (by omega) (by omega) ?_); intro v3 w3 hown3 hgr3 hnil3)
  have hB3 : Below w.heap.size w w3 := hB2.grown hgr3 (by omega) (fun r e => (hown2.lt r e).1)
  rw [rounds_succ]
  go_wp2
  go_ret
  exact ⟨v3, rfl, by rw [← hN]; simpa using hown3, hB3⟩
set_option maxHeartbeats 2000000 in
theorem concat_ns (a2 : Addr) (c2 : Nat) (s2 : List ByteArray) (b : Nat) (w : World) (h2 : ∀ j u, (strsV s2)[j]? = some u → w.cell? (a2.add j) = some u)
    (l2 : s2.length ≤ 1000) (e1 : w.cell? ⟨b, 0, none⟩ = some (.slice none 0 0)) (e2 : w.cell? ⟨b, 1, none⟩ = some (.slice (some a2) s2.length c2)) :
    Calls Tryz.prog 106 #[.slice (some ⟨b, 0, none⟩) 2 2] w fun e w' => ∃ v, e = .returned v ∧ w'.ownsRow w.heap.size 9 1 v s2.length (strsV s2) ∧ Below w.heap.size w w' := by
  obtain ⟨i0, hi, hiz0, hiz1, hiz2⟩ := info_parts info_string
  have HG := hid (fun w => grow_any s2.length (by omega) w)
  have H2 := hid h2
  clear h2
  obtain ⟨n2, hn2⟩ : ∃ n2, s2.length = n2 := ⟨_, rfl⟩
  have HN2 := hid hn2
  rw [hn2] at HG l2 e2 ⊢
  clear hn2
  go_enter Tryz.func106, Tryz.ntmps106
  go_wp2
  refine wp_loop_rounds 3 ?_
  rw [rounds_succ]
  go_wp2
  rw [rounds_succ]
  go_wp2
  rw [rounds_succ]
  go_wp2_with (go_at_call 170; go_loud ((with_reducible refine (HG.out _).mono ?_); rintro e w1 ⟨v, rfl, hown, hb1⟩; have d1 := cell_step e1 hb1; have d2 := cell_step e2 hb1; have hz1 := hb1.size))
  refine wp_loop_rounds 3 ?_
  rw [rounds_succ]
  go_wp2_with (at_builtin; go_loud (refine wpList_append_own_none rfl _ _ 23 rfl w.heap.size 9 i0 1 Tryz.underlying23 hi _ _ _ rfl hown rfl ?_))
  have hB2 := hb1
  have hown2 := hown
  have f2 := cell_step e2 hB2
  have hz2 := hB2.size
  rw [rounds_succ]
  go_wp2_with (at_builtin; go_loud (refine wpList_append_own _ rfl _ _ 23 rfl w.heap.size 9 i0 (.string { data := #[] }) 1 16 Tryz.underlying23 hi hiz0 hiz1 hiz2 rfl (by decide) _ _ _ rfl hown2 a2 n2 c2 (strsV s2) rfl (by simp [HN2.out]) (fun j u h => cell_step (H2.out j u h) hB2) (strs_one _) (by unfold maxLen; omega) (by omega) (by omega) ?_); intro v3 w3 hown3 hgr3 hnil3)
  have hB3 : Below w.heap.size w w3 := hB2.grown hgr3 (by omega) (fun r e => (hown2.lt r e).1)
  rw [rounds_succ]
  go_wp2
  go_ret
  exact ⟨v3, rfl, by simpa using hown3, hB3⟩
set_option maxHeartbeats 2000000 in
theorem concat_sn (a1 : Addr) (c1 : Nat) (s1 : List ByteArray) (b : Nat) (w : World) (h1 : ∀ j u, (strsV s1)[j]? = some u → w.cell? (a1.add j) = some u)
    (l1 : s1.length ≤ 1000) (e1 : w.cell? ⟨b, 0, none⟩ = some (.slice (some a1) s1.length c1)) (e2 : w.cell? ⟨b, 1, none⟩ = some (.slice none 0 0)) :
    Calls Tryz.prog 106 #[.slice (some ⟨b, 0, none⟩) 2 2] w fun e w' => ∃ v, e = .returned v ∧ w'.ownsRow w.heap.size 9 1 v s1.length (strsV s1) ∧ Below w.heap.size w w' := by
  obtain ⟨i0, hi, hiz0, hiz1, hiz2⟩ := info_parts info_string
  have HG := hid (fun w => grow_any s1.length (by omega) w)
  have H1 := hid h1
  clear h1
  obtain ⟨n1, hn1⟩ : ∃ n1, s1.length = n1 := ⟨_, rfl⟩
  have HN1 := hid hn1
  rw [hn1] at HG l1 e1 ⊢
  clear hn1
  go_enter Tryz.func106, Tryz.ntmps106
  go_wp2
  refine wp_loop_rounds 3 ?_
  rw [rounds_succ]
  go_wp2
  rw [rounds_succ]
  go_wp2
  rw [rounds_succ]
  go_wp2_with (go_at_call 170; go_loud ((with_reducible refine (HG.out _).mono ?_); rintro e w1 ⟨v, rfl, hown, hb1⟩; have d1 := cell_step e1 hb1; have d2 := cell_step e2 hb1; have hz1 := hb1.size))
  refine wp_loop_rounds 3 ?_
  rw [rounds_succ]
  go_wp2_with (at_builtin; go_loud (refine wpList_append_own _ rfl _ _ 23 rfl w.heap.size 9 i0 (.string { data := #[] }) 1 16 Tryz.underlying23 hi hiz0 hiz1 hiz2 rfl (by decide) _ _ _ rfl hown a1 n1 c1 (strsV s1) rfl (by simp [HN1.out]) (fun j u h => cell_step (H1.out j u h) hb1) (strs_one _) (by unfold maxLen; omega) (by omega) (by omega) ?_); intro v2 w2 hown2 hgr2 hnil2)
  have hB2 : Below w.heap.size w w2 := hb1.grown hgr2 (by omega) (fun r e => (hown.lt r e).1)
  have f2 := cell_step e2 hB2
  have hz2 := hB2.size
  rw [rounds_succ]
  go_wp2_with (at_builtin; go_loud (refine wpList_append_own_none rfl _ _ 23 rfl w.heap.size 9 i0 1 Tryz.underlying23 hi _ _ _ rfl hown2 rfl ?_))
  rw [rounds_succ]
  go_wp2
  go_ret
  exact ⟨v2, rfl, by simpa using hown2, hB2⟩

set_option maxHeartbeats 2000000 in
theorem concat_nn (b : Nat) (w : World) (e1 : w.cell? ⟨b, 0, none⟩ = some (.slice none 0 0)) (e2 : w.cell? ⟨b, 1, none⟩ = some (.slice none 0 0)) :
    Calls Tryz.prog 106 #[.slice (some ⟨b, 0, none⟩) 2 2] w fun e w' => ∃ v, e = .returned v ∧ w'.ownsRow w.heap.size 9 1 v 0 [] ∧ Below w.heap.size w w' := by
  have HG : Hid (∀ w, Calls Tryz.prog 170 #[.slice none 0 0, .int .i64 0] w fun e w' => e = .returned (.slice none 0 0) ∧ w = w') := fun w => grow_zero w
  go_enter Tryz.func106, Tryz.ntmps106
  go_wp2
  refine wp_loop_rounds 3 ?_
  rw [rounds_succ]
  go_wp2
  rw [rounds_succ]
  go_wp2
  rw [rounds_succ]
  go_wp2_with (go_at_call 170; go_loud ((with_reducible refine (HG.out _).mono ?_); rintro e w1 ⟨rfl, rfl⟩))
  refine wp_loop_rounds 3 ?_
  rw [rounds_succ]
  go_wp2
  rw [rounds_succ]
  go_wp2
  rw [rounds_succ]
  go_wp2
  go_ret
  exact ⟨_, rfl, World.ownsRow_nil _ _ _ _, by (repeat' (first | (with_reducible exact Below.refl _ _) | (with_reducible assumption) | (with_reducible refine Below.new ?_ _) | (with_reducible refine Below.alloc ?_ ?_ _) | (with_reducible refine Below.drew ?_) | (with_reducible refine Below.drewN ?_ _) | (with_reducible refine Below.setCell ?_ ?_ _) | (refine Below.step ?_ (by assumption)) | go_size))⟩

end Go.Proofs.YtejleplhmkmegaaGreatDoor
/- Schemas: the program's 'Right'. -/
namespace Go.Proofs.YtejleplhmkmegaaGreatDoor
set_option linter.unusedVariables false
set_option linter.unusedSimpArgs false
set_option maxRecDepth 100000
open Go.ChangeShapes Go.WideShapes Go.ChangeAt Go.RowKit

theorem StrsSl.strs {w : World} {v : Value} {ss : List ByteArray} (h : StrsSl w v ss) : StrsAt w v ss := by
  obtain ⟨_, ao, cap, rfl, _, _, _, h⟩ := h
  refine ⟨ao, cap, rfl, fun hl => ?_⟩
  obtain ⟨b, off, rfl, hc⟩ := h (by simpa using hl)
  refine ⟨b, off, rfl, fun j hj => hc j _ ?_⟩
  rw [List.getElem?_map, List.getElem?_eq_getElem hj]; rfl
/-- Is a schema right? -/
def rightS (ds ms : List ByteArray) (g : Int) : Bool := decide (1 ≤ ds.length ∧ ds.length ≤ 6) && (decide (ms.length ≤ 4) && (decide (1 ≤ g ∧ g ≤ 1000000000) && namesB (ds ++ ms)))
/-- Texts that a machine can hold. -/
def Texts (ss : List ByteArray) : Prop := ss.length ≤ 1000 ∧ ∀ s ∈ ss, s.size ≤ 9223372036854775807
theorem Texts.app {a b : List ByteArray} (ha : Texts a) (hb : Texts b) : (∀ s ∈ a ++ b, s.size ≤ 9223372036854775807) ∧ (a ++ b).length ≤ 1000000 := by
  refine ⟨fun s hs => ?_, by have := ha.1; have := hb.1; simp; omega⟩
  rcases List.mem_append.1 hs with h | h
  · exact ha.2 s h
  · exact hb.2 s h

/-- Two lists joined, whichever is nil. -/
theorem concat_any (vd vm : Value) (ds ms : List ByteArray) (b : Nat) (w : World) (hd : StrsSl w vd ds) (hm : StrsSl w vm ms) (l1 : ds.length ≤ 1000) (l2 : ms.length ≤ 1000) (e1 : w.cell? ⟨b, 0, none⟩ = some vd) (e2 : w.cell? ⟨b, 1, none⟩ = some vm) :
    Calls Tryz.prog 106 #[.slice (some ⟨b, 0, none⟩) 2 2] w fun e w' => ∃ v, e = .returned v ∧ StrsSl w' v (ds ++ ms) ∧ Below w.heap.size w w' := by
  obtain ⟨ad, cd, rfl, _, _, nd⟩ := SlAt.shape hd
  obtain ⟨am, cm, rfl, _, _, nm⟩ := SlAt.shape hm
  cases ad with
  | none =>
    obtain rfl := nd rfl
    have h0 : ds.length = 0 := by have := (SlAt.parts hd).2.1; omega
    obtain rfl := List.length_eq_zero_iff.1 h0
    cases am with
    | none =>
      obtain rfl := nm rfl
      have h0 : ms.length = 0 := by have := (SlAt.parts hm).2.1; omega
      obtain rfl := List.length_eq_zero_iff.1 h0
      exact (concat_nn b w e1 e2).mono fun e w' ⟨v, h1, h2, h3⟩ => ⟨v, h1, StrsSl.own h2, h3⟩
    | some a2 =>
      obtain ⟨b2, o2, s2⟩ := a2
      exact (concat_ns _ cm ms b w (SlAt.src hm) l2 e1 e2).mono fun e w' ⟨v, h1, h2, h3⟩ => ⟨v, h1, StrsSl.own (n := ms.length) (by simpa using h2), h3⟩
  | some a1 =>
    obtain ⟨b1, o1, s1⟩ := a1
    cases am with
    | none =>
      obtain rfl := nm rfl
      have h0 : ms.length = 0 := by have := (SlAt.parts hm).2.1; omega
      obtain rfl := List.length_eq_zero_iff.1 h0
      exact (concat_sn _ cd ds b w (SlAt.src hd) l1 e1 e2).mono fun e w' ⟨v, h1, h2, h3⟩ => ⟨v, h1, StrsSl.own (n := ds.length) (by simpa using h2), h3⟩
    | some a2 =>
      obtain ⟨b2, o2, s2⟩ := a2
      exact (concat_ss _ _ cd cm ds ms b w (SlAt.src hd) (SlAt.src hm) l1 l2 e1 e2).mono fun e w' ⟨v, h1, h2, h3⟩ => ⟨v, h1, StrsSl.own (n := ds.length + ms.length) (by simpa using h2), h3⟩

set_option maxHeartbeats 1000000 in
theorem right_any (vd vm : Value) (ds ms : List ByteArray) (g : Int) (w : World) (hd : StrsSl w vd ds) (hm : StrsSl w vm ms) (td : Texts ds) (tm : Texts ms) :
    Calls Tryz.prog 55 #[.agg #[vd, vm, .int .i64 g]] w fun e w' => e = .returned (.bool (rightS ds ms g)) ∧ Below w.heap.size w w' := by
  obtain ⟨ta, tl⟩ := td.app tm
  obtain ⟨td, _⟩ := td
  obtain ⟨tm, _⟩ := tm
  have HD := hid hd; have HM := hid hm
  have HA := hid (fun v W (h : StrsSl W v (ds ++ ms)) => areNames_any v (ds ++ ms) W h.strs tl ta)
  obtain ⟨ad, cd, rfl, _, _, _⟩ := SlAt.shape hd
  obtain ⟨am, cm, rfl, _, _, _⟩ := SlAt.shape hm
  have HC := hid (fun b W (h1 : StrsSl W (.slice ad ds.length cd) ds) (h2 : StrsSl W (.slice am ms.length cm) ms) => concat_any _ _ ds ms b W h1 h2 td tm)
  clear hd hm ta tl
  by_cases h1 : 1 ≤ ds.length ∧ ds.length ≤ 6
  · have hw : decide ((1 : Int) ≤ (ds.length : Int) ∧ (ds.length : Int) ≤ 6) = true := by simp; omega
    have HW := hid (fun W => within_any (ds.length : Int) 1 6 W)
    rw [hw] at HW
    clear hw
    by_cases h2 : ms.length ≤ 4
    · by_cases h3 : 1 ≤ g
      · by_cases h4 : g ≤ 1000000000
        · have hr : rightS ds ms g = namesB (ds ++ ms) := by simp [rightS, h1, h2, h3, h4]
          rw [hr]
          clear hr
          generalize namesB (ds ++ ms) = NB at HA ⊢
          generalize ds.length = nd at HC HW HD td ⊢
          generalize ms.length = nm at HC HM tm h2 ⊢
          go_enter Tryz.func55, Tryz.ntmps55
          go_wp2_with (first
            | (go_at_call 104; ((with_reducible refine (HW.out _).mono ?_); rintro e w1 ⟨rfl, rfl⟩))
            | (go_at_call 106; go_loud ((with_reducible refine (HC.out _ _ (StrsSl.below HD.out (by (repeat' (first | (with_reducible exact Below.refl _ _) | (with_reducible assumption) | (with_reducible refine Below.new ?_ _) | (with_reducible refine Below.alloc ?_ ?_ _) | (with_reducible refine Below.drew ?_) | (with_reducible refine Below.drewN ?_ _) | (with_reducible refine Below.setCell ?_ ?_ _) | (refine Below.step ?_ (by assumption)) | go_size)))) (StrsSl.below HM.out (by (repeat' (first | (with_reducible exact Below.refl _ _) | (with_reducible assumption) | (with_reducible refine Below.new ?_ _) | (with_reducible refine Below.alloc ?_ ?_ _) | (with_reducible refine Below.drew ?_) | (with_reducible refine Below.drewN ?_ _) | (with_reducible refine Below.setCell ?_ ?_ _) | (refine Below.step ?_ (by assumption)) | go_size)))) (by go_simp) (by go_simp)).mono ?_); rintro e w2 ⟨v, rfl, hv, hb2⟩; have HV := hid hv; clear hv))
            | (go_at_call 105; ((with_reducible refine (HA.out _ _ HV.out).mono ?_); rintro e w3 ⟨rfl, hb3⟩)))
          go_ret
          exact ⟨rfl, by (repeat' (first | (with_reducible exact Below.refl _ _) | (with_reducible assumption) | (with_reducible refine Below.new ?_ _) | (with_reducible refine Below.alloc ?_ ?_ _) | (with_reducible refine Below.drew ?_) | (with_reducible refine Below.drewN ?_ _) | (with_reducible refine Below.setCell ?_ ?_ _) | (refine Below.step ?_ (by assumption)) | go_size))⟩
        · have hr : rightS ds ms g = false := by simp [rightS]; omega
          rw [hr]
          clear hr
          go_enter Tryz.func55, Tryz.ntmps55
          go_wp2_with (go_at_call 104; ((with_reducible refine (HW.out _).mono ?_); rintro e w1 ⟨rfl, rfl⟩))
          go_ret
          exact ⟨rfl, by (repeat' (first | (with_reducible exact Below.refl _ _) | (with_reducible assumption) | (with_reducible refine Below.new ?_ _) | (with_reducible refine Below.alloc ?_ ?_ _) | (with_reducible refine Below.drew ?_) | (with_reducible refine Below.drewN ?_ _) | (with_reducible refine Below.setCell ?_ ?_ _) | (refine Below.step ?_ (by assumption)) | go_size))⟩
      · have hr : rightS ds ms g = false := by simp [rightS]; omega
        rw [hr]
        clear hr
        go_enter Tryz.func55, Tryz.ntmps55
        go_wp2_with (go_at_call 104; ((with_reducible refine (HW.out _).mono ?_); rintro e w1 ⟨rfl, rfl⟩))
        go_ret
        exact ⟨rfl, by (repeat' (first | (with_reducible exact Below.refl _ _) | (with_reducible assumption) | (with_reducible refine Below.new ?_ _) | (with_reducible refine Below.alloc ?_ ?_ _) | (with_reducible refine Below.drew ?_) | (with_reducible refine Below.drewN ?_ _) | (with_reducible refine Below.setCell ?_ ?_ _) | (refine Below.step ?_ (by assumption)) | go_size))⟩
    · have hr : rightS ds ms g = false := by simp [rightS]; omega
      rw [hr]
      clear hr
      go_enter Tryz.func55, Tryz.ntmps55
      go_wp2_with (go_at_call 104; ((with_reducible refine (HW.out _).mono ?_); rintro e w1 ⟨rfl, rfl⟩))
      go_ret
      exact ⟨rfl, by (repeat' (first | (with_reducible exact Below.refl _ _) | (with_reducible assumption) | (with_reducible refine Below.new ?_ _) | (with_reducible refine Below.alloc ?_ ?_ _) | (with_reducible refine Below.drew ?_) | (with_reducible refine Below.drewN ?_ _) | (with_reducible refine Below.setCell ?_ ?_ _) | (refine Below.step ?_ (by assumption)) | go_size))⟩
  · have hr : rightS ds ms g = false := by simp [rightS]; omega
    rw [hr]
    clear hr
    have hw : decide ((1 : Int) ≤ (ds.length : Int) ∧ (ds.length : Int) ≤ 6) = false := by simp; omega
    have HW := hid (fun W => within_any (ds.length : Int) 1 6 W)
    rw [hw] at HW
    clear hw h1
    go_enter Tryz.func55, Tryz.ntmps55
    go_wp2_with (go_at_call 104; ((with_reducible refine (HW.out _).mono ?_); rintro e w1 ⟨rfl, rfl⟩))
    go_ret
    exact ⟨rfl, by (repeat' (first | (with_reducible exact Below.refl _ _) | (with_reducible assumption) | (with_reducible refine Below.new ?_ _) | (with_reducible refine Below.alloc ?_ ?_ _) | (with_reducible refine Below.drew ?_) | (with_reducible refine Below.drewN ?_ _) | (with_reducible refine Below.setCell ?_ ?_ _) | (refine Below.step ?_ (by assumption)) | go_size))⟩
end Go.Proofs.YtejleplhmkmegaaGreatDoor
/- append onto a row of the call's own, of a slice that lies in memory, nil or not. -/
namespace Go.Proofs.YtejleplhmkmegaaGreatDoor
set_option linter.unusedVariables false
open Go.ChangeShapes Go.WideShapes Go.ChangeAt Go.RowKit

theorem run_append_sl {P : Program} (w : World) (base : Nat) (t ty e : TypeId) (i : TypeInfo) (z : Value) (size bytes : Nat) (ht : P.underlying t = some (.slice e)) (hi : P.info? e = some i) (hz : i.zero = some z)
    (hsize : i.size = size) (hby : i.bytes = bytes) (hzs : z.cells.size = size) (hsz : 0 < size) (v : Value) (n : Nat) (xs : List Value) (hown : w.ownsRow base e size v n xs)
    (xv : Value) (m : Nat) (news : List Value) (hr : SlAt w xv m size news) (h1 : ∀ u ∈ news, u.oneCell' = true) (h63 : n + m ≤ maxLen) (hbytes : (n + m) * bytes ≤ 140737488355328) (hbase : base ≤ w.heap.size) :
    ∃ v' w', (Builtin.append_ #[t, t] ty #[v, xv]).run P w = .ok v' w' ∧ w'.ownsRow base e size v' (n + m) (xs ++ news) ∧ w.grownBy w' v.ownBlock ∧ (v'.ownBlock = v.ownBlock ∨ v'.ownBlock = some w.heap.size) := by
  obtain ⟨ao, cap, rfl, hl1, _, hn⟩ := SlAt.shape hr
  cases ao with
  | none =>
    obtain rfl := hn rfl
    obtain rfl : m = 0 := by omega
    have hnil : news = [] := List.eq_nil_of_length_eq_zero (by simpa using hr.1)
    subst hnil
    exact ⟨v, w, run_append_owned_none (P := P) (w := w) base t ty e i size ht hi v n xs hown, by simpa using hown, World.grownBy.refl w _, .inl rfl⟩
  | some ad =>
    obtain ⟨b, off, s⟩ := ad
    obtain ⟨v', w', h2, h3, h4, _, h5⟩ := run_append_own_at (P := P) w base t ty e i z size bytes ht hi hz hsize hby hzs hsz v n xs hown ⟨b, off, s⟩ m cap news hr.1 (SlAt.src hr) h1 h63 hbytes hbase
    exact ⟨v', w', h2, h3, h4, h5⟩
theorem wp_append_sl {P : Program} (w : World) {o : Oper} {a : Act} {K : Act → World → Prop} {Q : Exit → Act → World → Prop} (s x : Operand) (t : TypeId)
    (ho : o.op = .call { callee := .builtin .append, args := #[s, x], argTypes := #[t, t] }) (base : Nat) (e : TypeId) (i : TypeInfo) (z : Value) (size bytes : Nat) (ht : P.underlying t = some (.slice e)) (hi : P.info? e = some i) (hz : i.zero = some z)
    (hsize : i.size = size) (hby : i.bytes = bytes) (hzs : z.cells.size = size) (hsz : 0 < size) (v : Value) (n : Nat) (xs : List Value) (hs : a.eval s = v) (hown : w.ownsRow base e size v n xs)
    (xv : Value) (m : Nat) (news : List Value) (hx : a.eval x = xv) (hr : SlAt w xv m size news) (h1 : ∀ u ∈ news, u.oneCell' = true) (h63 : n + m ≤ maxLen) (hbytes : (n + m) * bytes ≤ 140737488355328) (hbase : base ≤ w.heap.size)
    (h : ∀ v' w', w'.ownsRow base e size v' (n + m) (xs ++ news) → w.grownBy w' v.ownBlock → (v'.ownBlock = v.ownBlock ∨ v'.ownBlock = some w.heap.size) → K (a.put o.dst v') w') : o.wp P a w K Q := by
  obtain ⟨v', w', hrun, h2, h3, h4⟩ := run_append_sl (P := P) w base t o.type e i z size bytes ht hi hz hsize hby hzs hsz v n xs hown xv m news hr h1 h63 hbytes hbase
  unfold Oper.wp execOp
  simp only [ho, resolve, invoke, builtin, Sem.run_bind, Sem.run_pure, Result.andThen_ok, List.map_toArray, List.map_cons, List.map_nil, hs, hx, hrun]
  exact h v' w' h2 h3 h4
theorem wpList_append_sl {P : Program} (w : World) {ops : Array Oper} {rest : List Oper} {o : Oper} {a : Act} {Q : Exit → Act → World → Prop} (hgd : o.guard = none) (s x : Operand) (t : TypeId)
    (ho : o.op = .call { callee := .builtin .append, args := #[s, x], argTypes := #[t, t] }) (base : Nat) (e : TypeId) (i : TypeInfo) (z : Value) (size bytes : Nat) (ht : P.underlying t = some (.slice e)) (hi : P.info? e = some i) (hz : i.zero = some z)
    (hsize : i.size = size) (hby : i.bytes = bytes) (hzs : z.cells.size = size) (hsz : 0 < size) (v : Value) (n : Nat) (xs : List Value) (hs : a.eval s = v) (hown : w.ownsRow base e size v n xs)
    (xv : Value) (m : Nat) (news : List Value) (hx : a.eval x = xv) (hr : SlAt w xv m size news) (h1 : ∀ u ∈ news, u.oneCell' = true) (h63 : n + m ≤ maxLen) (hbytes : (n + m) * bytes ≤ 140737488355328) (hbase : base ≤ w.heap.size)
    (h : ∀ v' w', w'.ownsRow base e size v' (n + m) (xs ++ news) → w.grownBy w' v.ownBlock → (v'.ownBlock = v.ownBlock ∨ v'.ownBlock = some w.heap.size) → wpList P ops Q rest (a.put o.dst v') w') : wpList P ops Q (o :: rest) a w :=
  wpList_plain hgd fun _ hK => wp_append_sl w s x t ho base e i z size bytes ht hi hz hsize hby hzs hsz v n xs hs hown xv m news hx hr h1 h63 hbytes hbase fun v' w' h2 h3 h4 => hK _ _ (h v' w' h2 h3 h4)
theorem step_append_sl {P : Program} (w : World) {ops : Array Oper} {o : Oper} {a : Act} {K : Act → World → Prop} {Q : Exit → Act → World → Prop} {E : Prop} (hgd : o.guard = none) (s x : Operand) (t : TypeId)
    (ho : o.op = .call { callee := .builtin .append, args := #[s, x], argTypes := #[t, t] }) (base : Nat) (e : TypeId) (i : TypeInfo) (z : Value) (size bytes : Nat) (ht : P.underlying t = some (.slice e)) (hi : P.info? e = some i) (hz : i.zero = some z)
    (hsize : i.size = size) (hby : i.bytes = bytes) (hzs : z.cells.size = size) (hsz : 0 < size) (v : Value) (n : Nat) (xs : List Value) (hs : a.eval s = v) (hown : w.ownsRow base e size v n xs)
    (xv : Value) (m : Nat) (news : List Value) (hx : a.eval x = xv) (hr : SlAt w xv m size news) (h1 : ∀ u ∈ news, u.oneCell' = true) (h63 : n + m ≤ maxLen) (hbytes : (n + m) * bytes ≤ 140737488355328) (hbase : base ≤ w.heap.size)
    (h : ∀ v' w', w'.ownsRow base e size v' (n + m) (xs ++ news) → w.grownBy w' v.ownBlock → (v'.ownBlock = v.ownBlock ∨ v'.ownBlock = some w.heap.size) → K (a.put o.dst v') w') :
    if Region.wanted o (yielded ops a.tmps) = true then Oper.wp P o a w K Q else E := by
  have hw : Region.wanted o (yielded ops a.tmps) = true := by simp [Region.wanted, hgd]
  rw [if_pos hw]
  exact wp_append_sl w s x t ho base e i z size bytes ht hi hz hsize hby hzs hsz v n xs hs hown xv m news hx hr h1 h63 hbytes hbase h
/-- What is appended: one element in a new block. -/
theorem SlAt.new (w : World) (cs : Array Value) (T : TypeId) : SlAt (w.alloc (.cells cs T)) (.slice (some ⟨w.heap.size, 0, none⟩) 1 1) 1 cs.size cs.toList := by
  refine ⟨by simp, _, 1, rfl, Nat.le_refl _, (by unfold maxLen; omega), (fun h => by cases h), fun _ => ⟨w.heap.size, 0, rfl, fun j u hj => ?_⟩⟩
  rw [World.cell?_alloc_at _ _ _ _ rfl]
  simpa using hj
theorem SlAt.alloc {w : World} {v : Value} {n size : Nat} {cs : List Value} (h : SlAt w v n size cs) (o : Obj) : SlAt (w.alloc o) v n size cs := h.below ((Below.refl _ _).alloc (Nat.le_refl _) o)
theorem SlAt.drew {w : World} {v : Value} {n size : Nat} {cs : List Value} (h : SlAt w v n size cs) : SlAt w.drew v n size cs := h.below (Below.drew (Below.refl _ _))
/-- Cells below what is the call's own are as they were behind an append. -/
theorem own_far {w w' : World} {base : Nat} {e : TypeId} {size : Nat} {v : Value} {n : Nat} {xs : List Value} (hown : w.ownsRow base e size v n xs) (hg : w.grownBy w' v.ownBlock) {b o : Nat} {u : Value} (hb : b < base) (h : w.cell? ⟨b, o, none⟩ = some u) : w'.cell? ⟨b, o, none⟩ = some u := by
  rw [hg.cell_far _ (World.block_lt_of_cell? _ _ h) (fun e => ?_)]
  · exact h
  · have := (hown.lt b e.symm).1
    omega
theorem own_blk {w w' : World} {base : Nat} {e : TypeId} {size : Nat} {v : Value} {n : Nat} {xs : List Value} (hown : w.ownsRow base e size v n xs) (hg : w.grownBy w' v.ownBlock) {b : Nat} {o : Obj} (hb : b < base) (h : w.heap[b]? = some o) : w'.heap[b]? = some o := by
  rw [hg.block b (Array.getElem?_eq_some_iff.1 h).1 (fun e => ?_)]
  · exact h
  · have := (hown.lt b e.symm).1
    omega
theorem own_below {w w' : World} {base : Nat} {e : TypeId} {size : Nat} {v : Value} {n : Nat} {xs : List Value} (hown : w.ownsRow base e size v n xs) (hg : w.grownBy w' v.ownBlock) {w0 : World} (h0 : Below w0.heap.size w0 w) (hb : w0.heap.size ≤ base) : Below w0.heap.size w0 w' :=
  h0.grown hg (by have := h0.size; omega) (fun r e => by have := (hown.lt r e).1; omega)
end Go.Proofs.YtejleplhmkmegaaGreatDoor
/- Schemas: the reference's 'Right'. -/
namespace Go.Proofs.YtejleplhmkmegaaGreatDoor
set_option linter.unusedVariables false
set_option linter.unusedSimpArgs false
set_option maxRecDepth 100000
open Go.ChangeShapes Go.WideShapes Go.ChangeAt Go.RowKit

theorem seen_or (l : List ByteArray) (t : ByteArray) : (seenB l t = false ∧ ∀ i (hi : i < l.length), (t.toList == l[i].toList) = false) ∨ (seenB l t = true ∧ ∃ j, ∃ hj : j < l.length, (t.toList == l[j].toList) = true ∧ ∀ i (hi : i < j), (t.toList == (l[i]'(Nat.lt_trans hi hj)).toList) = false) := by
  have H : ∀ n, n ≤ l.length → (∀ i (hi : i < l.length), i < n → (t.toList == l[i].toList) = false) ∨ (∃ j, ∃ hj : j < l.length, (t.toList == l[j].toList) = true ∧ ∀ i (hi : i < j), (t.toList == (l[i]'(Nat.lt_trans hi hj)).toList) = false) := by
    intro n
    induction n with
    | zero => intro _; exact .inl fun i hi h => absurd h (Nat.not_lt_zero i)
    | succ n ih =>
      intro hn
      rcases ih (by omega) with h | h
      · by_cases hg : (t.toList == (l[n]'(by omega)).toList) = true
        · exact .inr ⟨n, by omega, hg, fun i hi => h i (by omega) hi⟩
        · refine .inl fun i hi hin => ?_
          by_cases e : i = n
          · subst e; simpa using hg
          · exact h i hi (by omega)
      · exact .inr h
  rcases H l.length (Nat.le_refl _) with h | h
  · refine .inl ⟨?_, fun i hi => h i hi hi⟩
    unfold seenB
    rw [List.any_eq_false]
    intro x hx
    obtain ⟨i, hi, rfl⟩ := List.getElem_of_mem hx
    have := h i hi hi
    rw [ByteArray.toList_eq, ByteArray.toList_eq] at this
    simpa using fun e => (by rw [e] at this; simp at this)
  · refine .inr ⟨?_, h⟩
    obtain ⟨j, hj, he, _⟩ := h
    unfold seenB
    rw [List.any_eq_true]
    refine ⟨l[j], List.getElem_mem hj, ?_⟩
    rw [ByteArray.toList_eq, ByteArray.toList_eq] at he
    rw [beq_iff_eq] at he ⊢
    exact he.symm

set_option maxHeartbeats 4000000 in
theorem refRight_mid (vd vm : Value) (ds ms : List ByteArray) (g : Int) (w : World) (hd : StrsSl w vd ds) (hm : StrsSl w vm ms) (td : Texts ds) (tm : Texts ms) (h1 : 1 ≤ ds.length) (h2 : ds.length ≤ 6) (h3 : ms.length ≤ 4) (h4 : 1 ≤ g) (h5 : g ≤ 1000000000) :
    Calls Tryz.prog 69 #[.agg #[vd, vm, .int .i64 g]] w fun e w' => e = .returned (.bool (namesB (ds ++ ms))) ∧ Below w.heap.size w w' := by
  obtain ⟨i0, hi, hiz0, hiz1, hiz2⟩ := info_parts info_string
  obtain ⟨ta, _⟩ := td.app tm
  obtain ⟨J, hJ, hpre, hat, hres⟩ : ∃ J, J ≤ (ds ++ ms).length ∧ (∀ i, i < J → okAt (ds ++ ms) i = true) ∧ (J < (ds ++ ms).length → okAt (ds ++ ms) J = false) ∧ namesB (ds ++ ms) = decide (J = (ds ++ ms).length) := by
    rcases names_first (ds ++ ms) with ⟨e1, e2⟩ | ⟨e1, j, hj, e2, e3⟩
    · exact ⟨_, Nat.le_refl _, e2, fun h => absurd h (Nat.lt_irrefl _), by rw [e1]; simp⟩
    · exact ⟨j, by omega, e3, fun _ => e2, by rw [e1]; exact (decide_eq_false (by omega)).symm⟩
  rw [hres]
  clear hres
  have HTA := hid ta; have HPRE := hid hpre; have HAT := hid hat
  obtain ⟨ss, hss⟩ : ∃ ss, ds ++ ms = ss := ⟨_, rfl⟩
  have HSS := hid hss
  rw [hss] at HPRE HAT HTA hJ ⊢
  obtain ⟨ad, cd, rfl, _, _, _⟩ := SlAt.shape hd
  obtain ⟨am, cm, rfl, _, _, _⟩ := SlAt.shape hm
  have hN : ss.length = ds.length + ms.length := by rw [← hss]; simp
  have HD : Hid (SlAt w (.slice ad ds.length cd) ds.length 1 (strsV ds)) := hid hd
  have HM : Hid (SlAt w (.slice am ms.length cm) ms.length 1 (strsV ms)) := hid hm
  clear hd hm ta hpre hat hss
  have hN10 : ss.length ≤ 10 := by omega
  obtain ⟨N, hNN⟩ : ∃ N, ss.length = N := ⟨_, rfl⟩
  rw [hNN] at HAT hJ hN hN10 ⊢
  have HN := hid hN; have HNN := hid hNN
  clear hN hNN
  generalize ds.length = nd at *
  generalize ms.length = nm at *
  go_enter Tryz.func69, Tryz.ntmps69
  go_wp2
  go_region_held3 (fun w' => w'.cell? ⟨w.heap.size, 0, none⟩ = some (.slice ad nd cd) ∧ w'.cell? ⟨w.heap.size, 1, none⟩ = some (.slice am nm cm)) (first | exact ⟨f0, f1⟩ | exact ⟨e0, e1⟩ | go_keep) ((first
    | (refine step_append_sl _ (by rfl) _ _ _ (by rfl) (w.heap.size + 1) 9 i0 (.string { data := #[] }) 1 16 Tryz.underlying23 hi hiz0 hiz1 hiz2 rfl (by decide) (.slice none 0 0) 0 [] (by rfl) (World.ownsRow_nil _ _ _ _) (.slice ad nd cd) nd (strsV ds) (by rfl) (SlAt.below HD.out (by (repeat' (first | (with_reducible exact Below.refl _ _) | (with_reducible assumption) | (with_reducible refine Below.new ?_ _) | (with_reducible refine Below.alloc ?_ ?_ _) | (with_reducible refine Below.drew ?_) | (with_reducible refine Below.drewN ?_ _) | (with_reducible refine Below.setCell ?_ ?_ _) | (refine Below.step ?_ (by assumption)) | go_size)))) (strs_one _) (by unfold maxLen; omega) (by omega) (by go_size) ?_; intro v1 w1 hown1 hgrow1 hb1; obtain ⟨e0, e1⟩ : w1.cell? ⟨w.heap.size, 0, none⟩ = some (.slice ad nd cd) ∧ w1.cell? ⟨w.heap.size, 1, none⟩ = some (.slice am nm cm) := ⟨own_far (World.ownsRow_nil _ (w.heap.size + 1) 9 1) hgrow1 (by omega) (by go_simp), own_far (World.ownsRow_nil _ (w.heap.size + 1) 9 1) hgrow1 (by omega) (by go_simp)⟩; have hB1 : Below w.heap.size w w1 := own_below (World.ownsRow_nil _ (w.heap.size + 1) 9 1) hgrow1 (by (repeat' (first | (with_reducible exact Below.refl _ _) | (with_reducible assumption) | (with_reducible refine Below.new ?_ _) | (with_reducible refine Below.alloc ?_ ?_ _) | (with_reducible refine Below.drew ?_) | (with_reducible refine Below.drewN ?_ _) | (with_reducible refine Below.setCell ?_ ?_ _) | (refine Below.step ?_ (by assumption)) | go_size))) (by omega))
    | (refine step_append_sl _ (by rfl) _ _ _ (by rfl) (w.heap.size + 1) 9 i0 (.string { data := #[] }) 1 16 Tryz.underlying23 hi hiz0 hiz1 hiz2 rfl (by decide) v1 (0 + nd) ([] ++ strsV ds) (by rfl) hown1 (.slice am nm cm) nm (strsV ms) (by rfl) (SlAt.below HM.out (by (repeat' (first | (with_reducible exact Below.refl _ _) | (with_reducible assumption) | (with_reducible refine Below.new ?_ _) | (with_reducible refine Below.alloc ?_ ?_ _) | (with_reducible refine Below.drew ?_) | (with_reducible refine Below.drewN ?_ _) | (with_reducible refine Below.setCell ?_ ?_ _) | (refine Below.step ?_ (by assumption)) | go_size)))) (strs_one _) (by unfold maxLen; omega) (by omega) (Nat.succ_le_of_lt (World.block_lt_of_cell? _ _ e0)) ?_; intro v2 w2 hown2 hgrow2 hb2; obtain ⟨f0, f1⟩ : w2.cell? ⟨w.heap.size, 0, none⟩ = some (.slice ad nd cd) ∧ w2.cell? ⟨w.heap.size, 1, none⟩ = some (.slice am nm cm) := ⟨own_far hown1 hgrow2 (by omega) (by go_simp), own_far hown1 hgrow2 (by omega) (by go_simp)⟩; have hB2 : Below w.heap.size w w2 := own_below hown1 hgrow2 (by (repeat' (first | (with_reducible exact Below.refl _ _) | (with_reducible assumption) | (with_reducible refine Below.new ?_ _) | (with_reducible refine Below.alloc ?_ ?_ _) | (with_reducible refine Below.drew ?_) | (with_reducible refine Below.drewN ?_ _) | (with_reducible refine Below.setCell ?_ ?_ _) | (refine Below.step ?_ (by assumption)) | go_size))) (by omega))))
  have hv2 : StrsSl w2 v2 ss := by
    rw [← HSS.out]
    refine StrsSl.own (base := w.heap.size + 1) (e := 9) (n := 0 + nd + nm) ?_
    simpa [strsV] using hown2
  obtain ⟨a2, c2, rfl, hc2, hc3, _⟩ := SlAt.shape hv2
  have HV := hid hv2
  clear hown1 hown2 hgrow1 hgrow2 hb1 hb2 hv2 hB1 e0 e1 f0 f1 HD HM
  rw [HNN.out] at hc2 ⊢
  go_wp2
  go_loopw [4] (fun i wr => ∃ k : Nat, k ≤ J ∧ i = .int .i64 k ∧ Below w2.heap.size w2 wr) (fun i _ => N - (intOf i).toNat)
  case atStart => exact ⟨0, Nat.zero_le _, rfl, Below.refl _ _⟩
  case round =>
    obtain ⟨k, hk, rfl, hbel⟩ := hrel
    by_cases hkN : k < N
    · have hlen : k < ss.length := by rw [HNN.out]; exact hkN
      obtain ⟨b, off, rfl, hcell⟩ := (SlAt.parts HV.out).2.2.2.2 (by simp; omega)
      have HC := hid (fun i (hi : i < ss.length) => hcell i (.string ss[i]) (by rw [List.getElem?_map, List.getElem?_eq_getElem hi]; rfl))
      clear hcell
      have hok : okAt ss k = (!seenB (ss.take k) ss[k] && nameB ss[k]) := by unfold okAt strAt; rw [List.getElem?_eq_getElem hlen]; rfl
      have hsz := HTA.out ss[k] (List.getElem_mem hlen)
      have ck := HC.out k hlen
      obtain ⟨s, hs⟩ : ∃ s, ss[k] = s := ⟨_, rfl⟩
      have HN2 := hid (fun W => refIsName_any ss[k] W hsz)
      rw [hs] at hok hsz ck HN2
      have HCK := hid ck; have HOK := hid hok; have HBEL := hid hbel
      clear ck hok hs hbel
      obtain ⟨W0, hW0⟩ : ∃ W0, wr = W0 := ⟨_, rfl⟩
      rw [hW0] at HBEL ⊢
      clear hW0
      rcases seen_or (ss.take k) s with ⟨hsb, hno⟩ | ⟨hsb, j, hj, hyes, hno⟩
      · have HNO := hid (fun i (hi : i < k) => (show (s.toList == (ss[i]'(Nat.lt_trans hi hlen)).toList) = false from by have := hno i (by simp; omega); simpa using this))
        clear hno
        have HSB := hid hsb
        clear hsb
        go_wp2
        go_loopw [5] (fun i wr => ∃ m : Nat, m ≤ k ∧ i = .int .i64 m ∧ Below w2.heap.size w2 wr) (fun i _ => k - (intOf i).toNat)
        case atStart => exact ⟨0, Nat.zero_le _, rfl, HBEL.out⟩
        case round =>
          obtain ⟨m, hm, rfl, hbel⟩ := hrel
          have c1 := cell_step HCK.out hbel
          have HB := hid hbel
          by_cases hmk : m < k
          · have c2 := cell_step (HC.out m (Nat.lt_trans hmk hlen)) hbel
            have heq := HNO.out m hmk
            obtain ⟨t, ht⟩ : ∃ t, ss[m]'(Nat.lt_trans hmk hlen) = t := ⟨_, rfl⟩
            rw [ht] at c2 heq
            clear ht hbel
            have g1 : (0 : Int) ≤ (m : Int) := Int.natCast_nonneg _
            have g2 : (m : Int) < (N : Int) := by omega
            have g3 : (0 : Int) ≤ (k : Int) := Int.natCast_nonneg _
            have g4 : (k : Int) < (N : Int) := by omega
            go_wp2
            go_quiet (fail)
            go_wp2
            go_roundw
            case rel => exact ⟨m + 1, hmk, by go_num, by have := HB.out; (repeat' (first | (with_reducible exact Below.refl _ _) | (with_reducible assumption) | (with_reducible refine Below.new ?_ _) | (with_reducible refine Below.alloc ?_ ?_ _) | (with_reducible refine Below.drew ?_) | (with_reducible refine Below.drewN ?_ _) | (with_reducible refine Below.setCell ?_ ?_ _) | (refine Below.step ?_ (by assumption)) | go_size))⟩
            case measure => simp [intOf]; omega
          · obtain rfl : m = k := by omega
            by_cases hkJ : m < J
            · have hnm : nameB s = true := by
                have h1 := HPRE.out m hkJ
                rw [HOK.out, HSB.out] at h1
                simpa using h1
              rw [hnm] at HN2
              clear hbel hnm
              go_wp2_with (go_at_call 130; ((with_reducible refine (HN2.out _).mono ?_); rintro e w4 ⟨rfl, hb4⟩))
              go_roundw
              case rel => exact ⟨m + 1, hkJ, by go_num, by have := HB.out; (repeat' (first | (with_reducible exact Below.refl _ _) | (with_reducible assumption) | (with_reducible refine Below.new ?_ _) | (with_reducible refine Below.alloc ?_ ?_ _) | (with_reducible refine Below.drew ?_) | (with_reducible refine Below.drewN ?_ _) | (with_reducible refine Below.setCell ?_ ?_ _) | (refine Below.step ?_ (by assumption)) | go_size))⟩
              case measure => simp [intOf]; omega
            · obtain rfl : m = J := by omega
              have hnm : nameB s = false := by
                have h1 := HAT.out hkN
                rw [HOK.out, HSB.out] at h1
                simpa using h1
              rw [hnm] at HN2
              clear hbel hnm
              have HD : Hid (decide (m = N) = false) := by unfold Hid; simp; omega
              go_wp2_with (go_at_call 130; ((with_reducible refine (HN2.out _).mono ?_); rintro e w4 ⟨rfl, hb4⟩))
              go_ret
              have := HB.out
              exact ⟨ret_bool (by rw [HD.out]), hB2.trans (Below.mono (B := w2.heap.size) (by (repeat' (first | (with_reducible exact Below.refl _ _) | (with_reducible assumption) | (with_reducible refine Below.new ?_ _) | (with_reducible refine Below.alloc ?_ ?_ _) | (with_reducible refine Below.drew ?_) | (with_reducible refine Below.drewN ?_ _) | (with_reducible refine Below.setCell ?_ ?_ _) | (refine Below.step ?_ (by assumption)) | go_size))) hB2.size)⟩
      · have hJk : k = J := by
          by_cases h : k < J
          · have h1 := HPRE.out k h
            rw [HOK.out, hsb] at h1
            simp at h1
          · omega
        have hjk : j < k := by simp at hj; omega
        have HNO := hid (fun i (hi : i < j) => (show (s.toList == (ss[i]'(Nat.lt_trans (Nat.lt_trans hi hjk) hlen)).toList) = false from by have := hno i hi; simpa using this))
        have hyes2 : (s.toList == (ss[j]'(Nat.lt_trans hjk hlen)).toList) = true := by simpa using hyes
        clear hno hsb hyes
        have HY := hid hyes2
        have HD : Hid (decide (J = N) = false) := by unfold Hid; simp; omega
        clear hyes2 hJk
        go_wp2
        go_loopw [5] (fun i wr => ∃ m : Nat, m ≤ j ∧ i = .int .i64 m ∧ Below w2.heap.size w2 wr) (fun i _ => k - (intOf i).toNat)
        case atStart => exact ⟨0, Nat.zero_le _, rfl, HBEL.out⟩
        case round =>
          obtain ⟨m, hm, rfl, hbel⟩ := hrel
          have c1 := cell_step HCK.out hbel
          have HB := hid hbel
          have c2 := cell_step (HC.out m (by omega)) hbel
          have g1 : (0 : Int) ≤ (m : Int) := Int.natCast_nonneg _
          have g2 : (m : Int) < (N : Int) := by omega
          have g3 : (0 : Int) ≤ (k : Int) := Int.natCast_nonneg _
          have g4 : (k : Int) < (N : Int) := by omega
          have g5 : m < k := by omega
          by_cases hmk : m < j
          · have heq := HNO.out m hmk
            obtain ⟨t, ht⟩ : ∃ t, ss[m]'(by omega) = t := ⟨_, rfl⟩
            rw [ht] at c2 heq
            clear ht hbel
            go_wp2
            go_quiet (fail)
            go_wp2
            go_roundw
            case rel => exact ⟨m + 1, hmk, by go_num, by have := HB.out; (repeat' (first | (with_reducible exact Below.refl _ _) | (with_reducible assumption) | (with_reducible refine Below.new ?_ _) | (with_reducible refine Below.alloc ?_ ?_ _) | (with_reducible refine Below.drew ?_) | (with_reducible refine Below.drewN ?_ _) | (with_reducible refine Below.setCell ?_ ?_ _) | (refine Below.step ?_ (by assumption)) | go_size))⟩
            case measure => simp [intOf]; omega
          · obtain rfl : m = j := by omega
            have heq := HY.out
            obtain ⟨t, ht⟩ : ∃ t, ss[m]'(by omega) = t := ⟨_, rfl⟩
            rw [ht] at c2 heq
            clear ht hbel
            go_wp2
            go_quiet (fail)
            go_wp2
            go_ret
            have := HB.out
            exact ⟨ret_bool (by rw [HD.out]), hB2.trans (Below.mono (B := w2.heap.size) (by (repeat' (first | (with_reducible exact Below.refl _ _) | (with_reducible assumption) | (with_reducible refine Below.new ?_ _) | (with_reducible refine Below.alloc ?_ ?_ _) | (with_reducible refine Below.drew ?_) | (with_reducible refine Below.drewN ?_ _) | (with_reducible refine Below.setCell ?_ ?_ _) | (refine Below.step ?_ (by assumption)) | go_size))) hB2.size)⟩
    · obtain rfl : k = N := by omega
      obtain rfl : k = J := by omega
      go_wp2
      go_ret
      exact ⟨ret_bool (by simp), hB2.trans (hbel.mono hB2.size)⟩

set_option maxHeartbeats 1000000 in
theorem refRight_any (vd vm : Value) (ds ms : List ByteArray) (g : Int) (w : World) (hd : StrsSl w vd ds) (hm : StrsSl w vm ms) (td : Texts ds) (tm : Texts ms) :
    Calls Tryz.prog 69 #[.agg #[vd, vm, .int .i64 g]] w fun e w' => e = .returned (.bool (rightS ds ms g)) ∧ Below w.heap.size w w' := by
  by_cases h1 : 1 ≤ ds.length ∧ ds.length ≤ 6 ∧ ms.length ≤ 4 ∧ 1 ≤ g ∧ g ≤ 1000000000
  · obtain ⟨h1, h2, h3, h4, h5⟩ := h1
    have hr : rightS ds ms g = namesB (ds ++ ms) := by simp [rightS, h1, h2, h3, h4, h5]
    rw [hr]
    exact refRight_mid vd vm ds ms g w hd hm td tm h1 h2 h3 h4 h5
  · have hr : rightS ds ms g = false := by simp [rightS]; omega
    rw [hr]
    have hcase : ds.length < 1 ∨ (1 ≤ ds.length ∧ 6 < ds.length) ∨ ((1 ≤ ds.length ∧ ds.length ≤ 6) ∧ 4 < ms.length) ∨ ((1 ≤ ds.length ∧ ds.length ≤ 6) ∧ ms.length ≤ 4 ∧ g < 1) ∨ ((1 ≤ ds.length ∧ ds.length ≤ 6) ∧ ms.length ≤ 4 ∧ 1 ≤ g ∧ 1000000000 < g) := by omega
    obtain ⟨td, _⟩ := td
    obtain ⟨tm, _⟩ := tm
    obtain ⟨ad, cd, rfl, _, _, _⟩ := SlAt.shape hd
    obtain ⟨am, cm, rfl, _, _, _⟩ := SlAt.shape hm
    clear hd hm hr h1
    generalize ds.length = nd at *
    generalize ms.length = nm at *
    rcases hcase with h | ⟨h1, h⟩ | ⟨⟨h1, h2⟩, h⟩ | ⟨⟨h1, h2⟩, h3, h⟩ | ⟨⟨h1, h2⟩, h3, h4, h⟩
    all_goals
      go_enter Tryz.func69, Tryz.ntmps69
      go_wp2
      go_ret
      exact ⟨rfl, by (repeat' (first | (with_reducible exact Below.refl _ _) | (with_reducible assumption) | (with_reducible refine Below.new ?_ _) | (with_reducible refine Below.alloc ?_ ?_ _) | (with_reducible refine Below.drew ?_) | (with_reducible refine Below.drewN ?_ _) | (with_reducible refine Below.setCell ?_ ?_ _) | (refine Below.step ?_ (by assumption)) | go_size))⟩
end Go.Proofs.YtejleplhmkmegaaGreatDoor
/- Schemas: are all values right? The program's ContainsFunc over them. -/
namespace Go.Proofs.YtejleplhmkmegaaGreatDoor
set_option linter.unusedVariables false
set_option linter.unusedSimpArgs false
set_option maxRecDepth 100000
open Go.ChangeShapes Go.WideShapes Go.ChangeAt Go.RowKit

def okV (v : ValD) : Bool := isValB v.s v.nl
/-- The first value that is not right, or none. -/
theorem firstV (l : List ValD) : (l.all okV = true ∧ ∀ i (hi : i < l.length), okV l[i] = true) ∨ (l.all okV = false ∧ ∃ j, ∃ hj : j < l.length, okV l[j] = false ∧ ∀ i (hi : i < j), okV (l[i]'(Nat.lt_trans hi hj)) = true) := by
  induction l with
  | nil => exact .inl ⟨rfl, fun i hi => absurd hi (Nat.not_lt_zero i)⟩
  | cons x xs ih =>
    by_cases hx : okV x = true
    · rcases ih with ⟨h1, h2⟩ | ⟨h1, j, h2, h3, h4⟩
      · refine .inl ⟨by simp [hx, h1], fun i hi => ?_⟩
        cases i with
        | zero => simpa using hx
        | succ i => simpa using h2 i (by simpa using hi)
      · refine .inr ⟨by simp [hx, h1], j + 1, by simpa using h2, by simpa using h3, fun i hi => ?_⟩
        cases i with
        | zero => simpa using hx
        | succ i => simpa using h4 i (by omega)
    · exact .inr ⟨by simp [hx], 0, by simp, by simpa using hx, fun i hi => absurd hi (Nat.not_lt_zero i)⟩
def Vals (l : List ValD) : Prop := l.length ≤ 1000000 ∧ ∀ v ∈ l, v.s.size ≤ 9223372036854775807

end Go.Proofs.YtejleplhmkmegaaGreatDoor
