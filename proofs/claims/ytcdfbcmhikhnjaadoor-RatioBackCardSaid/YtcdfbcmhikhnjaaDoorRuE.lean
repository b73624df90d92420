/- Ratio: the program's 'Parse'. -/
import Derived.Test.YtcdfbcmhikhnjaaDoorRuD
namespace Go.Proofs.YtcdfbcmhikhnjaaDoor
set_option linter.unusedVariables false
set_option linter.unusedSimpArgs false
set_option maxRecDepth 100000
open Go.ChangeShapes Go.WideShapes Go.ChangeAt Go.RowKit Go.Fl
open Go.Lib (decDigits itoa)
attribute [local go_sem] ord_lt ord_eq ord_gt ord_ne unary_neg_float

/-- The reader at its place, all that was there as it was. -/
structure RS (w : World) (R : Nat) (l : List UInt8) (X : World) : Prop where
  rd : RdAt R l X
  bel : Below w.heap.size w X
theorem rs_take (w : World) {R : Nat} (hR : w.heap.size ≤ R) (l : List UInt8) (c : UInt8) (X : World) (h : RS w R l X) :
    Calls Tryd.prog 51 #[.pointer (some ⟨R, 0, none⟩), .string { data := #[c] }] X fun e X' => e = .returned (.bool (hdB c l)) ∧ RS w R (tlB c l) X' := by
  refine (take_any R l c X h.rd).mono ?_
  rintro e X' ⟨rfl, rfl⟩
  exact ⟨rfl, heap_set_same h.rd, h.bel.setCell hR _⟩
theorem rs_number (w : World) {R : Nat} (hR : w.heap.size ≤ R) (l : List UInt8) (hl : l.length ≤ 100) (X : World) (h : RS w R l X) :
    Calls Tryd.prog 52 #[.pointer (some ⟨R, 0, none⟩)] X fun e X' => e = .returned (.tuple #[.int .i64 (decV (numL l) : Nat), .bool (decide (0 < (numL l).length))]) ∧ RS w R (l.drop (numL l).length) X' := by
  refine (number_any R l hl X h.rd).mono ?_
  rintro e X' ⟨rfl, h1, h2⟩
  exact ⟨rfl, h1, h.bel.grown h2 h.bel.size (fun k e => by cases e; exact hR)⟩
theorem tl_len (c : UInt8) (l : List UInt8) : (tlB c l).length ≤ l.length := by
  show (if _ then _ else _ : List UInt8).length ≤ _
  split <;> simp
theorem numL_bound (l : List UInt8) : decV (numL l) < 10 ^ 18 := by
  have h1 := decV_bound (digL_all (l.take 18))
  have h2 : (numL l).length ≤ (l.take 18).length := digL_le _
  rw [List.length_take] at h2
  have h3 : (10 : Nat) ^ (numL l).length ≤ 10 ^ 18 := Nat.pow_le_pow_right (by decide) (by omega)
  exact Nat.lt_of_lt_of_le h1 h3
theorem list_of {l : List UInt8} {s : ByteArray} (h : ({ data := l.toArray } : ByteArray) = s) : s.toList = l := by
  subst h
  rw [ByteArray.toList_eq]
theorem l5_ne {l : List UInt8} {s : ByteArray} (h : ({ data := l.toArray } : ByteArray) = s) (hn : ¬ s.toList = []) : l ≠ [] := by
  rw [list_of h] at hn
  exact hn
theorem text_ne {x l : List UInt8} {s : ByteArray} (h : ({ data := l.toArray } : ByteArray) = s) (hn : (x == s.toList) = false) : x ≠ l := by
  rw [list_of h] at hn
  simpa using hn
theorem text_is {x l : List UInt8} {s : ByteArray} (h : ({ data := l.toArray } : ByteArray) = s) (hn : (x == s.toList) = true) : x = l := by
  rw [list_of h] at hn
  simpa using hn
/-- A word of 64 bits that is a number. -/
def FinW (z : Nat) : Prop := z < 2 ^ 64 ∧ isNan z = false
set_option maxHeartbeats 8000000 in
theorem parse_any (l : List UInt8) (hl : l.length ≤ 100) (w : World) (hT : Tabs w) :
    Calls Tryd.prog 24 #[strL l] w fun e w' => (∃ f c, e = .returned (.tuple #[.float .f64 f, .int .i64 c]) ∧ ParseIs l f c) ∧ Below w.heap.size w w' := by
  obtain ⟨s, hs⟩ : ∃ s : ByteArray, ({ data := l.toArray } : ByteArray) = s := ⟨_, rfl⟩
  have hsl : s.data.toList = l := by rw [← hs]
  have hss : s.size ≤ 100 := by rw [← hs]; exact hl
  have WO := hid (fun W => words_any W)
  have LK := hid (fun (B : Nat) (W : World) (h : W.ownsMap Tryd.prog 9 floatElem B 5 wordsD) => words_lookup h s hss)
  have hRle : w.heap.size ≤ w.heap.size := Nat.le_refl _
  obtain ⟨l1, hl1⟩ : ∃ l1, tlB 45 l = l1 := ⟨_, rfl⟩
  obtain ⟨l2, hl2⟩ : ∃ l2, l1.drop (numL l1).length = l2 := ⟨_, rfl⟩
  obtain ⟨l3, hl3⟩ : ∃ l3, tlB 112 l2 = l3 := ⟨_, rfl⟩
  obtain ⟨l4, hl4⟩ : ∃ l4, tlB 45 l3 = l4 := ⟨_, rfl⟩
  obtain ⟨l5, hl5⟩ : ∃ l5, l4.drop (numL l4).length = l5 := ⟨_, rfl⟩
  have g1 : l1.length ≤ 100 := by have := tl_len 45 l; rw [hl1] at this; omega
  have g2 : l2.length ≤ 100 := by rw [← hl2, List.length_drop]; omega
  have g3 : l3.length ≤ 100 := by have := tl_len 112 l2; rw [hl3] at this; omega
  have g4 : l4.length ≤ 100 := by have := tl_len 45 l3; rw [hl4] at this; omega
  have K1 := hid (fun X h => rs_take w hRle l 45 X h); have K2 := hid (fun X h => rs_number w hRle l1 g1 X h)
  have K3 := hid (fun X h => rs_take w hRle l2 112 X h); have K4 := hid (fun X h => rs_take w hRle l3 45 X h)
  have K5 := hid (fun X h => rs_number w hRle l4 g4 X h)
  rw [hl1] at K1; rw [hl2] at K2; rw [hl3] at K3; rw [hl4] at K4; rw [hl5] at K5
  obtain ⟨d0, hd0⟩ : ∃ d, hdB 45 l = d := ⟨_, rfl⟩
  obtain ⟨k1, hk1⟩ : ∃ d, decide (0 < (numL l1).length) = d := ⟨_, rfl⟩
  obtain ⟨d2, hd2⟩ : ∃ d, hdB 112 l2 = d := ⟨_, rfl⟩
  obtain ⟨d3, hd3⟩ : ∃ d, hdB 45 l3 = d := ⟨_, rfl⟩
  obtain ⟨k4, hk4⟩ : ∃ d, decide (0 < (numL l4).length) = d := ⟨_, rfl⟩
  obtain ⟨m, hm⟩ : ∃ m, decV (numL l1) = m := ⟨_, rfl⟩
  obtain ⟨n, hn⟩ : ∃ m, decV (numL l4) = m := ⟨_, rfl⟩
  have hmb : m < 10 ^ 18 := by rw [← hm]; exact numL_bound _
  have hnb : n < 10 ^ 18 := by rw [← hn]; exact numL_bound _
  rw [hd0] at K1; rw [hk1, hm] at K2; rw [hd2] at K3; rw [hd3] at K4; rw [hk4, hn] at K5
  have HFAIL : Hid ((∀ p ∈ wordsL, p.1 ≠ l) → k1 = false ∨ d2 = false ∨ k4 = false ∨ 2000 < (n : Int) ∨ l5 ≠ [] → ParseIs l 0 90) := fun hw hf => .inr ⟨rfl, rfl, fun b hb hbt => by
    obtain ⟨O, E, h1, h2, h3, _⟩ := parse_yes hb hbt hw
    obtain ⟨a1, a2, a3, a4, a5, a6, a7, a8⟩ := read_parts h1 h2 h3 hl1.symm hl2.symm hl3.symm hl4.symm hl5.symm
    rcases hf with hf | hf | hf | hf | hf
    · rw [← hk1] at hf; have := of_decide_eq_false hf; omega
    · rw [a4] at hd2; rw [← hd2] at hf; cases hf
    · rw [← hk4] at hf; have := of_decide_eq_false hf; omega
    · rw [hn] at a7; omega
    · exact hf a8⟩
  have HFIN : Hid ((∀ p ∈ wordsL, p.1 ≠ l) → ∀ (z : Nat) (e : Int), e = (if d3 then -(n : Int) else (n : Int)) → (m < 2 ^ 53 → ∀ t J I, Rep t J I → Same2 m (1074 + e) J I → z = t) → textB (if d0 then Op.negFloat .f64 z else z) ≠ l → ParseIs l 0 90) := fun hw z e he hz hne => .inr ⟨rfl, rfl, fun b hb hbt => by
    obtain ⟨O, E, h1, h2, h3, h4⟩ := parse_yes hb hbt hw
    obtain ⟨a1, a2, a3, a4, a5, a6, a7, a8⟩ := read_parts h1 h2 h3 hl1.symm hl2.symm hl3.symm hl4.symm hl5.symm
    rw [hm] at a3; rw [hn] at a7; rw [hd3] at a5; rw [hd0] at a1
    have hE : e = E := by
      rw [he, a5]
      by_cases hneg : E < 0
      · simp [hneg]; omega
      · simp [hneg]; omega
    subst hE
    subst a3
    have := h4 z (hz h1)
    rw [← a1] at this
    rw [this] at hne
    exact hne hbt⟩
  have hTT : ∀ W, Below w.heap.size w W → Tabs W := fun W h => hT.below h (Nat.le_refl _)
  replace hTT := hid hTT
  have TX := hid (fun z (hz : FinW z) W (h : Tabs W) => text_any z hz.1 W h)
  obtain ⟨F, hF⟩ : ∃ F, floatOfInt .f64 (m : Int) = F := ⟨_, rfl⟩
  obtain ⟨Pm, hPm⟩ : ∃ P : Prop, (m < 2 ^ 53) = P := ⟨_, rfl⟩
  have HL : ∀ e : Int, -3000 ≤ e ∧ e ≤ 3000 → ∀ W, Calls Tryd.prog 53 #[.float .f64 F, .int .i64 e] W fun E W' => (∃ z, E = .returned (.float .f64 z) ∧ FinW z ∧ FinW (Op.negFloat .f64 z) ∧ Hid (Pm → ∀ t J I, Rep t J I → Same2 m (1074 + e) J I → z = t)) ∧ W = W' := fun e he W => by
    obtain ⟨r, hr, H⟩ := ldexp_int (m := m) (by omega) e he
    rw [← hF, hr]
    refine (H W).mono ?_
    rintro E W' ⟨⟨z, rfl, z1, z2, z3⟩, rfl⟩
    exact ⟨⟨z, rfl, ⟨z1, z2⟩, neg_of_any z1 z2, by rw [← hPm]; exact z3⟩, rfl⟩
  rw [hPm] at HFIN
  obtain ⟨mi, hmi⟩ : ∃ mi : Int, (m : Int) = mi := ⟨_, rfl⟩
  obtain ⟨ni, hni⟩ : ∃ ni : Int, (n : Int) = ni := ⟨_, rfl⟩
  have b1 : 0 ≤ mi := by omega
  have b2 : mi < 1000000000000000000 := by omega
  have b3 : 0 ≤ ni := by omega
  have b4 : ni < 1000000000000000000 := by omega
  have L1 := hid (fun (h : ni ≤ 2000) W => HL ni (by omega) W)
  have L2 := hid (fun (h : ni ≤ 2000) W => HL (-ni) (by omega) W)
  rw [hmi] at K2 hF
  rw [hni] at K5 HFAIL HFIN
  have hFF : ∀ W : World, (convert 3 24 (.int .i64 mi)).run Tryd.prog W = .ok (.float .f64 F) W := fun W => by
    rw [run_convert_int_float W 3 24 .i64 .f64 mi (by rw [Tryd.underlying3]; rfl) Tryd.underlying24, hF]
  rw [show strL l = Value.string s by rw [← hs]]
  clear HL hF hPm hmi hni hd0 hk1 hd2 hd3 hk4 hm hn hmb hnb hl1 hl2 hl3 hl4 hl5 g1 g2 g3 g4 hT hsl hss
  have HS := hid hs
  obtain ⟨s5, hs5⟩ : ∃ s5 : ByteArray, ({ data := l5.toArray } : ByteArray) = s5 := ⟨_, rfl⟩
  have HS5 := hid hs5
  clear hs5
  clear hs hl
  go_enter Tryd.func24, Tryd.ntmps24
  go_wp2
  refine wp_scope_fwd ?_
  go_wp2_with (first
    | (go_at_call 50; go_loud (refine (WO.out _).mono ?_; rintro e w1 ⟨rfl, hown, hb1⟩; have hrs : RS w w.heap.size l w1 := ⟨(by unfold RdAt; rw [show strL l = Value.string s by rw [← HS.out]]; exact (hb1.block _ (by simp)).trans (heap_at rfl)), (by (repeat' (first | (with_reducible exact Below.refl _ _) | (with_reducible assumption) | (with_reducible refine Below.new ?_ _) | (with_reducible refine Below.alloc ?_ ?_ _) | (with_reducible refine Below.drew ?_) | (with_reducible refine Below.drewN ?_ _) | (with_reducible refine Below.setCell ?_ ?_ _) | (refine Below.step ?_ (by assumption)) | go_size)))⟩; simp only [World.size_alloc] at hown; obtain ⟨f, ok, hlk, hcase⟩ := LK.out _ _ hown; rcases hcase with ⟨rfl, hcase⟩ | ⟨rfl, hcase⟩))
    | (go_at_call 51; first
      | ((with_reducible refine (K1.out _ (by assumption)).mono ?_); rintro e x1 ⟨rfl, hr1⟩)
      | ((with_reducible refine (K3.out _ (by assumption)).mono ?_); rintro e x3 ⟨rfl, hr3⟩)
      | ((with_reducible refine (K4.out _ (by assumption)).mono ?_); rintro e x4 ⟨rfl, hr4⟩))
    | (go_at_call 52; first
      | ((with_reducible refine (K2.out _ (by assumption)).mono ?_); rintro e x2 ⟨rfl, hr2⟩)
      | ((with_reducible refine (K5.out _ (by assumption)).mono ?_); rintro e x5 ⟨rfl, hr5⟩; have hc5 : x5.cell? ⟨w.heap.size, 0, none⟩ = some (.string s5) := (by rw [← HS5.out]; exact cell_of_one hr5.rd)))
    | (go_at_call 53; first
      | ((with_reducible refine (L1.out (by omega) _).mono ?_); rintro e x6 ⟨⟨z, rfl, z1, z2, z5⟩, rfl⟩)
      | ((with_reducible refine (L2.out (by omega) _).mono ?_); rintro e x6 ⟨⟨z, rfl, z1, z2, z5⟩, rfl⟩))
    | (go_at_call 28; go_loud ((with_reducible refine (TX.out _ (by assumption) _ (hTT.out _ hr5.bel)).mono ?_); rintro e x7 ⟨rfl, hb7⟩)))
  all_goals
    try (refine wp_goto ?_; go_step; refine jumpFwd_goto rfl ?_; go_wp2)
    try (refine wp_label ?_; go_wp2)
    (first | rw [jumpFwd_ret] | rw [Exit.noGoto_ret] | skip); ((show bodyPost _ _ _ _ _ _); refine bodyPost_ret (by simp only [results, Tryd.results24]; go_simp; try rfl) rfl ?_)
  all_goals
    first
    | (obtain ⟨p, hp, hp1, rfl⟩ := hcase
       refine ⟨⟨_, _, rfl, ?_⟩, by have := hrs.bel; (repeat' (first | (with_reducible exact Below.refl _ _) | (with_reducible assumption) | (with_reducible refine Below.new ?_ _) | (with_reducible refine Below.alloc ?_ ?_ _) | (with_reducible refine Below.drew ?_) | (with_reducible refine Below.drewN ?_ _) | (with_reducible refine Below.setCell ?_ ?_ _) | (refine Below.step ?_ (by assumption)) | go_size))⟩
       have hpl : p.1 = l := by rw [hp1, ← HS.out]
       rw [← hpl]
       exact word_text hp)
    | (have hw : ∀ p ∈ wordsL, p.1 ≠ l := fun p hp => by have := hcase p hp; rw [← HS.out] at this; exact this
       first
       | (refine ⟨⟨_, _, rfl, HFAIL.out hw (.inl (Bool.eq_false_iff.2 ‹¬ k1 = true›))⟩, hr2.bel⟩)
       | (refine ⟨⟨_, _, rfl, HFAIL.out hw (.inr (.inl (by have := ‹(!d2) = true›; simpa using this)))⟩, hr3.bel⟩)
       | (refine ⟨⟨_, _, rfl, HFAIL.out hw (.inr (.inr (.inl (Bool.eq_false_iff.2 ‹¬ k4 = true›))))⟩, hr5.bel⟩)
       | (refine ⟨⟨_, _, rfl, HFAIL.out hw (.inr (.inr (.inr (.inl ‹2000 < ni›))))⟩, hr5.bel⟩)
       | (refine ⟨⟨_, _, rfl, HFAIL.out hw (.inr (.inr (.inr (.inr (l5_ne HS5.out ‹¬ s5.toList = []›)))))⟩, hr5.bel⟩)
       | (refine ⟨⟨_, _, rfl, HFIN.out hw z (-ni) (by rw [if_pos ‹d3 = true›]) z5.out (by rw [if_pos ‹d0 = true›]; exact text_ne HS.out ‹(textB (Op.negFloat .f64 z) == s.toList) = false›)⟩, by have := hr5.bel; (repeat' (first | (with_reducible exact Below.refl _ _) | (with_reducible assumption) | (with_reducible refine Below.new ?_ _) | (with_reducible refine Below.alloc ?_ ?_ _) | (with_reducible refine Below.drew ?_) | (with_reducible refine Below.drewN ?_ _) | (with_reducible refine Below.setCell ?_ ?_ _) | (refine Below.step ?_ (by assumption)) | go_size))⟩)
       | (refine ⟨⟨_, _, rfl, HFIN.out hw z (-ni) (by rw [if_pos ‹d3 = true›]) z5.out (by rw [if_neg (Bool.eq_false_iff.1 ‹d0 = false›)]; exact text_ne HS.out ‹(textB z == s.toList) = false›)⟩, by have := hr5.bel; (repeat' (first | (with_reducible exact Below.refl _ _) | (with_reducible assumption) | (with_reducible refine Below.new ?_ _) | (with_reducible refine Below.alloc ?_ ?_ _) | (with_reducible refine Below.drew ?_) | (with_reducible refine Below.drewN ?_ _) | (with_reducible refine Below.setCell ?_ ?_ _) | (refine Below.step ?_ (by assumption)) | go_size))⟩)
       | (refine ⟨⟨_, _, rfl, HFIN.out hw z ni (by rw [if_neg (Bool.eq_false_iff.1 ‹d3 = false›)]) z5.out (by rw [if_pos ‹d0 = true›]; exact text_ne HS.out ‹(textB (Op.negFloat .f64 z) == s.toList) = false›)⟩, by have := hr5.bel; (repeat' (first | (with_reducible exact Below.refl _ _) | (with_reducible assumption) | (with_reducible refine Below.new ?_ _) | (with_reducible refine Below.alloc ?_ ?_ _) | (with_reducible refine Below.drew ?_) | (with_reducible refine Below.drewN ?_ _) | (with_reducible refine Below.setCell ?_ ?_ _) | (refine Below.step ?_ (by assumption)) | go_size))⟩)
       | (refine ⟨⟨_, _, rfl, HFIN.out hw z ni (by rw [if_neg (Bool.eq_false_iff.1 ‹d3 = false›)]) z5.out (by rw [if_neg (Bool.eq_false_iff.1 ‹d0 = false›)]; exact text_ne HS.out ‹(textB z == s.toList) = false›)⟩, by have := hr5.bel; (repeat' (first | (with_reducible exact Below.refl _ _) | (with_reducible assumption) | (with_reducible refine Below.new ?_ _) | (with_reducible refine Below.alloc ?_ ?_ _) | (with_reducible refine Below.drew ?_) | (with_reducible refine Below.drewN ?_ _) | (with_reducible refine Below.setCell ?_ ?_ _) | (refine Below.step ?_ (by assumption)) | go_size))⟩)
       | (refine ⟨⟨_, _, rfl, .inl ⟨rfl, z2.1, text_is HS.out ‹(textB (Op.negFloat .f64 z) == s.toList) = true›, fun h => by rw [z2.2] at h; cases h⟩⟩, by have := hr5.bel; (repeat' (first | (with_reducible exact Below.refl _ _) | (with_reducible assumption) | (with_reducible refine Below.new ?_ _) | (with_reducible refine Below.alloc ?_ ?_ _) | (with_reducible refine Below.drew ?_) | (with_reducible refine Below.drewN ?_ _) | (with_reducible refine Below.setCell ?_ ?_ _) | (refine Below.step ?_ (by assumption)) | go_size))⟩)
       | (refine ⟨⟨_, _, rfl, .inl ⟨rfl, z1.1, text_is HS.out ‹(textB z == s.toList) = true›, fun h => by rw [z1.2] at h; cases h⟩⟩, by have := hr5.bel; (repeat' (first | (with_reducible exact Below.refl _ _) | (with_reducible assumption) | (with_reducible refine Below.new ?_ _) | (with_reducible refine Below.alloc ?_ ?_ _) | (with_reducible refine Below.drew ?_) | (with_reducible refine Below.drewN ?_ _) | (with_reducible refine Below.setCell ?_ ?_ _) | (refine Below.step ?_ (by assumption)) | go_size))⟩))
end Go.Proofs.YtcdfbcmhikhnjaaDoor
