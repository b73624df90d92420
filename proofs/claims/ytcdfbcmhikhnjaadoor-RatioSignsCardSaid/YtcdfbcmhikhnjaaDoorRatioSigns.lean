/- RatioSigns holds: the ratio of what is turned is turned; that of no count is infinite, for every wide number and count. The three listed tables hold what the program's text lays in them (the card ties them). -/
import Derived.Test.YtcdfbcmhikhnjaaDoorRtX
import Derived.Test.YtcdfbcmhikhnjaaDoorLawF
import Derived.Test.YtcdfbcmhikhnjaaDoorCards
import Derived.Test.YtcdfbcmhikhnjaaDoorTie
import Derived.SevenTiedAt
namespace Go.Proofs.YtcdfbcmhikhnjaaDoor
set_option linter.unusedVariables false
set_option linter.unusedSimpArgs false
open Go.ChangeShapes Go.WideShapes Go.ChangeAt Go.RowKit Go.Joins Go.Fl
attribute [local go_sem] fbits_run frombits_lit Int.toNat_natCast ord_lt ord_eq ord_gt ord_ne unary_neg_float

theorem neg_word (s : Bool) {r : Nat} (h : r < 2 ^ 63) : Op.negFloat .f64 (Ieee.double.word s r) = Ieee.double.word (!s) r := by
  have h1 := neg_float h
  cases s
  · rw [word_false]; exact h1
  · rw [← h1]
    show r ^^^ 2 ^ 63 ^^^ 2 ^ 63 = r
    rw [Nat.xor_assoc, Nat.xor_self, Nat.xor_zero]
theorem signs {a n : Int} (ha : I128 a) (h0 : a ≠ 0) (h1 : 0 ≤ n) (h2 : n ≤ 1000000) :
    ∃ r, ofF a n = Ieee.double.word (decide (a < 0)) r ∧ ofF (-a) n = Ieee.double.word (!decide (a < 0)) r ∧ 0 < r ∧ r ≤ 2047 * 2 ^ 52 ∧ (r = 2047 * 2 ^ 52 ↔ n = 0) := by
  have hd : decide (-a < 0) = !decide (a < 0) := by
    by_cases h : a < 0
    · simp [h]; omega
    · simp [h]; omega
  by_cases hn : n = 0
  · subst hn
    refine ⟨2047 * 2 ^ 52, ?_, ?_, by decide, by decide, by simp⟩
    · unfold ofF; rw [of_good (by decide) (by decide), if_neg (by simp), if_pos rfl, if_neg h0]
    · unfold ofF; rw [of_good (by decide) (by decide), if_neg (by simp), if_pos rfl, if_neg (by omega), hd]
  · have hl := ofR_lt (A := a.natAbs) (n := n.toNat) (by omega) (by omega) (by omega) (by omega)
    refine ⟨ofR a.natAbs n.toNat, ofF_main h0 (by omega) (by omega), ?_, hl.1, by omega, by constructor <;> intro h <;> omega⟩
    rw [ofF_main (by omega) (by omega) (by omega), hd, Int.natAbs_neg]
set_option maxRecDepth 100000 in
set_option maxHeartbeats 4000000 in
theorem RatioSigns_core (a n : Int) (ha : I128 a) (hn : I64 n) (w : World) (hT : Tabs w) :
    Calls Tryd.prog 4 #[(Value.agg #[.int .i64 (hiW (a)), .int .u64 (loW (a))]), .int .i64 n] w fun e w' => e = .returned (.bool true) ∧ Below w.heap.size w w' := by
  have HSH := hid (fun W (h : Tabs W) => shown_any W h)
  have hTT : ∀ W, Below w.heap.size w W → Tabs W := fun W h => hT.below h (Nat.le_refl _)
  replace hTT := hid hTT
  have hw : a = hiW a * 18446744073709551616 + loW a := by unfold hiW loW; omega
  by_cases hskip : a = 0 ∨ n < 0 ∨ 1000000 < n ∨ a = -170141183460469231731687303715884105728
  · have e1 : (((hiW a == 0 && loW a == 0) = true) ∨ n < 0 ∨ 1000000 < n ∨ (hiW a == -9223372036854775808 && loW a == 0) = true) := by
      rcases hskip with h | h | h | h
      · subst h; exact .inl (by decide)
      · exact .inr (.inl h)
      · exact .inr (.inr (.inl h))
      · subst h; exact .inr (.inr (.inr (by decide)))
    have hsplit : (hiW a == 0 && loW a == 0) = true ∨ ((hiW a == 0 && loW a == 0) = false ∧ n < 0) ∨ ((hiW a == 0 && loW a == 0) = false ∧ ¬ n < 0 ∧ 1000000 < n) ∨ ((hiW a == 0 && loW a == 0) = false ∧ ¬ n < 0 ∧ ¬ 1000000 < n ∧ (hiW a == -9223372036854775808 && loW a == 0) = true) := by
      cases h : (hiW a == 0 && loW a == 0)
      · rw [h] at e1
        rcases e1 with e1 | e1 | e1 | e1
        · cases e1
        · exact .inr (.inl ⟨rfl, e1⟩)
        · exact .inr (.inr (.inl ⟨rfl, by omega, e1⟩))
        · by_cases h1 : n < 0
          · exact .inr (.inl ⟨rfl, h1⟩)
          · by_cases h2 : 1000000 < n
            · exact .inr (.inr (.inl ⟨rfl, h1, h2⟩))
            · exact .inr (.inr (.inr ⟨rfl, h1, h2, e1⟩))
      · exact .inl rfl
    clear e1 hskip hw ha hT
    generalize hiW a = H at *; generalize loW a = L at *
    have hs2 : (H = 0 ∧ L = 0) ∨ ((H == 0 && L == 0) = false ∧ n < 0) ∨ ((H == 0 && L == 0) = false ∧ ¬ n < 0 ∧ 1000000 < n) ∨ (¬ n < 0 ∧ ¬ 1000000 < n ∧ H = -9223372036854775808 ∧ L = 0) := by
      rcases hsplit with h1 | h1 | h1 | ⟨h1, h2, h3, h4⟩
      · exact .inl (by simpa using h1)
      · exact .inr (.inl h1)
      · exact .inr (.inr (.inl h1))
      · exact .inr (.inr (.inr ⟨h2, h3, by simpa using h4⟩))
    clear hsplit
    rcases hs2 with ⟨rfl, rfl⟩ | ⟨h1, h2⟩ | ⟨h1, h2, h3⟩ | ⟨h2, h3, rfl, rfl⟩
    all_goals
      go_enter Tryd.func4, Tryd.ntmps4
      go_wp2_with (go_at_call 10; go_loud ((with_reducible refine (HSH.out _ (hTT.out _ (by (repeat' (first | (with_reducible exact Below.refl _ _) | (with_reducible assumption) | (with_reducible refine Below.new ?_ _) | (with_reducible refine Below.alloc ?_ ?_ _) | (with_reducible refine Below.drew ?_) | (with_reducible refine Below.drewN ?_ _) | (with_reducible refine Below.setCell ?_ ?_ _) | (refine Below.step ?_ (by assumption)) | go_size))))).mono ?_); rintro e w1 ⟨rfl, hb1⟩; obtain ⟨hc1, hf1, hk1, hz1⟩ := bcell3 hb1; (try simp only [World.size_alloc, World.size_drew] at hz1); have : w.heap.size < w1.heap.size := (by omega)))
      all_goals
        go_ret
        exact ⟨rfl, by (repeat' (first | (with_reducible exact Below.refl _ _) | (with_reducible assumption) | (with_reducible refine Below.new ?_ _) | (with_reducible refine Below.alloc ?_ ?_ _) | (with_reducible refine Below.drew ?_) | (with_reducible refine Below.drewN ?_ _) | (with_reducible refine Below.setCell ?_ ?_ _) | (refine Below.step ?_ (by assumption)) | go_size))⟩
  · obtain ⟨r, e1, e2, r1, r2, r3⟩ := signs ha (show a ≠ 0 by omega) (show 0 ≤ n by omega) (show n ≤ 1000000 by omega)
    have hna : I128 (-a) := ⟨by omega, by omega⟩
    have e3 : ofE n = 0 := by unfold ofE; rw [of_good (by omega) (by omega)]; rfl
    have P1 := hid (fun W => ratio_of a n ha hn W); have P2 := hid (fun W => ratio_of (-a) n hna hn W); have P3 := hid (fun W => rNeg_any a W)
    rw [e3] at P1 P2
    rw [e1] at P1; rw [e2] at P2
    obtain ⟨m1, m2, m3⟩ := word_mod (decide (a < 0)) (show r < 2 ^ 63 by omega)
    obtain ⟨m4, m5⟩ := word_nan (decide (a < 0)) r2
    have HI := hid (fun W => isInf_any _ m3 W)
    have hinf : isInfB (Ieee.double.word (decide (a < 0)) r) = decide (n = 0) := by
      unfold isInfB; rw [m1]; simp [r3]
    rw [hinf] at HI
    have f1 := ord_eq (Ieee.double.word (decide (a < 0)) r) (Op.negFloat .f64 (Ieee.double.word (!decide (a < 0)) r))
    rw [neg_word _ (show r < 2 ^ 63 by omega), Bool.not_not, eqB_self, m4] at f1
    have f2 := ord_ne (Ieee.double.word (decide (a < 0)) r) 0
    have f2' : eqB (Ieee.double.word (decide (a < 0)) r) 0 = false := by
      unfold eqB
      rw [skey_eq, m1, m2, skey_pos (by decide)]
      unfold sval
      cases decide (a < 0) <;> simp <;> intros <;> omega
    rw [f2'] at f2
    have f3 := ord_lt (Ieee.double.word (decide (a < 0)) r) 0
    rw [lt_zero m4 (by rw [m1]; exact r1), m2] at f3
    have hneg : decide (hiW a < 0) = decide (a < 0) := by
      have := loW_is a
      rw [Bool.eq_iff_iff]; simp; omega
    have hEq : (hiW a == 0 && loW a == 0) = false := by
      have hne : ¬ (hiW a = 0 ∧ loW a = 0) := fun h => hskip (.inl (by rw [hw, h.1, h.2]; rfl))
      simpa using hne
    have hEq2 : (hiW a == -9223372036854775808 && loW a == 0) = false := by
      have hne : ¬ (hiW a = -9223372036854775808 ∧ loW a = 0) := fun h => hskip (.inr (.inr (.inr (by rw [hw, h.1, h.2]; rfl))))
      simpa using hne
    have hdn : (decide (n = 0) = true ∧ n = 0) ∨ (decide (n = 0) = false ∧ (n == 0) = false) := by by_cases h : n = 0 <;> simp [h]
    have hn1 : ¬ n < 0 := by omega
    have hn2 : n ≤ 1000000 := by omega
    have hFN : Op.negFloat .f64 (Ieee.double.word (!decide (a < 0)) r) = Ieee.double.word (decide (a < 0)) r := by rw [neg_word _ (show r < 2 ^ 63 by omega), Bool.not_not]
    obtain ⟨v, hv⟩ : ∃ v, (Value.agg #[.int .i64 (hiW ((-a))), .int .u64 (loW ((-a)))]) = v := ⟨_, rfl⟩
    rw [hv] at P2 P3
    clear hskip hw ha hT e1 e2 r1 r2 r3 hna e3 m1 m2 m3 m4 m5 hinf f2' hv
    generalize Ieee.double.word (!decide (a < 0)) r = Y at *
    generalize Ieee.double.word (decide (a < 0)) r = X at *
    have hsc : (decide (a < 0) = true ∧ hiW a < 0) ∨ (decide (a < 0) = false ∧ decide (hiW a < 0) = false) := by
      by_cases h : hiW a < 0
      · exact .inl ⟨by rw [← hneg]; simp [h], h⟩
      · exact .inr ⟨by rw [← hneg]; exact decide_eq_false h, decide_eq_false h⟩
    generalize decide (a < 0) = s at *
    clear hneg
    generalize hiW a = H at *; generalize loW a = L at *
    generalize decide (n = 0) = d at *
    have hHL : (H = 0 ∧ (L == 0) = false) ∨ (H = -9223372036854775808 ∧ (L == 0) = false) ∨ ((H == 0) = false ∧ (H == -9223372036854775808) = false) := by
      by_cases g1 : H = 0
      · subst g1; exact .inl ⟨rfl, by simpa using hEq⟩
      · by_cases g2 : H = -9223372036854775808
        · subst g2; exact .inr (.inl ⟨rfl, by simpa using hEq2⟩)
        · exact .inr (.inr ⟨by simpa using g1, by simpa using g2⟩)
    clear hEq hEq2
    rw [Bool.not_false] at f1 f2
    rcases hsc with ⟨rfl, hs⟩ | ⟨rfl, hs⟩ <;> rcases hdn with ⟨rfl, hd⟩ | ⟨rfl, hd⟩ <;> rcases hHL with ⟨rfl, g1⟩ | ⟨rfl, g1⟩ | ⟨g1, g2⟩ <;> (try (exfalso; revert hs; decide))
    all_goals
      first | subst hd | skip
      go_enter Tryd.func4, Tryd.ntmps4
      go_wp2_with (first
        | (go_at_call 10; go_loud ((with_reducible refine (HSH.out _ (hTT.out _ (by (repeat' (first | (with_reducible exact Below.refl _ _) | (with_reducible assumption) | (with_reducible refine Below.new ?_ _) | (with_reducible refine Below.alloc ?_ ?_ _) | (with_reducible refine Below.drew ?_) | (with_reducible refine Below.drewN ?_ _) | (with_reducible refine Below.setCell ?_ ?_ _) | (refine Below.step ?_ (by assumption)) | go_size))))).mono ?_); rintro e w1 ⟨rfl, hb1⟩; obtain ⟨hc1, hf1, hk1, hz1⟩ := bcell3 hb1; (try simp only [World.size_alloc, World.size_drew] at hz1); have : w.heap.size < w1.heap.size := (by omega)))
        | (go_at_call 14; first
          | ((with_reducible refine (P1.out _).mono ?_); rintro e w2 ⟨rfl, hb2⟩; obtain ⟨hc2, hf2, hk2, hz2⟩ := bcell3 hb2; (try simp only [World.size_alloc, World.size_drew] at hz2); have : w.heap.size < w2.heap.size := (by omega))
          | ((with_reducible refine (P2.out _).mono ?_); rintro e w3 ⟨rfl, hb3⟩; obtain ⟨hc3, hf3, hk3, hz3⟩ := bcell3 hb3; (try simp only [World.size_alloc, World.size_drew] at hz3); have : w.heap.size < w3.heap.size := (by omega)))
        | (go_at_call 15; go_loud ((with_reducible refine (P3.out _).mono ?_); rintro e w4 ⟨rfl, hb4⟩; obtain ⟨hc4, hf4, hk4, hz4⟩ := bcell3 hb4; (try simp only [World.size_alloc, World.size_drew] at hz4); have : w.heap.size < w4.heap.size := (by omega)))
        | (go_at_call 16; go_loud ((with_reducible refine (HI.out _).mono ?_); rintro e w5 ⟨rfl, rfl⟩)))
      all_goals
        go_ret
        exact ⟨rfl, by (repeat' (first | (with_reducible exact Below.refl _ _) | (with_reducible assumption) | (with_reducible refine Below.new ?_ _) | (with_reducible refine Below.alloc ?_ ?_ _) | (with_reducible refine Below.drew ?_) | (with_reducible refine Below.drewN ?_ _) | (with_reducible refine Below.setCell ?_ ?_ _) | (refine Below.step ?_ (by assumption)) | go_size))⟩
theorem RatioSigns_walk (a b : Int) (ha : I64 a) (hb : U64 b) (n : Int) (hn : I64 n) (w : World) (hT : Tabs w) :
    Calls Tryd.prog 4 #[.agg #[.int .i64 a, .int .u64 b], .int .i64 n] w fun e w' => e = .returned (.bool true) ∧ Below w.heap.size w w' := by
  rw [wv_words ha hb]
  exact RatioSigns_core _ n (i128_of ha hb) hn w hT
set_option maxRecDepth 100000 in
theorem RatioSigns_lifted (os : Os) (started : os.Started) (H : Type) (enc : TypeId × Value → H) :
    ReturnsInHanded {} Tryd.checked os 4 .any (fun w args => (Rows.ratioSignsSpec.pre enc Tryd.prog Tryd.f4 Rows.ratioSignsRow.domain false w args ∧ laidMetH Tryd.prog laidL w) ∧ sizedMet enc Tryd.prog Tryd.f4 (OpenSpec.ofChange Rows.ratioSignsSpec) false w args) (Rows.ratioSignsSpec.post enc Tryd.prog Tryd.f4 false true false false) := by
  refine law_lift started (by kernel_rfl) Tryd.func4
    (ChangeSpec.witness_shaped (enc := enc) (C := Tryd.checked) (os := os) (X := fun w _ => laidMetH Tryd.prog laidL w) false (World.doorLaid Tryd.prog 400 os) #[.agg #[.int .i64 0, .int .u64 0], .int .i64 0] 8 rfl (World.shaped_of_RefB (by kernel_rfl) (by kernel_rfl)) (by kernel_rfl) (by kernel_rfl) (by kernel_rfl) (door_met os _)) rfl rfl (by kernel_rfl) ?_ ?_
  · intro ds hl
    match ds, hl with
    | [_, _], _ => exact ⟨rfl, rfl, rfl⟩
  · intro W base args ds p hS hval hA hsz
    rw [Tryd.params4] at hA hval hsz
    obtain ⟨v0, vs0, d0, ds0, p0, q0, hargs, rfl, rfl, h0, r0⟩ := trodAll_cons hA
    obtain ⟨v1, vs1, d1, ds1, p1, q1, rfl, rfl, rfl, h1, r1⟩ := trodAll_cons r0
    obtain ⟨rfl, rfl, rfl⟩ := trodAll_nil r1
    obtain rfl : args = #[v0, v1] := by cases args; simp_all
    obtain ⟨a0, c0, rfl, b0, e0⟩ := open_wide (hval 0 30 v0 rfl rfl) h0
    obtain ⟨a1, rfl, b1⟩ := open_i64 Tryd.underlying3 (hval 1 3 v1 rfl rfl) h1
    exact RatioSigns_walk a0 c0 b0 e0 a1 b1 W hS

theorem RatioSigns_over : Rows.ratioSignsRow.holds Tryd.pinned (OpenSpec.ofChange Rows.ratioSignsSpec) :=
  OpenClaim.holds_of_wide 4 Tryd.f4 rfl rfl rfl rfl rfl rfl rfl ⟨rfl, rfl, rfl, rfl, rfl⟩ rfl rfl rfl rfl rfl (by kernel_rfl) Tryd.func4 (by kernel_rfl)
    (of_decide_eq_true (by kernel_rfl)) (by unfold Func.isWrapper; first | (rw [if_pos (by decide +kernel)]; kernel_rfl) | (rw [if_neg (by decide +kernel)]; exact ⟨rfl, rfl⟩))
    (fun os started H enc _ => RatioSigns_lifted os started H enc)

/-- The statement: the tied card. -/
theorem RatioSigns_proved : Rows.RatioSignsCardSaid :=
  Claim7.holds_tied_plain_at .later [] [.data, .data, .data] true (true, "3fd1db1805379c94ca0f033bef2549d43d0cb053ccef5510583f520674463b5b") false
    RatioSigns_over (fun _ h => by cases h) (by kernel_rfl) (fun _ h => by cases h) ratioSigns_row_tie rfl ⟨rfl, rfl⟩ (by kernel_rfl) rfl
    (fun f fn hf hfn => by
      obtain rfl : f = 4 := Option.some.inj ((show Tryd.prog.funcNamed "tesserae/tesseraelaw09.RatioSigns" = some 4 by kernel_rfl).symm.trans hf) |>.symm
      obtain rfl : fn = Tryd.f4 := (Option.some.inj (Tryd.func4.symm.trans hfn)).symm
      exact ⟨by kernel_rfl, fun j t ht => by
        rw [Tryd.params4] at ht
        have hm : t ∈ [30, 3] := by simpa using Array.mem_of_getElem? ht
        have hall : ([30, 3].all fun u => !Tryd.prog.wantsStandIn u) = true := by kernel_rfl
        exact (show Tryd.prog.wantsStandIn t = false by simpa using List.all_eq_true.1 hall t hm)⟩)
    (by kernel_rfl)
end Go.Proofs.YtcdfbcmhikhnjaaDoor
