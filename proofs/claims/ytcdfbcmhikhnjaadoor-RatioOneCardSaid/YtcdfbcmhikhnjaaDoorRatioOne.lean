/- RatioOne holds: the order of floating numbers is one, for any three by their bits. The three listed tables hold what the program's text lays in them (the card ties them). -/
import Derived.Test.YtcdfbcmhikhnjaaDoorRtX
import Derived.Test.YtcdfbcmhikhnjaaDoorLawF
import Derived.Test.YtcdfbcmhikhnjaaDoorCards
import Derived.Test.YtcdfbcmhikhnjaaDoorTie
import Derived.SevenTiedAt
namespace Go.Proofs.YtcdfbcmhikhnjaaDoor
set_option linter.unusedVariables false
set_option linter.unusedSimpArgs false
open Go.ChangeShapes Go.WideShapes Go.ChangeAt Go.RowKit Go.Joins Go.Fl
attribute [local go_sem] fbits_run frombits_lit Int.toNat_natCast ord_lt ord_eq ord_gt ord_ne

theorem lt_key {x y : Nat} (h : ltB x y = true) : keyI x < keyI y := by
  unfold ltB at h
  simp only [Bool.and_eq_true, Bool.not_eq_true', decide_eq_true_eq] at h
  obtain ⟨⟨h1, h2⟩, h3⟩ := h
  unfold keyI
  rw [h1, h2]
  unfold skey at h3
  simp only [Bool.false_eq_true, if_false]
  cases hs : sgn x <;> cases ht : sgn y <;> rw [hs, ht] at h3 <;> simp only [Bool.false_eq_true, if_false, if_true] at h3 ⊢ <;> omega
theorem sgn_cases (a b : Int) : (sgnI a b = -1 ∧ a < b) ∨ (sgnI a b = 0 ∧ a = b) ∨ (sgnI a b = 1 ∧ b < a) := by
  rcases Int.lt_trichotomy a b with h | h | h
  · exact .inl ⟨sgn_lt h, h⟩
  · exact .inr (.inl ⟨sgn_eq h, h⟩)
  · exact .inr (.inr ⟨sgn_gt h, h⟩)
set_option maxRecDepth 100000 in
set_option maxHeartbeats 8000000 in
theorem RatioOne_core (x y z : Nat) (hx : x < 2 ^ 64) (hy : y < 2 ^ 64) (hz : z < 2 ^ 64) (w : World) (hT : Tabs w) :
    Calls Tryd.prog 3 #[.int .u64 (x : Int), .int .u64 (y : Int), .int .u64 (z : Int)] w fun e w' => e = .returned (.bool true) ∧ Below w.heap.size w w' := by
  have HSH := hid (fun W (h : Tabs W) => shown_any W h)
  have C1 := hid (fun W => compare_any x y hx hy W); have C2 := hid (fun W => compare_any y z hy hz W)
  have C3 := hid (fun W => compare_any x z hx hz W); have C4 := hid (fun W => compare_any y x hy hx W)
  have S1 := hid (fun W => same_any x x hx hx W); have S2 := hid (fun W => same_any x y hx hy W)
  rw [show decide (keyI x = keyI x) = true by simp] at S1
  have hL := ord_lt x y
  have hlt := @lt_key x y
  generalize ltB x y = l at *
  generalize keyI x = a at *; generalize keyI y = b at *; generalize keyI z = c at *
  have hdc : (decide (a = b) = true ∧ a = b) ∨ (decide (a = b) = false ∧ a ≠ b) := by by_cases h : a = b <;> simp [h]
  have h1c := sgn_cases a b; have h2c := sgn_cases b c; have h3c := sgn_cases a c; have h4c := sgn_cases b a
  generalize decide (a = b) = d at *
  generalize sgnI a b = p at *; generalize sgnI b c = q at *; generalize sgnI a c = r at *; generalize sgnI b a = s at *
  have hTT : ∀ W, Below w.heap.size w W → Tabs W := fun W h => hT.below h (Nat.le_refl _)
  replace hTT := hid hTT
  have hlc : (l = true ∧ a < b) ∨ l = false := by cases l <;> simp_all
  clear hx hy hz hT hlt
  rcases hlc with ⟨rfl, h0⟩ | rfl <;> rcases hdc with ⟨rfl, h5⟩ | ⟨rfl, h5⟩ <;> rcases h1c with ⟨rfl, h1⟩ | ⟨rfl, h1⟩ | ⟨rfl, h1⟩ <;> (try (exfalso; omega)) <;> rcases h2c with ⟨rfl, h2⟩ | ⟨rfl, h2⟩ | ⟨rfl, h2⟩ <;> rcases h3c with ⟨rfl, h3⟩ | ⟨rfl, h3⟩ | ⟨rfl, h3⟩ <;> (try (exfalso; omega)) <;> rcases h4c with ⟨rfl, h4⟩ | ⟨rfl, h4⟩ | ⟨rfl, h4⟩ <;> (try (exfalso; omega))
  all_goals
    clear h1 h2 h3 h4 h5
    try clear h0
    go_enter Tryd.func3, Tryd.ntmps3
    go_wp2_with (first
      | (go_at_call 10; go_loud ((with_reducible refine (HSH.out _ (hTT.out _ (by (repeat' (first | (with_reducible exact Below.refl _ _) | (with_reducible assumption) | (with_reducible refine Below.new ?_ _) | (with_reducible refine Below.alloc ?_ ?_ _) | (with_reducible refine Below.drew ?_) | (with_reducible refine Below.drewN ?_ _) | (with_reducible refine Below.setCell ?_ ?_ _) | (refine Below.step ?_ (by assumption)) | go_size))))).mono ?_); rintro e w1 ⟨rfl, hb1⟩))
      | (go_at_call 12; first
        | ((with_reducible refine (C1.out _).mono ?_); rintro e w2 ⟨rfl, hb2⟩)
        | ((with_reducible refine (C2.out _).mono ?_); rintro e w3 ⟨rfl, hb3⟩)
        | ((with_reducible refine (C3.out _).mono ?_); rintro e w4 ⟨rfl, hb4⟩)
        | ((with_reducible refine (C4.out _).mono ?_); rintro e w5 ⟨rfl, hb5⟩))
      | (go_at_call 13; first
        | ((with_reducible refine (S1.out _).mono ?_); rintro e w6 ⟨rfl, hb6⟩)
        | ((with_reducible refine (S2.out _).mono ?_); rintro e w7 ⟨rfl, hb7⟩)))
    go_ret
    exact ⟨rfl, by (repeat' (first | (with_reducible exact Below.refl _ _) | (with_reducible assumption) | (with_reducible refine Below.new ?_ _) | (with_reducible refine Below.alloc ?_ ?_ _) | (with_reducible refine Below.drew ?_) | (with_reducible refine Below.drewN ?_ _) | (with_reducible refine Below.setCell ?_ ?_ _) | (refine Below.step ?_ (by assumption)) | go_size))⟩
theorem nat_of_u64 {n : Int} (h : U64 n) : ∃ x : Nat, n = (x : Int) ∧ x < 2 ^ 64 := by
  unfold U64 at h
  exact ⟨n.toNat, by omega, by omega⟩
theorem RatioOne_walk (a : Int) (ha : U64 a) (b : Int) (hb : U64 b) (c : Int) (hc : U64 c) (w : World) (hT : Tabs w) :
    Calls Tryd.prog 3 #[.int .u64 a, .int .u64 b, .int .u64 c] w fun e w' => e = .returned (.bool true) ∧ Below w.heap.size w w' := by
  obtain ⟨x, rfl, hx⟩ := nat_of_u64 ha
  obtain ⟨y, rfl, hy⟩ := nat_of_u64 hb
  obtain ⟨z, rfl, hz⟩ := nat_of_u64 hc
  exact RatioOne_core x y z hx hy hz w hT
set_option maxRecDepth 100000 in
theorem RatioOne_lifted (os : Os) (started : os.Started) (H : Type) (enc : TypeId × Value → H) :
    ReturnsInHanded {} Tryd.checked os 3 .any (fun w args => (Rows.ratioOneSpec.pre enc Tryd.prog Tryd.f3 Rows.ratioOneRow.domain false w args ∧ laidMetH Tryd.prog laidL w) ∧ sizedMet enc Tryd.prog Tryd.f3 (OpenSpec.ofChange Rows.ratioOneSpec) false w args) (Rows.ratioOneSpec.post enc Tryd.prog Tryd.f3 false true false false) := by
  refine law_lift started (by kernel_rfl) Tryd.func3
    (ChangeSpec.witness_shaped (enc := enc) (C := Tryd.checked) (os := os) (X := fun w _ => laidMetH Tryd.prog laidL w) false (World.doorLaid Tryd.prog 400 os) #[.int .u64 0, .int .u64 0, .int .u64 0] 8 rfl (World.shaped_of_RefB (by kernel_rfl) (by kernel_rfl)) (by kernel_rfl) (by kernel_rfl) (by kernel_rfl) (door_met os _)) rfl rfl (by kernel_rfl) ?_ ?_
  · intro ds hl
    match ds, hl with
    | [_, _, _], _ => exact ⟨rfl, rfl, rfl⟩
  · intro W base args ds p hS hval hA hsz
    rw [Tryd.params3] at hA hval hsz
    obtain ⟨v0, vs0, d0, ds0, p0, q0, hargs, rfl, rfl, h0, r0⟩ := trodAll_cons hA
    obtain ⟨v1, vs1, d1, ds1, p1, q1, rfl, rfl, rfl, h1, r1⟩ := trodAll_cons r0
    obtain ⟨v2, vs2, d2, ds2, p2, q2, rfl, rfl, rfl, h2, r2⟩ := trodAll_cons r1
    obtain ⟨rfl, rfl, rfl⟩ := trodAll_nil r2
    obtain rfl : args = #[v0, v1, v2] := by cases args; simp_all
    obtain ⟨a0, rfl, b0⟩ := open_u64 Tryd.underlying22 (hval 0 22 v0 rfl rfl) h0
    obtain ⟨a1, rfl, b1⟩ := open_u64 Tryd.underlying22 (hval 1 22 v1 rfl rfl) h1
    obtain ⟨a2, rfl, b2⟩ := open_u64 Tryd.underlying22 (hval 2 22 v2 rfl rfl) h2
    exact RatioOne_walk a0 b0 a1 b1 a2 b2 W hS

theorem RatioOne_over : Rows.ratioOneRow.holds Tryd.pinned (OpenSpec.ofChange Rows.ratioOneSpec) :=
  OpenClaim.holds_of_wide 3 Tryd.f3 rfl rfl rfl rfl rfl rfl rfl ⟨rfl, rfl, rfl, rfl, rfl⟩ rfl rfl rfl rfl rfl (by kernel_rfl) Tryd.func3 (by kernel_rfl)
    (of_decide_eq_true (by kernel_rfl)) (by unfold Func.isWrapper; first | (rw [if_pos (by decide +kernel)]; kernel_rfl) | (rw [if_neg (by decide +kernel)]; exact ⟨rfl, rfl⟩))
    (fun os started H enc _ => RatioOne_lifted os started H enc)

/-- The statement: the tied card. -/
theorem RatioOne_proved : Rows.RatioOneCardSaid :=
  Claim7.holds_tied_plain_at .later [] [.data, .data, .data] true (true, "3fd1db1805379c94ca0f033bef2549d43d0cb053ccef5510583f520674463b5b") false
    RatioOne_over (fun _ h => by cases h) (by kernel_rfl) (fun _ h => by cases h) ratioOne_row_tie rfl ⟨rfl, rfl⟩ (by kernel_rfl) rfl
    (fun f fn hf hfn => by
      obtain rfl : f = 3 := Option.some.inj ((show Tryd.prog.funcNamed "tesserae/tesseraelaw09.RatioOne" = some 3 by kernel_rfl).symm.trans hf) |>.symm
      obtain rfl : fn = Tryd.f3 := (Option.some.inj (Tryd.func3.symm.trans hfn)).symm
      exact ⟨by kernel_rfl, fun j t ht => by
        rw [Tryd.params3] at ht
        have hm : t ∈ [22, 22, 22] := by simpa using Array.mem_of_getElem? ht
        have hall : ([22, 22, 22].all fun u => !Tryd.prog.wantsStandIn u) = true := by kernel_rfl
        exact (show Tryd.prog.wantsStandIn t = false by simpa using List.all_eq_true.1 hall t hm)⟩)
    (by kernel_rfl)
end Go.Proofs.YtcdfbcmhikhnjaaDoor
