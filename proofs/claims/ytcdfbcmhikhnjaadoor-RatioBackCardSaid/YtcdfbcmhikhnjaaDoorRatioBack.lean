/- RatioBack holds: texts and floating numbers are one to one, but that all that are no number have one, for any by its bits, and any text. The three listed tables hold what the program's text lays in them (the card ties them). -/
import Derived.Test.YtcdfbcmhikhnjaaDoorRuF
import Derived.Test.YtcdfbcmhikhnjaaDoorLawF
import Derived.Test.YtcdfbcmhikhnjaaDoorCards
import Derived.Test.YtcdfbcmhikhnjaaDoorTie
import Derived.SevenTiedAt
namespace Go.Proofs.YtcdfbcmhikhnjaaDoor
set_option linter.unusedVariables false
set_option linter.unusedSimpArgs false
open Go.ChangeShapes Go.WideShapes Go.ChangeAt Go.RowKit Go.Joins Go.Fl
attribute [local go_sem] fbits_run frombits_lit Int.toNat_natCast ord_lt ord_eq ord_gt ord_ne

set_option maxRecDepth 100000 in
set_option maxHeartbeats 8000000 in
theorem RatioBack_core (x : Nat) (hx : x < 2 ^ 64) (s : ByteArray) (hs : s.size ≤ 9223372036854775807) (w : World) (hT : Tabs w) :
    Calls Tryd.prog 9 #[.int .u64 (x : Int), .string s] w fun e w' => e = .returned (.bool true) ∧ Below w.heap.size w w' := by
  have HSH := hid (fun W (h : Tabs W) => shown_any W h)
  have TX := hid (fun W (h : Tabs W) => text_any x hx W h)
  have PX := hid (fun W (h : Tabs W) => parse_det (canon_is hx rfl) (text_len x) W h)
  have CT := hid (fun W => cut_take s hs W)
  obtain ⟨L, hL⟩ : ∃ L, s.data.toList.take 60 = L := ⟨_, rfl⟩
  have hLl : L.length ≤ 100 := by rw [← hL, List.length_take]; omega
  rw [hL] at CT
  obtain ⟨f, c, hp⟩ := parse_ex L
  have PS := hid (fun W (h : Tabs W) => parse_det hp hLl W h)
  have SX := hid (fun W => same_any x (canonB x) hx (canon_lt hx) W)
  rw [show decide (keyI x = keyI (canonB x)) = true by rw [canon_key]; simp] at SX
  have hN := ord_ne x x
  rw [eqB_self, Bool.not_not] at hN
  obtain ⟨q, hq⟩ : ∃ q : ByteArray, ({ data := (textB x).toArray } : ByteArray) = q := ⟨_, rfl⟩
  obtain ⟨r, hr⟩ : ∃ r : ByteArray, ({ data := L.toArray } : ByteArray) = r := ⟨_, rfl⟩
  have e1 : strL (textB x) = Value.string q := by rw [← hq]
  have e2 : strL L = Value.string r := by rw [← hr]
  rw [e1] at TX PX; rw [e2] at CT PS
  have hcan : isNan x = false → canonB x = x := fun h => by unfold canonB; rw [h]; rfl
  have hcase : (c = 0 ∧ Hid (∀ W, Tabs W → Calls Tryd.prog 28 #[.float .f64 f] W fun e w' => e = .returned (.string r) ∧ Below W.heap.size W w')) ∨ c = 90 := by
    rcases hp with ⟨h1, h2, h3, _⟩ | ⟨h1, _⟩
    · refine .inl ⟨h1, fun W h => ?_⟩
      have := text_any f h2 W h
      rw [h3, e2] at this
      exact this
    · exact .inr h1
  have hTT : ∀ W, Below w.heap.size w W → Tabs W := fun W h => hT.below h (Nat.le_refl _)
  replace hTT := hid hTT
  have hnc : (isNan x = true) ∨ (isNan x = false ∧ canonB x = x) := by
    cases h : isNan x
    · exact .inr ⟨rfl, hcan h⟩
    · exact .inl rfl
  clear hx hs hT hL hLl hp hq hr e1 e2 hcan
  generalize isNan x = nb at *
  generalize canonB x = y at *
  rcases hnc with rfl | ⟨rfl, rfl⟩ <;> rcases hcase with ⟨rfl, TF⟩ | rfl
  all_goals
    go_enter Tryd.func9, Tryd.ntmps9
    go_wp2_with (first
      | (go_at_call 10; go_loud ((with_reducible refine (HSH.out _ (hTT.out _ (by (repeat' (first | (with_reducible exact Below.refl _ _) | (with_reducible assumption) | (with_reducible refine Below.new ?_ _) | (with_reducible refine Below.alloc ?_ ?_ _) | (with_reducible refine Below.drew ?_) | (with_reducible refine Below.drewN ?_ _) | (with_reducible refine Below.setCell ?_ ?_ _) | (refine Below.step ?_ (by assumption)) | go_size))))).mono ?_); rintro e w1 ⟨rfl, hb1⟩))
      | (go_at_call 28; first
        | ((with_reducible refine (TX.out _ (hTT.out _ (by (repeat' (first | (with_reducible exact Below.refl _ _) | (with_reducible assumption) | (with_reducible refine Below.new ?_ _) | (with_reducible refine Below.alloc ?_ ?_ _) | (with_reducible refine Below.drew ?_) | (with_reducible refine Below.drewN ?_ _) | (with_reducible refine Below.setCell ?_ ?_ _) | (refine Below.step ?_ (by assumption)) | go_size))))).mono ?_); rintro e w2 ⟨rfl, hb2⟩)
        | ((with_reducible refine (TF.out _ (hTT.out _ (by (repeat' (first | (with_reducible exact Below.refl _ _) | (with_reducible assumption) | (with_reducible refine Below.new ?_ _) | (with_reducible refine Below.alloc ?_ ?_ _) | (with_reducible refine Below.drew ?_) | (with_reducible refine Below.drewN ?_ _) | (with_reducible refine Below.setCell ?_ ?_ _) | (refine Below.step ?_ (by assumption)) | go_size))))).mono ?_); rintro e w6 ⟨rfl, hb6⟩))
      | (go_at_call 24; first
        | ((with_reducible refine (PX.out _ (hTT.out _ (by (repeat' (first | (with_reducible exact Below.refl _ _) | (with_reducible assumption) | (with_reducible refine Below.new ?_ _) | (with_reducible refine Below.alloc ?_ ?_ _) | (with_reducible refine Below.drew ?_) | (with_reducible refine Below.drewN ?_ _) | (with_reducible refine Below.setCell ?_ ?_ _) | (refine Below.step ?_ (by assumption)) | go_size))))).mono ?_); rintro e w3 ⟨rfl, hb3⟩)
        | ((with_reducible refine (PS.out _ (hTT.out _ (by (repeat' (first | (with_reducible exact Below.refl _ _) | (with_reducible assumption) | (with_reducible refine Below.new ?_ _) | (with_reducible refine Below.alloc ?_ ?_ _) | (with_reducible refine Below.drew ?_) | (with_reducible refine Below.drewN ?_ _) | (with_reducible refine Below.setCell ?_ ?_ _) | (refine Below.step ?_ (by assumption)) | go_size))))).mono ?_); rintro e w4 ⟨rfl, hb4⟩))
      | (go_at_call 25; go_loud ((with_reducible refine (CT.out _).mono ?_); rintro e w7 ⟨rfl, rfl⟩))
      | (go_at_call 13; go_loud ((with_reducible refine (SX.out _).mono ?_); rintro e w5 ⟨rfl, hb5⟩)))
    go_ret
    exact ⟨rfl, by (repeat' (first | (with_reducible exact Below.refl _ _) | (with_reducible assumption) | (with_reducible refine Below.new ?_ _) | (with_reducible refine Below.alloc ?_ ?_ _) | (with_reducible refine Below.drew ?_) | (with_reducible refine Below.drewN ?_ _) | (with_reducible refine Below.setCell ?_ ?_ _) | (refine Below.step ?_ (by assumption)) | go_size))⟩
theorem u64_nat {n : Int} (h : U64 n) : ∃ x : Nat, n = (x : Int) ∧ x < 2 ^ 64 := by
  unfold U64 at h
  exact ⟨n.toNat, by omega, by omega⟩
theorem RatioBack_walk (a : Int) (ha : U64 a) (s : ByteArray) (hs : s.size ≤ 9223372036854775807) (w : World) (hT : Tabs w) :
    Calls Tryd.prog 9 #[.int .u64 a, .string s] w fun e w' => e = .returned (.bool true) ∧ Below w.heap.size w w' := by
  obtain ⟨x, rfl, hx⟩ := u64_nat ha
  exact RatioBack_core x hx s hs w hT
set_option maxRecDepth 100000 in
theorem RatioBack_lifted (os : Os) (started : os.Started) (H : Type) (enc : TypeId × Value → H) :
    ReturnsInHanded {} Tryd.checked os 9 .any (fun w args => (Rows.ratioBackSpec.pre enc Tryd.prog Tryd.f9 Rows.ratioBackRow.domain false w args ∧ laidMetH Tryd.prog laidL w) ∧ sizedMet enc Tryd.prog Tryd.f9 (OpenSpec.ofChange Rows.ratioBackSpec) false w args) (Rows.ratioBackSpec.post enc Tryd.prog Tryd.f9 false true false false) := by
  refine law_lift started (by kernel_rfl) Tryd.func9
    (ChangeSpec.witness_shaped (enc := enc) (C := Tryd.checked) (os := os) (X := fun w _ => laidMetH Tryd.prog laidL w) false (World.doorLaid Tryd.prog 400 os) #[.int .u64 0, .string { data := #[] }] 8 rfl (World.shaped_of_RefB (by kernel_rfl) (by kernel_rfl)) (by kernel_rfl) (by kernel_rfl) (by kernel_rfl) (door_met os _)) rfl rfl (by kernel_rfl) ?_ ?_
  · intro ds hl
    match ds, hl with
    | [_, _], _ => exact ⟨rfl, rfl, rfl⟩
  · intro W base args ds p hS hval hA hsz
    rw [Tryd.params9] at hA hval hsz
    obtain ⟨v0, vs0, d0, ds0, p0, q0, hargs, rfl, rfl, h0, r0⟩ := trodAll_cons hA
    obtain ⟨v1, vs1, d1, ds1, p1, q1, rfl, rfl, rfl, h1, r1⟩ := trodAll_cons r0
    obtain ⟨rfl, rfl, rfl⟩ := trodAll_nil r1
    obtain rfl : args = #[v0, v1] := by cases args; simp_all
    obtain ⟨a0, rfl, b0⟩ := open_u64 Tryd.underlying22 (hval 0 22 v0 rfl rfl) h0
    obtain ⟨a1, rfl, b1⟩ := open_str Tryd.underlying9 (hval 1 9 v1 rfl rfl) h1
    exact RatioBack_walk a0 b0 a1 b1 W hS

theorem RatioBack_over : Rows.ratioBackRow.holds Tryd.pinned (OpenSpec.ofChange Rows.ratioBackSpec) :=
  OpenClaim.holds_of_wide 9 Tryd.f9 rfl rfl rfl rfl rfl rfl rfl ⟨rfl, rfl, rfl, rfl, rfl⟩ rfl rfl rfl rfl rfl (by kernel_rfl) Tryd.func9 (by kernel_rfl)
    (of_decide_eq_true (by kernel_rfl)) (by unfold Func.isWrapper; first | (rw [if_pos (by decide +kernel)]; kernel_rfl) | (rw [if_neg (by decide +kernel)]; exact ⟨rfl, rfl⟩))
    (fun os started H enc _ => RatioBack_lifted os started H enc)

/-- The statement: the tied card. -/
theorem RatioBack_proved : Rows.RatioBackCardSaid :=
  Claim7.holds_tied_plain_at .later [] [.data, .data, .data] true (true, "3fd1db1805379c94ca0f033bef2549d43d0cb053ccef5510583f520674463b5b") false
    RatioBack_over (fun _ h => by cases h) (by kernel_rfl) (fun _ h => by cases h) ratioBack_row_tie rfl ⟨rfl, rfl⟩ (by kernel_rfl) rfl
    (fun f fn hf hfn => by
      obtain rfl : f = 9 := Option.some.inj ((show Tryd.prog.funcNamed "tesserae/tesseraelaw09.RatioBack" = some 9 by kernel_rfl).symm.trans hf) |>.symm
      obtain rfl : fn = Tryd.f9 := (Option.some.inj (Tryd.func9.symm.trans hfn)).symm
      exact ⟨by kernel_rfl, fun j t ht => by
        rw [Tryd.params9] at ht
        have hm : t ∈ [22, 9] := by simpa using Array.mem_of_getElem? ht
        have hall : ([22, 9].all fun u => !Tryd.prog.wantsStandIn u) = true := by kernel_rfl
        exact (show Tryd.prog.wantsStandIn t = false by simpa using List.all_eq_true.1 hall t hm)⟩)
    (by kernel_rfl)
end Go.Proofs.YtcdfbcmhikhnjaaDoor
