/- RatioOrders holds: the order of floating numbers, and their texts, are as the document says, for any two by their bits, and any text. The three listed tables hold what the program's text lays in them (the card ties them). -/
import Derived.Test.YtcdfbcmhikhnjaaDoorRb
import Derived.Test.YtcdfbcmhikhnjaaDoorLawF
import Derived.Test.YtcdfbcmhikhnjaaDoorCards
import Derived.Test.YtcdfbcmhikhnjaaDoorTie
import Derived.SevenTiedAt
namespace Go.Proofs.YtcdfbcmhikhnjaaDoor
set_option linter.unusedVariables false
set_option linter.unusedSimpArgs false
open Go.ChangeShapes Go.WideShapes Go.ChangeAt Go.RowKit Go.Joins Go.Fl
attribute [local go_sem] fbits_run frombits_lit Int.toNat_natCast ord_lt ord_eq ord_gt ord_ne

theorem rparse_det {l : List UInt8} {f : Nat} {c : Int} (h : ParseIs l f c) (hl : l.length ≤ 100) (w : World) :
    Calls Tryd.prog 26 #[strL l] w fun e w' => e = .returned (.tuple #[.float .f64 f, .int .i64 c]) ∧ Below w.heap.size w w' := by
  refine (rparse_any l hl w).mono ?_
  rintro e w' ⟨⟨g, k, rfl, h'⟩, hb⟩
  obtain ⟨rfl, rfl⟩ := h.uniq h'
  exact ⟨rfl, hb⟩
set_option maxRecDepth 100000 in
set_option maxHeartbeats 8000000 in
theorem RatioOrders_core (x y : Nat) (hx : x < 2 ^ 64) (hy : y < 2 ^ 64) (s : ByteArray) (hs : s.size ≤ 9223372036854775807) (w : World) (hT : Tabs w) :
    Calls Tryd.prog 8 #[.int .u64 (x : Int), .int .u64 (y : Int), .string s] w fun e w' => e = .returned (.bool true) ∧ Below w.heap.size w w' := by
  have HSH := hid (fun W (h : Tabs W) => shown_any W h)
  have TX := hid (fun W (h : Tabs W) => text_any x hx W h)
  have TR := hid (fun W => rtext_any x hx W)
  have C1 := hid (fun W => compare_any x y hx hy W); have C2 := hid (fun W => rcompare_any x y hx hy W)
  have S1 := hid (fun W => same_any x y hx hy W); have S2 := hid (fun W => rsame_any x y hx hy W)
  have CT := hid (fun W => cut_take s hs W)
  obtain ⟨L, hL⟩ : ∃ L, s.data.toList.take 60 = L := ⟨_, rfl⟩
  have hLl : L.length ≤ 100 := by rw [← hL, List.length_take]; omega
  rw [hL] at CT
  obtain ⟨f, c, hp⟩ := parse_ex L
  have hf : f < 2 ^ 64 := by
    rcases hp with ⟨_, h, _⟩ | ⟨_, h, _⟩
    · exact h
    · rw [h]; decide
  have PS := hid (fun W (h : Tabs W) => parse_det hp hLl W h)
  have PR := hid (fun W => rparse_det hp hLl W)
  have S3 := hid (fun W => self_same f hf W)
  obtain ⟨q, hq⟩ : ∃ q : ByteArray, ({ data := (textB x).toArray } : ByteArray) = q := ⟨_, rfl⟩
  obtain ⟨r, hr⟩ : ∃ r : ByteArray, ({ data := L.toArray } : ByteArray) = r := ⟨_, rfl⟩
  have e1 : strL (textB x) = Value.string q := by rw [← hq]
  have e2 : strL L = Value.string r := by rw [← hr]
  rw [e1] at TX TR; rw [e2] at CT PS PR
  have hTT : ∀ W, Below w.heap.size w W → Tabs W := fun W h => hT.below h (Nat.le_refl _)
  replace hTT := hid hTT
  clear hx hy hs hT hL hLl hp hq hr e1 e2 hf
  generalize sgnI (keyI x) (keyI y) = p at *
  generalize decide (keyI x = keyI y) = d at *
  go_enter Tryd.func8, Tryd.ntmps8
  go_wp2_with (first
    | (go_at_call 10; go_loud ((with_reducible refine (HSH.out _ (hTT.out _ (by (repeat' (first | (with_reducible exact Below.refl _ _) | (with_reducible assumption) | (with_reducible refine Below.new ?_ _) | (with_reducible refine Below.alloc ?_ ?_ _) | (with_reducible refine Below.drew ?_) | (with_reducible refine Below.drewN ?_ _) | (with_reducible refine Below.setCell ?_ ?_ _) | (refine Below.step ?_ (by assumption)) | go_size))))).mono ?_); rintro e w1 ⟨rfl, hb1⟩))
    | (go_at_call 25; go_loud ((with_reducible refine (CT.out _).mono ?_); rintro e w7 ⟨rfl, rfl⟩))
    | (go_at_call 24; go_loud ((with_reducible refine (PS.out _ (hTT.out _ (by (repeat' (first | (with_reducible exact Below.refl _ _) | (with_reducible assumption) | (with_reducible refine Below.new ?_ _) | (with_reducible refine Below.alloc ?_ ?_ _) | (with_reducible refine Below.drew ?_) | (with_reducible refine Below.drewN ?_ _) | (with_reducible refine Below.setCell ?_ ?_ _) | (refine Below.step ?_ (by assumption)) | go_size))))).mono ?_); rintro e w4 ⟨rfl, hb4⟩))
    | (go_at_call 26; go_loud ((with_reducible refine (PR.out _).mono ?_); rintro e w5 ⟨rfl, hb5⟩))
    | (go_at_call 12; go_loud ((with_reducible refine (C1.out _).mono ?_); rintro e w6 ⟨rfl, hb6⟩))
    | (go_at_call 27; go_loud ((with_reducible refine (C2.out _).mono ?_); rintro e w8 ⟨rfl, rfl⟩))
    | (go_at_call 13; go_loud ((with_reducible refine (S1.out _).mono ?_); rintro e w9 ⟨rfl, hb9⟩))
    | (go_at_call 18; first
      | ((with_reducible refine (S2.out _).mono ?_); rintro e w10 ⟨rfl, rfl⟩)
      | ((with_reducible refine (S3.out _).mono ?_); rintro e w10 ⟨rfl, rfl⟩))
    | (go_at_call 28; go_loud ((with_reducible refine (TX.out _ (hTT.out _ (by (repeat' (first | (with_reducible exact Below.refl _ _) | (with_reducible assumption) | (with_reducible refine Below.new ?_ _) | (with_reducible refine Below.alloc ?_ ?_ _) | (with_reducible refine Below.drew ?_) | (with_reducible refine Below.drewN ?_ _) | (with_reducible refine Below.setCell ?_ ?_ _) | (refine Below.step ?_ (by assumption)) | go_size))))).mono ?_); rintro e w2 ⟨rfl, hb2⟩))
    | (go_at_call 29; go_loud ((with_reducible refine (TR.out _).mono ?_); rintro e w3 ⟨rfl, hb3⟩)))
  go_ret
  exact ⟨by first | rfl | simp, by (repeat' (first | (with_reducible exact Below.refl _ _) | (with_reducible assumption) | (with_reducible refine Below.new ?_ _) | (with_reducible refine Below.alloc ?_ ?_ _) | (with_reducible refine Below.drew ?_) | (with_reducible refine Below.drewN ?_ _) | (with_reducible refine Below.setCell ?_ ?_ _) | (refine Below.step ?_ (by assumption)) | go_size))⟩
theorem u64_nat {n : Int} (h : U64 n) : ∃ x : Nat, n = (x : Int) ∧ x < 2 ^ 64 := by
  unfold U64 at h
  exact ⟨n.toNat, by omega, by omega⟩
theorem RatioOrders_walk (a : Int) (ha : U64 a) (b : Int) (hb : U64 b) (s : ByteArray) (hs : s.size ≤ 9223372036854775807) (w : World) (hT : Tabs w) :
    Calls Tryd.prog 8 #[.int .u64 a, .int .u64 b, .string s] w fun e w' => e = .returned (.bool true) ∧ Below w.heap.size w w' := by
  obtain ⟨x, rfl, hx⟩ := u64_nat ha
  obtain ⟨y, rfl, hy⟩ := u64_nat hb
  exact RatioOrders_core x y hx hy s hs w hT
set_option maxRecDepth 100000 in
theorem RatioOrders_lifted (os : Os) (started : os.Started) (H : Type) (enc : TypeId × Value → H) :
    ReturnsInHanded {} Tryd.checked os 8 .any (fun w args => (Rows.ratioOrdersSpec.pre enc Tryd.prog Tryd.f8 Rows.ratioOrdersRow.domain false w args ∧ laidMetH Tryd.prog laidL w) ∧ sizedMet enc Tryd.prog Tryd.f8 (OpenSpec.ofChange Rows.ratioOrdersSpec) false w args) (Rows.ratioOrdersSpec.post enc Tryd.prog Tryd.f8 false true false false) := by
  refine law_lift started (by kernel_rfl) Tryd.func8
    (ChangeSpec.witness_shaped (enc := enc) (C := Tryd.checked) (os := os) (X := fun w _ => laidMetH Tryd.prog laidL w) false (World.doorLaid Tryd.prog 400 os) #[.int .u64 0, .int .u64 0, .string { data := #[] }] 8 rfl (World.shaped_of_RefB (by kernel_rfl) (by kernel_rfl)) (by kernel_rfl) (by kernel_rfl) (by kernel_rfl) (door_met os _)) rfl rfl (by kernel_rfl) ?_ ?_
  · intro ds hl
    match ds, hl with
    | [_, _, _], _ => exact ⟨rfl, rfl, rfl⟩
  · intro W base args ds p hS hval hA hsz
    rw [Tryd.params8] at hA hval hsz
    obtain ⟨v0, vs0, d0, ds0, p0, q0, hargs, rfl, rfl, h0, r0⟩ := trodAll_cons hA
    obtain ⟨v1, vs1, d1, ds1, p1, q1, rfl, rfl, rfl, h1, r1⟩ := trodAll_cons r0
    obtain ⟨v2, vs2, d2, ds2, p2, q2, rfl, rfl, rfl, h2, r2⟩ := trodAll_cons r1
    obtain ⟨rfl, rfl, rfl⟩ := trodAll_nil r2
    obtain rfl : args = #[v0, v1, v2] := by cases args; simp_all
    obtain ⟨a0, rfl, b0⟩ := open_u64 Tryd.underlying22 (hval 0 22 v0 rfl rfl) h0
    obtain ⟨a1, rfl, b1⟩ := open_u64 Tryd.underlying22 (hval 1 22 v1 rfl rfl) h1
    obtain ⟨a2, rfl, b2⟩ := open_str Tryd.underlying9 (hval 2 9 v2 rfl rfl) h2
    exact RatioOrders_walk a0 b0 a1 b1 a2 b2 W hS

theorem RatioOrders_over : Rows.ratioOrdersRow.holds Tryd.pinned (OpenSpec.ofChange Rows.ratioOrdersSpec) :=
  OpenClaim.holds_of_wide 8 Tryd.f8 rfl rfl rfl rfl rfl rfl rfl ⟨rfl, rfl, rfl, rfl, rfl⟩ rfl rfl rfl rfl rfl (by kernel_rfl) Tryd.func8 (by kernel_rfl)
    (of_decide_eq_true (by kernel_rfl)) (by unfold Func.isWrapper; first | (rw [if_pos (by decide +kernel)]; kernel_rfl) | (rw [if_neg (by decide +kernel)]; exact ⟨rfl, rfl⟩))
    (fun os started H enc _ => RatioOrders_lifted os started H enc)

/-- The statement: the tied card. -/
theorem RatioOrders_proved : Rows.RatioOrdersCardSaid :=
  Claim7.holds_tied_plain_at .later [] [.data, .data, .data] true (true, "3fd1db1805379c94ca0f033bef2549d43d0cb053ccef5510583f520674463b5b") false
    RatioOrders_over (fun _ h => by cases h) (by kernel_rfl) (fun _ h => by cases h) ratioOrders_row_tie rfl ⟨rfl, rfl⟩ (by kernel_rfl) rfl
    (fun f fn hf hfn => by
      obtain rfl : f = 8 := Option.some.inj ((show Tryd.prog.funcNamed "tesserae/tesseraelaw09.RatioOrders" = some 8 by kernel_rfl).symm.trans hf) |>.symm
      obtain rfl : fn = Tryd.f8 := (Option.some.inj (Tryd.func8.symm.trans hfn)).symm
      exact ⟨by kernel_rfl, fun j t ht => by
        rw [Tryd.params8] at ht
        have hm : t ∈ [22, 22, 9] := by simpa using Array.mem_of_getElem? ht
        have hall : ([22, 22, 9].all fun u => !Tryd.prog.wantsStandIn u) = true := by kernel_rfl
        exact (show Tryd.prog.wantsStandIn t = false by simpa using List.all_eq_true.1 hall t hm)⟩)
    (by kernel_rfl)
end Go.Proofs.YtcdfbcmhikhnjaaDoor
