/- Ratio: the program's division. -/
import Derived.Test.YtcdfbcmhikhnjaaDoorRtB
import Derived.Test.YtcdfbcmhikhnjaaDoorRtC
import Derived.Test.YtcdfbcmhikhnjaaDoorShelf
namespace Go.Proofs.YtcdfbcmhikhnjaaDoor
set_option linter.unusedVariables false
set_option linter.unusedSimpArgs false
set_option maxRecDepth 100000
open Go.ChangeShapes Go.WideShapes Go.ChangeAt Go.RowKit Go.Fl Go.Shelf
attribute [local go_sem] Oper.semAt_some

theorem callsIn_any {n : Nat} {P : Program} {l' : Nat} {f : FuncId} {args : Array Value} {w : World} {R : Ending → World → Prop} (h : Calls P f args w R) : CallsIn (Fence.wide.inRound l') n P f args w R :=
  ⟨trivial, (callsIn_wide (n := n)).2 h |>.2⟩
theorem bla_le : ∀ (f x : Nat), Lib.bitLenAux f x ≤ f
  | 0, _ => Nat.le_refl _
  | f + 1, x => by
    unfold Lib.bitLenAux
    have := bla_le f (x / 2)
    split <;> omega
theorem bl_53 {m : Nat} (h : m < 2 ^ 53) : ((Lib.bitLen m : Nat) : Int) = if 2 ^ 52 ≤ m then 53 else (Lib.bitLen m : Int) := by
  split
  · rename_i h2
    rw [Lib.bitLen_shift 52 m h2 (by omega), show m / 2 ^ 52 = 1 by omega]
    rfl
  · rfl
theorem bl_lt {m : Nat} (h : m < 2 ^ 52) : Lib.bitLen m ≤ 52 := by
  unfold Lib.bitLen
  rw [Lib.bitLenAux_fuel 52 m h 64 (by omega)]
  exact bla_le _ _
theorem bl_dec {m : Nat} (h : m < 2 ^ 53) : (((Lib.bitLen m : Nat) : Int) == 53) = decide (2 ^ 52 ≤ m) := by
  by_cases h2 : 2 ^ 52 ≤ m
  · rw [bl_53 h, if_pos h2]; simp [h2]
  · have := bl_lt (show m < 2 ^ 52 by omega)
    rw [Bool.eq_iff_iff]
    simp
    omega
/-- A whole number of 53 digits, or the next power of two, as a floating one; times a power of two. -/
theorem float_nat {m : Nat} (h1 : 2 ^ 52 ≤ m) (h2 : m ≤ 2 ^ 53) : ∃ r K M, Rep r K M ∧ 2 ^ 52 ≤ M ∧ 1074 ≤ K ∧ floatOfInt .f64 (m : Int) = r ∧ ∀ i : Nat, i ≤ 215 → Rep ((1202 - i) * 2 ^ 52 + m) (K + 128 - i) M := by
  have e : floatOfInt .f64 (m : Int) = Ieee.double.nearest false m 0 := by
    unfold floatOfInt FloatKind.nearest FloatKind.encode
    show Ieee.double.write _ = _
    unfold Ieee.Format.write
    have : decide ((m : Int) < 0) = false := by simp
    simp only [this, Int.natAbs_natCast]
  by_cases h : m < 2 ^ 53
  · have hR : Rep (1074 * 2 ^ 52 + m) 1074 m := ⟨rfl, h, .inr h1, by omega, by omega⟩
    refine ⟨_, 1074, m, hR, h1, by omega, ?_, fun i hi => ⟨by rw [show 1074 + 128 - i = 1202 - i by omega], h, .inr h1, by omega, by omega⟩⟩
    rw [e]
    exact near_rep false hR (mag := m) (p := 1074) (.inl ⟨0, by omega, by simp⟩)
  · obtain rfl : m = 2 ^ 53 := by omega
    have hR : Rep (1075 * 2 ^ 52 + 2 ^ 52) 1075 (2 ^ 52) := ⟨rfl, by decide, by decide, by decide, by decide⟩
    refine ⟨_, 1075, 2 ^ 52, hR, by decide, by omega, ?_, fun i hi => ⟨by omega, by decide, .inr (by decide), by decide, by omega⟩⟩
    rw [e]
    exact near_rep false hR (mag := 2 ^ 53) (p := 1074) (.inl ⟨1, by omega, by decide⟩)
theorem int_odd (m : Nat) : (((m : Nat) : Int) % 2 == 1) = (m % 2 == 1) := by rw [Bool.eq_iff_iff]; simp; omega
theorem bits_odd {m : Nat} (h : m < 2 ^ 53) : bits .and .u64 (m : Int) 1 = (m : Int) % 2 := by
  have := bits_and m 1 (by omega) (by decide)
  rw [show ((1 : Nat) : Int) = 1 from rfl] at this
  rw [this, Nat.and_one_is_mod]
  omega
/-- The digits made a floating number. -/
theorem div_end {m i : Nat} (h1 : 2 ^ 52 ≤ m) (h2 : m ≤ 2 ^ 53) (hi : i ≤ 215) : ∃ r, floatOfInt .f64 (m : Int) = r ∧ ∀ W, Calls Tryd.prog 53 #[.float .f64 r, .int .i64 (128 - (i : Int))] W fun e w' => e = .returned (.float .f64 ((1202 - i) * 2 ^ 52 + m)) ∧ W = w' := by
  obtain ⟨r, K, M, hR, hM, hKK, hn1, hr2⟩ := float_nat h1 h2
  refine ⟨r, hn1, fun W => ?_⟩
  have hr3 := hr2 i hi
  have hl := ldexp_any false hR hM (128 - (i : Int)) (by omega) W
  rw [word_false] at hl
  refine hl.mono ?_
  rintro e w' ⟨⟨z, rfl, _, _, hz⟩, rfl⟩
  have := hz hr3 (.inl ⟨0, by omega, by simp⟩)
  rw [word_false] at this
  rw [this]
  exact ⟨rfl, rfl⟩
/-- What the loop over the digits keeps. -/
def dvI (w : World) (A n i : Nat) (k : Nat) (X : World) : Prop :=
  k ≤ i ∧ X.heap[w.heap.size + 1]? = some (.cells #[.int .u64 ((quo A n k : Nat) : Int)] 22 (0, 0)) ∧ X.heap[w.heap.size + 1 + 1]? = some (.cells #[.int .i64 (128 - (k : Int))] 3 (0, 0)) ∧
  X.heap[w.heap.size + 1 + 1 + 1]? = some (.cells #[.bool false] 4 (0, 0)) ∧ X.heap[w.heap.size + 1 + 1 + 1 + 1]? = some (.cells #[.bool false] 4 (0, 0)) ∧ Below w.heap.size w X
def dvX (w : World) (A n i : Nat) (c : Code) (k : Nat) (X : World) : Prop :=
  c = .exit 0 ∧ X.heap[w.heap.size + 1]? = some (.cells #[.int .u64 ((quo A n i : Nat) : Int)] 22 (0, 0)) ∧ X.heap[w.heap.size + 1 + 1]? = some (.cells #[.int .i64 (127 - (i : Int))] 3 (0, 0)) ∧
  X.heap[w.heap.size + 1 + 1 + 1]? = some (.cells #[.bool (moreB A n (i + 1))] 4 (0, 0)) ∧ X.heap[w.heap.size + 1 + 1 + 1 + 1]? = some (.cells #[.bool (quo A n (i + 1) % 2 == 1)] 4 (0, 0)) ∧ Below w.heap.size w X
theorem dvI_stab {w : World} {A n i B : Nat} (hB : w.heap.size ≤ B) (k : Nat) : Stab B (dvI w A n i k) :=
  Stab.and (Stab.pure _) (Stab.and Stab.block (Stab.and Stab.block (Stab.and Stab.block (Stab.and Stab.block (Stab.below (Nat.le_refl _) hB)))))
theorem dvX_stab {w : World} {A n i B : Nat} (hB : w.heap.size ≤ B) (c : Code) (k : Nat) : Stab B (dvX w A n i c k) :=
  Stab.and (Stab.pure _) (Stab.and Stab.block (Stab.and Stab.block (Stab.and Stab.block (Stab.and Stab.block (Stab.below (Nat.le_refl _) hB)))))

set_option maxHeartbeats 4000000 in
theorem divided_any (A n : Nat) (hA0 : 0 < A) (hA : A < 2 ^ 128) (hn : 0 < n) (hn2 : n ≤ 20000000000) (h : Int) (hh : IntKind.u64.wrap h = ((A / 2 ^ 64 : Nat) : Int)) (w : World) :
    Calls Tryd.prog 39 #[.agg #[.int .i64 h, .int .u64 ((A % 2 ^ 64 : Nat) : Int)], .int .u64 (n : Int)] w fun e w' => e = .returned (.float .f64 (ofR A n)) ∧ Below w.heap.size w w' := by
  obtain ⟨a1, a2, a3, a4⟩ := theI_spec hA0 hA hn (show n < 2 ^ 35 by omega)
  have a5 := quo_top hA0 hA hn (show n < 2 ^ 35 by omega)
  obtain ⟨i, hi⟩ : ∃ i, theI A n = i := ⟨_, rfl⟩
  have hof : ofR A n = (1202 - i) * 2 ^ 52 + (quo A n i + (upB A n i).toNat) := by unfold ofR; rw [hi]
  rw [hi] at a1 a2 a3 a4 a5
  have HOF := hid hof
  have HS := hid (fun N n₀ lo hi' W a b c d e f => quotient_seq A n hA hn hn2 h hh a b N n₀ lo hi' W c d e f)
  have HA1 := hid a1; have HA2 := hid a2; have HA5 := hid a5; have HN := hid hn
  have HQ0 : Hid (quo A n 0 = 0) := by
    unfold Hid quo
    rw [Nat.pow_zero, Nat.mul_one]
    exact Nat.div_eq_of_lt (Nat.lt_of_lt_of_le hA (Nat.le_mul_of_pos_left _ hn))
  clear hof hi a1 a2 a5 hh hA0 hA
  obtain ⟨L, hL⟩ : ∃ L, A % 2 ^ 64 = L := ⟨_, rfl⟩
  rw [hL] at HS ⊢
  clear hL
  refine calls_marks Tryd.func39 rfl ?_
  simp only [Tryd.ntmps39, List.size_toArray, List.length_cons, List.length_nil, Nat.reduceAdd, Nat.reduceSub, Array.replicate_succ, Array.replicate_zero, List.push_toArray, List.append_toArray, List.nil_append, List.cons_append]
  go_wp2
  refine wp_scope_fwd ?_
  go_wp2
  refine wp_label ?_
  go_wp2_with (go_at_call 68; go_loud ((with_reducible refine (quotient_any _ _ _ _).mono ?_); rintro e w3 ⟨rfl, hw3⟩))
  clear hw3
  refine wp_rangeF (gf := 85) (lb := #[.pointer (some ⟨w.heap.size + 1 + 1 + 1 + 1 + 1, 0, none⟩), .pointer (some ⟨w.heap.size + 1 + 1 + 1 + 1 + 1 + 1, 0, none⟩)]) rfl (enters_of Tryd.func85 (by kernel_rfl) rfl)
    (HS.out (i + 1) w.heap.size (w.heap.size + 1 + 1 + 1 + 1 + 1) (w.heap.size + 1 + 1 + 1 + 1 + 1 + 1 + 1) _ (w.heap.size + 1 + 1 + 1 + 1 + 1) (w.heap.size + 1 + 1 + 1 + 1 + 1 + 1) (by (simp (disch := first | omega | (simp only [World.size_alloc, World.size_setCell, World.size_drew]; done) | (simp only [World.size_alloc, World.size_setCell, World.size_drew]; omega)) only [heap_at, heap_past, heap_set_other, heap_set_same])) (by (simp (disch := first | omega | (simp only [World.size_alloc, World.size_setCell, World.size_drew]; done) | (simp only [World.size_alloc, World.size_setCell, World.size_drew]; omega)) only [heap_at, heap_past, heap_set_other, heap_set_same])) (by omega) (by omega)) (by simp; omega) (fun _ => rfl) (dvI w A n i) (dvX w A n i) (dvI_stab (by simp; omega)) (dvX_stab (by simp; omega)) (fun W h => Nat.not_succ_le_self i h.1) ?start ?round ?stop
  case start =>
    refine ⟨Nat.zero_le _, ?_, ?_, ?_, ?_, by (repeat' (first | (with_reducible exact Below.refl _ _) | (with_reducible assumption) | (with_reducible refine Below.new ?_ _) | (with_reducible refine Below.alloc ?_ ?_ _) | (with_reducible refine Below.drew ?_) | (with_reducible refine Below.drewN ?_ _) | (with_reducible refine Below.setCell ?_ ?_ _) | (refine Below.step ?_ (by assumption)) | go_size))⟩
    · (simp (disch := first | omega | (simp only [World.size_alloc, World.size_setCell, World.size_drew]; done) | (simp only [World.size_alloc, World.size_setCell, World.size_drew]; omega)) only [heap_at, heap_past, heap_set_other, heap_set_same]); rw [HQ0.out]; rfl
    · (simp (disch := first | omega | (simp only [World.size_alloc, World.size_setCell, World.size_drew]; done) | (simp only [World.size_alloc, World.size_setCell, World.size_drew]; omega)) only [heap_at, heap_past, heap_set_other, heap_set_same]); simp
    · (simp (disch := first | omega | (simp only [World.size_alloc, World.size_setCell, World.size_drew]; done) | (simp only [World.size_alloc, World.size_setCell, World.size_drew]; omega)) only [heap_at, heap_past, heap_set_other, heap_set_same])
    · (simp (disch := first | omega | (simp only [World.size_alloc, World.size_setCell, World.size_drew]; done) | (simp only [World.size_alloc, World.size_setCell, World.size_drew]; omega)) only [heap_at, heap_past, heap_set_other, heap_set_same])
  case round =>
    intro ln k W hkN hI hl hlt hW
    obtain ⟨hki, h1, h2, h3, h4, hbel⟩ := hI
    simp only [World.size_alloc] at hl hW
    gi_wp2
    refine ⟨Kept.refl _ _ _ _ _, fun W2 hT => ?_⟩
    have hI2 := (dvI_stab (A := A) (n := n) (i := i) (Nat.le_refl w.heap.size) k).turn ⟨hki, h1, h2, h3, h4, hbel⟩ hT (by omega)
    have hzW : W2.heap.size = W.heap.size := hT.size
    clear h1 h2 h3 h4 hbel hT
    obtain ⟨_, h1, h2, h3, h4, hbel⟩ := hI2
    have c1 := cell_of_one h1; have f1 := free_of_one h1
    have c2 := cell_of_one h2; have f2 := free_of_one h2
    have c3 := cell_of_one h3; have f3 := free_of_one h3
    have c4 := cell_of_one h4; have f4 := free_of_one h4
    have m53 : quo A n k < 2 ^ 53 := by
      by_cases e : k = i
      · rw [e]; exact HA5.out
      · have := HA2.out k (by omega); omega
    have hlen := bl_dec m53
    have hd1 : quo A n (k + 1) % 2 ≤ 1 := by omega
    have hqs := quo_succ A n k HN.out
    have HLN := hid (fun W => Tryd.bits_Len64 ((quo A n k : Nat) : Int) W (by omega) (by omega))
    have hk64 : ((quo A n k : Nat) : Int) ≤ 9007199254740992 := by omega
    have hik : (k : Int) ≤ 215 := by omega
    have HM53 := hid m53
    have hB1 : Below w.heap.size w W2 := hbel
    clear m53 hbel
    by_cases hki2 : k = i
    · subst hki2
      have hb : (((Lib.bitLen (quo A n k) : Nat) : Int) == 53) = true := by rw [hlen]; simpa using HA1.out
      clear hlen hqs
      generalize hmo : moreB A n (k + 1) = mo at *
      generalize hm0 : quo A n k = m at *
      generalize hm1 : quo A n (k + 1) = m1 at *
      have HMO := hid hmo; have HM0 := hid hm0; have HM1 := hid hm1
      clear hmo hm0 hm1
      rw [Int.toNat_natCast] at HLN
      gi_wp2_with (refine ⟨trivial, (callsIn_any (HLN.out _)).mono ?_⟩; rintro e w4 ⟨rfl, rfl⟩)
      refine ⟨?_, rfl, ?_, ?_, ?_, ?_, ?_⟩
      · exact Kept.setCell (Kept.setCell (Kept.setCell (Kept.refl _ _ _ _ _) (by simp; omega) (.inl (show w.heap.size + 1 + 1 < w.heap.size + 1 + 1 + 1 + 1 + 1 by omega)) _) (by simp; omega) (.inl (show w.heap.size + 1 + 1 + 1 + 1 < w.heap.size + 1 + 1 + 1 + 1 + 1 by omega)) _) (by simp; omega) (.inl (show w.heap.size + 1 + 1 + 1 < w.heap.size + 1 + 1 + 1 + 1 + 1 by omega)) _
      · rw [HM0.out]; exact (heap_set_other (by omega)).trans ((heap_set_other (by omega)).trans ((heap_set_other (by omega)).trans h1))
      · rw [show (127 - (k : Int)) = 128 - (k : Int) - 1 by omega]; exact (heap_set_other (by omega)).trans ((heap_set_other (by omega)).trans (heap_set_same h2))
      · rw [HMO.out]; exact heap_set_same ((heap_set_other (by omega)).trans ((heap_set_other (by omega)).trans h3))
      · rw [HM1.out, ← int_odd]; exact (heap_set_other (by omega)).trans (heap_set_same ((heap_set_other (by omega)).trans h4))
      · exact ((hB1.setCell (by dsimp only; omega) _).setCell (by dsimp only; omega) _).setCell (by dsimp only; omega) _
    · have hb : (((Lib.bitLen (quo A n k) : Nat) : Int) == 53) = false := by rw [hlen]; have := HA2.out k (by omega); simp; omega
      have hor : bits .or .u64 (((quo A n k : Nat) : Int) * 2) (((quo A n (k + 1) : Nat) : Int) % 2) = ((quo A n (k + 1) : Nat) : Int) := by
        rw [show ((quo A n k : Nat) : Int) * 2 = ((2 * quo A n k : Nat) : Int) by omega, show ((quo A n (k + 1) : Nat) : Int) % 2 = ((quo A n (k + 1) % 2 : Nat) : Int) by omega, bits_or _ _ (by omega) (by omega), or_bit _ _ hd1, ← hqs]
      clear hlen hqs
      generalize hmo : moreB A n (k + 1) = mo at *
      generalize hm0 : quo A n k = m at *
      generalize hm1 : quo A n (k + 1) = m1 at *
      have HMO := hid hmo; have HM0 := hid hm0; have HM1 := hid hm1
      clear hmo hm0 hm1
      rw [Int.toNat_natCast] at HLN
      gi_wp2_with (refine ⟨trivial, (callsIn_any (HLN.out _)).mono ?_⟩; rintro e w4 ⟨rfl, rfl⟩)
      refine ⟨?_, by omega, ?_, ?_, ?_, ?_, ?_⟩
      · exact Kept.setCell (Kept.setCell (Kept.refl _ _ _ _ _) (by simp; omega) (.inl (show w.heap.size + 1 + 1 < w.heap.size + 1 + 1 + 1 + 1 + 1 by omega)) _) (by simp) (.inl (show w.heap.size + 1 < w.heap.size + 1 + 1 + 1 + 1 + 1 by omega)) _
      · rw [HM1.out]; exact heap_set_same ((heap_set_other (by omega)).trans h1)
      · rw [show (128 - ((k + 1 : Nat) : Int)) = 128 - (k : Int) - 1 by omega]; exact (heap_set_other (by omega)).trans (heap_set_same h2)
      · exact (heap_set_other (by omega)).trans ((heap_set_other (by omega)).trans h3)
      · exact (heap_set_other (by omega)).trans ((heap_set_other (by omega)).trans h4)
      · exact (hB1.setCell (by dsimp only; omega) _).setCell (by dsimp only; omega) _
  case stop =>
    intro D c k X hD hkN hX hKD
    obtain ⟨rfl, h1, h2, h3, h4, hbel⟩ := hX
    simp only [World.size_alloc] at hD
    have c1 := cell_of_one h1; have f1 := free_of_one h1
    have c2 := cell_of_one h2
    have c3 := cell_of_one h3
    have c4 := cell_of_one h4
    have hzX := blk_lt hKD
    have m1 := HA1.out; have m2 := HA5.out
    have hup : upB A n i = ((quo A n (i + 1) % 2 == 1) && (moreB A n (i + 1) || (quo A n i % 2 == 1))) := rfl
    obtain ⟨Z, hZ⟩ : ∃ Z : Bool → Nat, ∀ b, Z b = (1202 - i) * 2 ^ 52 + (quo A n i + b.toNat) := ⟨_, fun _ => rfl⟩
    have HZ : Hid (ofR A n = Z (upB A n i)) := by unfold Hid; rw [HOF.out, hZ]
    clear HOF
    generalize quo A n i = m at *
    generalize moreB A n (i + 1) = mo at *
    generalize (quo A n (i + 1) % 2 == 1) = dg at *
    generalize upB A n i = up at *
    have hodd := bits_odd m2
    have hodd2 := int_odd m
    obtain ⟨od, hod⟩ : ∃ od, (m % 2 == 1) = od := ⟨_, rfl⟩
    rw [hod] at hup hodd2
    clear hod
    have key : ∀ b : Bool, ∃ r, floatOfInt .f64 ((m : Int) + (b.toNat : Int)) = r ∧ ∀ W, Calls Tryd.prog 53 #[.float .f64 r, .int .i64 (127 - (i : Int) + 1)] W fun e w' => e = .returned (.float .f64 (Z b)) ∧ W = w' := fun b => by
      have hb1 : b.toNat ≤ 1 := by cases b <;> decide
      obtain ⟨r, h1, h2⟩ := div_end (m := m + b.toNat) (i := i) (by omega) (by omega) (by omega)
      refine ⟨r, by rw [← h1, Int.natCast_add], fun W => ?_⟩
      rw [show (127 - (i : Int) + 1) = 128 - (i : Int) by omega, hZ]
      exact h2 W
    have m64 : (m : Int) ≤ 9007199254740992 := by omega
    have i64 : (i : Int) ≤ 215 := by omega
    have hbel2 := hid hbel; have hKD2 := hid hKD; have hX1 := hid h1
    have hlX1 := blk_lt h1
    have hDX : w.heap.size + 1 ≠ D := fun e => by subst e; rw [h1] at hKD; cases hKD
    clear h1 h2 h3 h4 hbel hKD m1 m2
    cases up
    case' true =>
      obtain ⟨r, hr, HL⟩ := key true
      simp only [Bool.toNat_true, Int.natCast_one] at hr
      generalize Z true = z at *
    case' false =>
      obtain ⟨r, hr, HL⟩ := key false
      simp only [Bool.toNat_false, Int.natCast_zero, Int.add_zero] at hr
      generalize Z false = z at *
    all_goals
      have HLL := hid HL
      clear key HL hZ
      cases dg
      case' true =>
        cases mo
        case' false => cases od
    all_goals first
      | (exfalso; simp at hup; done)
      | skip
    all_goals clear hup
    all_goals
      go_wp2_with (go_at_call 53; go_loud ((with_reducible refine (HLL.out _).mono ?_); rintro e w4 ⟨rfl, rfl⟩))
    all_goals
      rw [jumpFwd_ret]
      refine ret_mark (.inl rfl) (by first | exact hKD2.out | exact (heap_set_other (by omega)).trans hKD2.out) fun w' hT => ?_
      refine ⟨_, by simp only [results, Tryd.results39]; go_simp; try rfl, ?_⟩
      rw [HZ.out]
      exact ⟨rfl, (Stab.below (Nat.le_refl _) (Nat.le_refl _)).turn (by first | exact hbel2.out | exact hbel2.out.setCell (by dsimp only; omega) _) hT (by omega)⟩
end Go.Proofs.YtcdfbcmhikhnjaaDoor
