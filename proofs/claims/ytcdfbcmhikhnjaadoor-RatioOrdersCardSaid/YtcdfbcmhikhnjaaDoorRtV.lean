/- Ratio: the program's 'Text'. -/
import Derived.Test.YtcdfbcmhikhnjaaDoorRtU
import Derived.Test.YtcdfbcmhikhnjaaDoorRtL
import Derived.Lib.SmallJoins
namespace Go.Proofs.YtcdfbcmhikhnjaaDoor
set_option linter.unusedVariables false
set_option linter.unusedSimpArgs false
set_option maxRecDepth 100000
open Go.ChangeShapes Go.WideShapes Go.ChangeAt Go.RowKit Go.Fl Go.ChangeMaps Go.MapKept
open Go.Maps (Keyed)
open Go.Lib (decDigits itoa)
attribute [local go_sem] ord_lt ord_eq ord_gt ord_ne

/-- The tables that texts are made by. -/
structure Tabs (w : World) : Prop where
  dig : Lib.TabIs Tryd.prog w "internal/strconv.uint64pow10" .u64 Lib.pow10Tab
  tz : TabAt 1 Lib.deBruijn64tab w
  size : 1 < w.heap.size
theorem gPow : Tryd.prog.globalNamed "internal/strconv.uint64pow10" = some 2 := by kernel_rfl
theorem Tabs.below {B : Nat} {w w' : World} (h : Tabs w) (hb : Below B w w') (hB : w.heap.size ≤ B) : Tabs w' :=
  ⟨Joins.tab_stays gPow h.dig hb hB, fun j hj => (hb.cell (Nat.lt_of_lt_of_le h.size hB)).trans (h.tz j hj), Nat.lt_of_lt_of_le h.size hb.size⟩
theorem join3 (x y : List UInt8) : Value.string (({ data := x.toArray } : ByteArray) ++ { data := #[112] } ++ { data := y.toArray }) = strL (x ++ 112 :: y) := by
  congr 1
  show ByteArray.mk _ = ByteArray.mk _
  congr 1
  simp
theorem join45 (x : List UInt8) : Value.string (({ data := #[45] } : ByteArray) ++ { data := x.toArray }) = strL (45 :: x) := by
  congr 1
theorem joinN (x y : List UInt8) : Value.string (({ data := #[45] } : ByteArray) ++ (({ data := x.toArray } : ByteArray) ++ { data := #[112] } ++ { data := y.toArray })) = strL (45 :: (x ++ 112 :: y)) := by
  congr 1
  show ByteArray.mk _ = ByteArray.mk _
  congr 1
  simp
theorem lt_zero {b : Nat} (hn : isNan b = false) (hr : 0 < b % 2 ^ 63) : ltB b 0 = sgn b := by
  unfold ltB
  rw [hn, skey_pos (show 0 < 2 ^ 63 by decide), nan_pos (show 0 < 2 ^ 63 by decide)]
  unfold skey
  cases sgn b <;> simp <;> omega
theorem text_fin {b : Nat} (hn : isNan b = false) (h1 : 0 < b % 2 ^ 63) (h2 : b % 2 ^ 63 < 2047 * 2 ^ 52) : textB b = (if sgn b then [45] else []) ++ (decDigits (oddM (fM (b % 2 ^ 63))) ++ 112 :: itoa ((fK (b % 2 ^ 63) : Int) - 1074 + tz (fM (b % 2 ^ 63)))) := by
  have e : bodyT (b % 2 ^ 63) = finT (b % 2 ^ 63) := by
    unfold bodyT
    rw [if_neg (by omega), if_neg (by omega)]
  unfold textB
  rw [hn, e]
  cases sgn b <;> rfl
theorem tz_pow {m : Nat} (h : 0 < m) (h2 : m < 2 ^ 53) : tz m ≤ 53 := by
  have h3 := (tz_spec m h).1
  have h4 : 0 < m / 2 ^ tz m := by
    rcases Nat.eq_zero_or_pos (m / 2 ^ tz m) with h | h
    · rw [h] at h3; omega
    · exact h
  refine Nat.le_of_not_lt fun hz => ?_
  have h5 : (2 : Nat) ^ 54 ≤ 2 ^ tz m := Nat.pow_le_pow_right (by decide) hz
  have h6 : 1 * 2 ^ 54 ≤ m / 2 ^ tz m * 2 ^ tz m := Nat.mul_le_mul h4 h5
  omega
theorem strL_of {x : ByteArray} {l : List UInt8} (h : x.data.toList = l) : Value.string x = strL l := by
  subst h
  cases x
  rfl
theorem inv_str (key : Value) (kl : Lit) (h : keyOf Tryd.prog 9 key = some kl) : ∃ x, key = Value.string x := by
  unfold keyOf at h
  rw [Tryd.underlying9] at h
  unfold mapKey at h
  simp only [Tryd.underlying9] at h
  cases key <;> simp at h
  exact ⟨_, rfl⟩
theorem key_str (x : ByteArray) (kl : Lit) (h : keyOf Tryd.prog 9 (.string x) = some kl) : kl = sB x.data.toList := by
  unfold keyOf at h
  rw [Tryd.underlying9] at h
  unfold mapKey at h
  simp only [Tryd.underlying9] at h
  simp at h
  exact h.2.symm
theorem inv_flt (v : Value) (y : DataW Unit × List MemPlace) (h : floatElem v = some y) : ∃ c, v = Value.float .f64 c := by
  unfold floatElem at h
  split at h
  · exact ⟨_, rfl⟩
  · cases h
theorem flt_of (c : Nat) (y : DataW Unit × List MemPlace) (h : floatElem (.float .f64 c) = some y) : y.1 = .lit (.int .u64 c) := by
  unfold floatElem at h
  cases h
  rfl
theorem words_lt {p : List UInt8 × Nat} (hp : p ∈ wordsL) : p.2 < 2 ^ 64 := by
  unfold wordsL at hp
  simp only [List.mem_cons, List.not_mem_nil, or_false] at hp
  rcases hp with rfl | rfl | rfl | rfl | rfl <;> decide
theorem words_fun {p q : List UInt8 × Nat} (hp : p ∈ wordsL) (hq : q ∈ wordsL) (h : p.1 = q.1) : p.2 = q.2 := by
  have key : ∀ p ∈ wordsL, ∀ q ∈ wordsL, p.1 = q.1 → p.2 = q.2 := by decide
  exact key p hp q hq h
theorem below_none {w w' : World} (h : Below w.heap.size w w') : w.grownBy w' none := ⟨h.os, h.tape, h.output, h.size, fun i hi _ => h.block i hi⟩
theorem ldexp_53 {m : Nat} (m1 : 2 ^ 52 ≤ m) (m2 : m < 2 ^ 53) (w : World) : Calls Tryd.prog 53 #[.float .f64 (1021 * 2 ^ 52 + m), .int .i64 53] w fun e w' => e = .returned (.float .f64 (1074 * 2 ^ 52 + m)) ∧ w = w' := by
  obtain ⟨w1, w2, w3⟩ := whole_53 m1 m2
  have h := ldexp_any false w1 m1 53 (by omega) w
  rw [word_false] at h
  refine h.mono ?_
  rintro e w' ⟨⟨z, rfl, _, _, hz⟩, rfl⟩
  have := hz w2 w3
  rw [word_false] at this
  exact ⟨by rw [this], rfl⟩
theorem conv_53 {m : Nat} (m1 : 2 ^ 52 ≤ m) (m2 : m < 2 ^ 53) (w : World) : (convert 24 22 (.float .f64 (1074 * 2 ^ 52 + m))).run Tryd.prog w = .ok (.int .u64 (m : Int)) w :=
  run_convert_float_int w 24 22 .f64 .u64 _ _ (by rw [Tryd.underlying24]; rfl) Tryd.underlying22 (toInt_53 m1 m2)
set_option maxHeartbeats 2000000 in
theorem text_any (b : Nat) (hb : b < 2 ^ 64) (w : World) (hT : Tabs w) : Calls Tryd.prog 28 #[.float .f64 b] w fun e w' => e = .returned (strL (textB b)) ∧ Below w.heap.size w w' := by
  have WO := hid (fun W => words_any W)
  have SA := hid (fun c (hc : c < 2 ^ 64) W => same_any c b hc hb W)
  have AB := hid (fun W => abs_any b hb W)
  have HB := hid hb
  replace hT := hid hT
  clear hb
  go_enter Tryd.func28, Tryd.ntmps28
  go_wp2_with (first
    | (go_at_call 50; go_loud (refine (WO.out _).mono ?_; rintro e w1 ⟨rfl, hown, hb1⟩))
    | (at_range; refine wpList_range_own _ rfl _ 77 rfl 9 24 (Maps.string_keyed Tryd.underlying9) Tryd.underlying77 floatElem w.heap.size 5 wordsD rfl hown ?_; intro w0 hrg0 hg0 hs0))
  go_frame
  have hz1 := hb1.size
  have hb0 : Below w.heap.size w w0 := hb1.grown hg0 hz1 (fun r e => by cases e)
  go_loopw [3, 4] (fun _ _ wr => ∃ (left : Lit → Bool) (cnt : Nat), wr.ranges Tryd.prog 9 floatElem w.heap.size w1.heap.size 5 wordsD left cnt ∧ Below w.heap.size w wr ∧ ∀ p ∈ wordsL, left (sB p.1) = false → keyI p.2 ≠ keyI b) (fun _ _ wr => wr.rangeLeft w.heap.size w1.heap.size)
  case atStart => exact ⟨_, _, hrg0, hb0, fun p hp h => by rw [has_words hp] at h; cases h⟩
  case round =>
    obtain ⟨left, cnt, hrg, hbw, hno⟩ := hrel
    have HNO := hid hno
    have HBW := hid hbw
    have hz2 := hbw.size
    clear hno hbw
    go_wp2_with (at_next; refine wpList_next_ranges _ rfl _ rfl 9 (Maps.string_keyed Tryd.underlying9) floatElem Value.string (Value.float .f64) inv_str inv_flt w.heap.size w1.heap.size 5 wordsD left cnt rfl hrg ?_ ?_)
    · intro hc0 hl0
      obtain ⟨n1, n2, n3⟩ := key_other (b := b) (fun p hp => HNO.out p hp (hl0 _))
      have hfin := text_fin n1 n2 n3
      have hlt := lt_zero n1 n2
      have hlz := ord_lt b 0
      rw [hlt] at hlz
      obtain ⟨r, hr⟩ : ∃ r, b % 2 ^ 63 = r := ⟨_, rfl⟩
      rw [hr] at AB n2 n3 hfin
      have hrep := Rep.of n2 n3
      obtain ⟨K, hK⟩ : ∃ K, fK r = K := ⟨_, rfl⟩
      obtain ⟨M, hM⟩ : ∃ M, fM r = M := ⟨_, rfl⟩
      rw [hK, hM] at hrep hfin
      obtain ⟨s, m, hm, m1, m2, HF⟩ := frexp_any hrep
      have hM0 := hrep.pos
      have hK2 := hrep.fin
      obtain ⟨t1, t2⟩ := tz_up s M hM0
      rw [← hm] at t1 t2
      have hz := tz_pow (show 0 < m by omega) m2
      have hs53 : s ≤ 53 := by omega
      have q1 : (m : Int) / 2 ^ (tz m) = (oddM m : Int) := by
        unfold oddM
        simp
      have hom : oddM m ≤ m := oddM_le m
      have hop : 0 < oddM m := by
        have := (tz_spec m (by omega)).2
        unfold oddM
        refine Nat.pos_of_ne_zero fun h => ?_
        rw [h] at this
        cases this
      obtain ⟨Z, hZ⟩ : ∃ Z, tz m = Z := ⟨_, rfl⟩
      obtain ⟨O, hO⟩ : ∃ O, oddM m = O := ⟨_, rfl⟩
      rw [← t2, hO] at hfin
      obtain ⟨e, he⟩ : ∃ e : Int, (K : Int) - s - 1021 = e := ⟨_, rfl⟩
      have e1 : (K : Int) - 1074 + tz M = e - 53 + Z := by omega
      rw [e1] at hfin
      rw [he] at HF
      have e2 : -3000 ≤ e ∧ e ≤ 3000 := by omega
      have e3 : (Z : Int) ≤ 53 := by omega
      rw [hZ, hO] at q1
      rw [hO] at hom hop
      have HTZ := hid (fun W (h : Tabs W) => tz_is m (by omega) (by omega) W h.tz)
      have HU := hid (fun W (h : Tabs W) => formatUint_any O hop (by omega) W h.dig)
      have HI := hid (fun W (h : Tabs W) => itoa_any (e - 53 + Z) (by omega) (by omega) W h.dig)
      have l1 := dec_20 (n := O) (by omega)
      have l2 := itoa_21 (n := e - 53 + Z) (by omega)
      have HLD := hid (fun W => ldexp_53 m1 m2 W)
      have HCV : ∀ W : World, (convert 24 22 (.float .f64 (1074 * 2 ^ 52 + m))).run Tryd.prog W = .ok (.int .u64 (m : Int)) W := fun W => conv_53 m1 m2 W
      rw [hZ] at HTZ
      have HFR := hid HF
      have HAB := hid AB.out
      obtain ⟨F1, hF1⟩ : ∃ F, 1021 * 2 ^ 52 + m = F := ⟨_, rfl⟩
      obtain ⟨F2, hF2⟩ : ∃ F, 1074 * 2 ^ 52 + m = F := ⟨_, rfl⟩
      rw [hF1] at HFR HLD
      rw [hF2] at HLD HCV
      have hTT : ∀ W, Below w.heap.size w W → Tabs W := fun W h => hT.out.below h (Nat.le_refl _)
      replace hTT := hid hTT
      obtain ⟨R1, hR1⟩ : ∃ R1, decDigits O = R1 := ⟨_, rfl⟩
      obtain ⟨R2, hR2⟩ : ∃ R2, itoa (e - 53 + Z) = R2 := ⟨_, rfl⟩
      rw [hR1] at HU l1 hfin; rw [hR2] at HI l2 hfin
      replace hfin := hid hfin
      obtain ⟨mi, hmi⟩ : ∃ mi : Int, (m : Int) = mi := ⟨_, rfl⟩
      rw [hmi] at q1 HTZ HCV
      clear hR1 hR2 hF1 hF2 HF AB m1 m2 hm t1 t2 hz hs53 hK2 hM0 hrep hK hM hr n1 n2 n3 hlt HNO hl0 hc0 hrg e1 he hZ hO SA WO HB hmi hT hom hop
      cases hs : sgn b
      · rw [hs] at hfin hlz
        go_wp2_with (first
          | (go_at_call 43; go_loud ((with_reducible refine (HAB.out _).mono ?_); rintro e w2 ⟨rfl, rfl⟩))
          | (go_at_call 58; go_loud ((with_reducible refine (HFR.out _).mono ?_); rintro e w2 ⟨rfl, rfl⟩))
          | (go_at_call 53; go_loud ((with_reducible refine (HLD.out _).mono ?_); rintro e w2 ⟨rfl, rfl⟩))
          | (go_at_call 59; go_loud ((with_reducible refine (HTZ.out _ (hTT.out _ HBW.out)).mono ?_); rintro e w2 ⟨rfl, rfl⟩))
          | (go_at_call 60; go_loud ((with_reducible refine (HU.out _ (hTT.out _ HBW.out)).mono ?_); rintro e w3 ⟨rfl, hw3⟩))
          | (go_at_call 61; go_loud ((with_reducible refine (HI.out _ (hTT.out _ (by have := HBW.out; (repeat' (first | (with_reducible exact Below.refl _ _) | (with_reducible assumption) | (with_reducible refine Below.new ?_ _) | (with_reducible refine Below.alloc ?_ ?_ _) | (with_reducible refine Below.drew ?_) | (with_reducible refine Below.drewN ?_ _) | (with_reducible refine Below.setCell ?_ ?_ _) | (refine Below.step ?_ (by assumption)) | go_size))))).mono ?_); rintro e w4 ⟨rfl, hw4⟩)))
        go_ret
        exact ⟨by rw [hfin.out]; exact congrArg Ending.returned (join3 R1 R2), by have := HBW.out; (repeat' (first | (with_reducible exact Below.refl _ _) | (with_reducible assumption) | (with_reducible refine Below.new ?_ _) | (with_reducible refine Below.alloc ?_ ?_ _) | (with_reducible refine Below.drew ?_) | (with_reducible refine Below.drewN ?_ _) | (with_reducible refine Below.setCell ?_ ?_ _) | (refine Below.step ?_ (by assumption)) | go_size))⟩
      · rw [hs] at hfin hlz
        go_wp2_with (first
          | (go_at_call 43; go_loud ((with_reducible refine (HAB.out _).mono ?_); rintro e w2 ⟨rfl, rfl⟩))
          | (go_at_call 58; go_loud ((with_reducible refine (HFR.out _).mono ?_); rintro e w2 ⟨rfl, rfl⟩))
          | (go_at_call 53; go_loud ((with_reducible refine (HLD.out _).mono ?_); rintro e w2 ⟨rfl, rfl⟩))
          | (go_at_call 59; go_loud ((with_reducible refine (HTZ.out _ (hTT.out _ HBW.out)).mono ?_); rintro e w2 ⟨rfl, rfl⟩))
          | (go_at_call 60; go_loud ((with_reducible refine (HU.out _ (hTT.out _ HBW.out)).mono ?_); rintro e w3 ⟨rfl, hw3⟩))
          | (go_at_call 61; go_loud ((with_reducible refine (HI.out _ (hTT.out _ (by have := HBW.out; (repeat' (first | (with_reducible exact Below.refl _ _) | (with_reducible assumption) | (with_reducible refine Below.new ?_ _) | (with_reducible refine Below.alloc ?_ ?_ _) | (with_reducible refine Below.drew ?_) | (with_reducible refine Below.drewN ?_ _) | (with_reducible refine Below.setCell ?_ ?_ _) | (refine Below.step ?_ (by assumption)) | go_size))))).mono ?_); rintro e w4 ⟨rfl, hw4⟩)))
        go_ret
        exact ⟨by rw [hfin.out]; exact congrArg Ending.returned (joinN R1 R2), by have := HBW.out; (repeat' (first | (with_reducible exact Below.refl _ _) | (with_reducible assumption) | (with_reducible refine Below.new ?_ _) | (with_reducible refine Below.alloc ?_ ?_ _) | (with_reducible refine Below.drew ?_) | (with_reducible refine Below.drewN ?_ _) | (with_reducible refine Below.setCell ?_ ?_ _) | (refine Below.step ?_ (by assumption)) | go_size))⟩
    · intro x c kl y ps w2 cnt2 hkey hlk hel hat hrg2 hlt hg2 hs2 hen
      have hy : y = .lit (.int .u64 c) := flt_of c (y, ps) hel
      rw [hy] at hat
      obtain ⟨p, hp, hkp, rfl⟩ := word_at hat
      have hkx := key_str x kl hkey
      have hx : x.data.toList = p.1 := (Lit.string.inj ((hkx.symm).trans hkp))
      have hbw2 : Below w.heap.size w w2 := HBW.out.grown hg2 hz2 (fun r e => by cases e; exact hz1)
      have S1 := hid (SA.out p.2 (words_lt hp) w2)
      have HX := hid hx; have HP := hid hp; have HK := hid hkp; have HW2 := hid hbw2
      clear hat hkx hx hbw2 hy hel hkey hp hkp
      by_cases hk : keyI p.2 = keyI b
      · have hd : decide (keyI p.2 = keyI b) = true := by simp [hk]
        rw [hd] at S1
        have HKE := hid hk
        have HTX := hid (key_text HP.out HKE.out)
        clear hd hk
        generalize p.2 = pv at *
        go_wp2_with (go_at_call 13; go_loud ((with_reducible refine S1.out.mono ?_); rintro e w3 ⟨rfl, hw3⟩))
        go_ret
        exact ⟨by rw [HTX.out, strL_of HX.out]; rfl, by have := HW2.out; (repeat' (first | (with_reducible exact Below.refl _ _) | (with_reducible assumption) | (with_reducible refine Below.new ?_ _) | (with_reducible refine Below.alloc ?_ ?_ _) | (with_reducible refine Below.drew ?_) | (with_reducible refine Below.drewN ?_ _) | (with_reducible refine Below.setCell ?_ ?_ _) | (refine Below.step ?_ (by assumption)) | go_size))⟩
      · have hd : decide (keyI p.2 = keyI b) = false := by simp [hk]
        rw [hd] at S1
        have HKE := hid hk
        clear hd hk
        go_wp2_with (go_at_call 13; go_loud ((with_reducible refine S1.out.mono ?_); rintro e w3 ⟨rfl, hw3⟩))
        go_roundw
        case rel =>
          refine ⟨_, cnt2, hrg2.kept (below_none hw3) (by simp) (by simp), by have := HW2.out; (repeat' (first | (with_reducible exact Below.refl _ _) | (with_reducible assumption) | (with_reducible refine Below.new ?_ _) | (with_reducible refine Below.alloc ?_ ?_ _) | (with_reducible refine Below.drew ?_) | (with_reducible refine Below.drewN ?_ _) | (with_reducible refine Below.setCell ?_ ?_ _) | (refine Below.step ?_ (by assumption)) | go_size)), fun q hq h => ?_⟩
          cases hlq : left (sB q.1)
          · exact HNO.out q hq hlq
          · rw [hlq] at h
            have hsk : (sB q.1).sameKey kl = true := by simpa using h
            have hqk := WideAt.sameKey_eq hsk
            rw [HK.out] at hqk
            have hqp : q.1 = p.1 := Lit.string.inj hqk
            have : q.2 = p.2 := words_fun hq HP.out hqp
            rw [this]
            exact HKE.out
        case measure => rw [(hrg2.kept (below_none hw3) (by simp) (by simp)).left_eq, hrg.left_eq]; exact hlt
end Go.Proofs.YtcdfbcmhikhnjaaDoor
