/- Ratio: the reference's 'Of' and 'Float'. -/
import Derived.Test.YtcdfbcmhikhnjaaDoorRtG
import Derived.Test.YtcdfbcmhikhnjaaDoorFlR
namespace Go.Proofs.YtcdfbcmhikhnjaaDoor
set_option linter.unusedVariables false
set_option linter.unusedSimpArgs false
set_option maxRecDepth 100000
open Go.ChangeShapes Go.WideShapes Go.ChangeAt Go.RowKit Go.Fl
attribute [local go_sem] frombits_lit Int.toNat_natCast

theorem row_at {w : World} {base : Nat} {e : TypeId} {v : Value} {n : Nat} {xs : List Value} (h : w.ownsRow base e 1 v n xs) (h0 : 0 < n) :
    ∃ b o cap, v = .slice (some ⟨b, o, none⟩) n cap ∧ n ≤ cap ∧ ∀ j u, xs[j]? = some u → w.cell? ⟨b, o + j, none⟩ = some u := by
  have hk := h
  rcases h.2 with ⟨rfl, h0'⟩ | ⟨g, cap, cur, rfl, _, _, h3, h4, _, _⟩
  · omega
  · refine ⟨g, 0, cap, rfl, h3, fun j u hj => ?_⟩
    have hjl : j < xs.length := (List.getElem?_eq_some_iff.1 hj).1
    rw [show 0 + j = j from Nat.zero_add j, hk.cellAt j (by rw [← h.1]; exact hjl), hj]
theorem digI_get {A j : Nat} (hj : j < 128) : (digI (dig 128 A))[j]? = some (.int .i64 ((bitAt A j : Nat) : Int)) := by
  unfold digI bitAt
  rw [List.getElem?_map, dig_get 128 A j hj, if_pos hj]
  rfl
set_option maxHeartbeats 2000000 in
theorem rof_zero (n : Nat) (hn : 0 < n) (hn2 : n ≤ 20000000000) (w : World) :
    Calls Tryd.prog 17 #[(Value.agg #[.int .i64 (hiW (0)), .int .u64 (loW (0))]), .int .i64 (n : Int)] w fun e w' => e = .returned (.tuple #[.float .f64 0, .int .i64 0]) ∧ Below w.heap.size w w' := by
  have HD := hid (fun W => rdigits_any 0 (by decide) W)
  rw [show hiW 0 = 0 by decide, show loW 0 = 0 by decide] at HD ⊢
  have HG := hid (fun j (hj : j < 128) => (show (digI (dig 128 (Int.natAbs 0)))[j]? = some (.int .i64 0) by
    rw [digI_get hj]
    unfold bitAt
    simp))
  generalize digI (dig 128 (Int.natAbs 0)) = DD at *
  have t1 : (0 : Int).tdiv (n : Int) = 0 := by simp
  have t2 : (0 : Int).tmod (n : Int) = 0 := by simp
  have hn' : ¬ (n : Int) = 0 := by omega
  go_enter Tryd.func17, Tryd.ntmps17
  go_wp2_with (go_at_call 44; go_loud ((with_reducible refine (HD.out _).mono ?_); rintro e w1 ⟨v, rfl, hown, hw1⟩; obtain ⟨b, o, cap, rfl, hcap, hc⟩ := row_at hown (by decide)))
  have HC := hid (fun j hj => hc j _ (HG.out j hj))
  clear hc hown HG HD
  go_loopw [7, 8, 9, 10] (fun m r e i wr => ∃ k : Nat, k ≤ 401 ∧ m = .int .u64 0 ∧ r = .int .i64 0 ∧ i = .int .i64 (k : Int) ∧ wr = w1) (fun _ _ _ i _ => 402 - (intOf i).toNat)
  case atStart => exact ⟨0, by omega, rfl, rfl, rfl, rfl⟩
  case round =>
    obtain ⟨k, hk, rfl, rfl, rfl, rfl⟩ := hrel
    rcases Nat.lt_or_ge k 128 with h1 | h1
    · have e0 := HC.out k h1
      go_wp2
      go_roundw
      case rel => exact ⟨k + 1, by omega, rfl, rfl, by go_num, trivial⟩
      case measure => simp [intOf]; omega
    · have h1' : 128 ≤ (k : Int) := by omega
      by_cases h2 : k = 401
      · subst h2
        go_wp2
        ((show bodyPost _ _ _ _ _ _); refine bodyPost_ret (by simp only [results, Tryd.results17]; go_simp; try rfl) rfl ?_)
        exact ⟨rfl, by (repeat' (first | (with_reducible exact Below.refl _ _) | (with_reducible assumption) | (with_reducible refine Below.new ?_ _) | (with_reducible refine Below.alloc ?_ ?_ _) | (with_reducible refine Below.drew ?_) | (with_reducible refine Below.drewN ?_ _) | (with_reducible refine Below.setCell ?_ ?_ _) | (refine Below.step ?_ (by assumption)) | go_size))⟩
      · have h2' : k < 401 := by omega
        go_wp2
        go_roundw
        case rel => exact ⟨k + 1, by omega, rfl, rfl, by go_num, trivial⟩
        case measure => simp [intOf]; omega
set_option maxHeartbeats 4000000 in
theorem rof_main (a : Int) (ha : I128 a) (ha0 : a ≠ 0) (n : Nat) (hn : 0 < n) (hn2 : n ≤ 20000000000) (w : World) :
    Calls Tryd.prog 17 #[(Value.agg #[.int .i64 (hiW (a)), .int .u64 (loW (a))]), .int .i64 (n : Int)] w fun e w' => e = .returned (.tuple #[.float .f64 (Ieee.double.word (decide (a < 0)) (ofR a.natAbs n)), .int .i64 0]) ∧ Below w.heap.size w w' := by
  obtain ⟨A, hA⟩ : ∃ A, a.natAbs = A := ⟨_, rfl⟩
  have hA0 : 0 < A := by omega
  have hA2 : A < 2 ^ 128 := by omega
  have HD := hid (fun W => rdigits_any a ha W)
  have HN := hid (fun W => rneg_any (hiW a) (loW a) W)
  rw [hi_neg ha] at HN
  rw [hA] at HD ⊢
  clear hA ha ha0
  generalize decide (a < 0) = neg at *
  generalize hiW a = H at *; generalize loW a = L at *
  obtain ⟨s1, s2, s3, s4⟩ := theI_spec hA0 hA2 hn (show n < 2 ^ 35 by omega)
  have s5 := quo_top hA0 hA2 hn (show n < 2 ^ 35 by omega)
  obtain ⟨I, hI⟩ : ∃ I, theI A n = I := ⟨_, rfl⟩
  have hof : ofR A n = (1202 - I) * 2 ^ 52 + (quo A n I + (upB A n I).toNat) := by unfold ofR; rw [hI]
  rw [hI] at s1 s2 s3 s4 s5
  rw [hof]
  obtain ⟨Z, hZ⟩ : ∃ Z, Ieee.double.word neg ((1202 - I) * 2 ^ 52 + (quo A n I + (upB A n I).toNat)) = Z := ⟨_, rfl⟩
  rw [hZ]
  have HZ := hid hZ
  clear hZ
  have HG := hid (fun j (hj : j < 128) => digI_get (A := A) hj)
  have HQ0 : Hid (quo A n 0 = 0 ∧ topA A 0 % n = 0) := by
    unfold Hid
    rw [quo_topA, topA_zero hA2]
    simp
  have HQS := hid (fun k => quo_last (A := A) hn k)
  have HUP := hid (upB_is (A := A) hn I)
  have HBT := hid (fun k => bitAt_lt A k)
  have HLL := hid (fun k => lastA_lt (A := A) (i := k) hn)
  have HLE : Hid (leftA A I ≤ 128) := by
    unfold Hid leftA
    have := sumD_le A (127 - I)
    split <;> omega
  have HS1 := hid s1; have HS2 := hid s2; have HS5 := hid s5
  clear hI hof hA0 hA2 s1 s2 s5
  generalize digI (dig 128 A) = DD at *
  have hn' : ¬ (n : Int) = 0 := by omega
  go_enter Tryd.func17, Tryd.ntmps17
  go_wp2_with (go_at_call 44; go_loud ((with_reducible refine (HD.out _).mono ?_); rintro e w1 ⟨v, rfl, hown, hw1⟩; obtain ⟨b, o, cap, rfl, hcap, hc⟩ := row_at hown (by decide)))
  have HC := hid (fun j hj => hc j _ (HG.out j hj))
  have s0 : (w.alloc (.cells #[.int .i64 H, .int .u64 L] 30)).cell? ⟨w.heap.size, 0, none⟩ = some (.int .i64 H) := by go_simp
  have s1 : (w.alloc (.cells #[.int .i64 H, .int .u64 L] 30)).cell? ⟨w.heap.size, 1, none⟩ = some (.int .u64 L) := by go_simp
  have e0 := cell_step s0 hw1; have e1 := cell_step s1 hw1
  clear hc hown HG HD s0 s1
  go_loopw [7, 8, 9, 10] (fun m r e i wr => ∃ k : Nat, k ≤ I ∧ m = .int .u64 (quo A n k : Nat) ∧ r = .int .i64 (topA A k % n : Nat) ∧ (0 < k → e = .int .i64 (128 - (k : Int))) ∧ i = .int .i64 (k : Int) ∧ wr = w1) (fun _ _ _ i _ => I - (intOf i).toNat)
  case atStart => exact ⟨0, by omega, by rw [HQ0.out.1]; rfl, by rw [HQ0.out.2]; rfl, fun h => absurd h (by omega), rfl, rfl⟩
  case round =>
    obtain ⟨k, hk, rfl, rfl, he, rfl, rfl⟩ := hrel
    have hmod : topA A k % n < n := Nat.mod_lt _ hn
    obtain ⟨q1, q2⟩ := HQS.out k
    have q3 := HBT.out k
    have q4 : lastA A n k = 2 * (topA A k % n) + bitAt A k := rfl
    have q5 := HLL.out k
    obtain ⟨X, hX⟩ : ∃ X, lastA A n k = X := ⟨_, rfl⟩
    rw [hX] at q1 q2 q4 q5
    have HX := hid hX
    obtain ⟨r, hr⟩ : ∃ r, topA A k % n = r := ⟨_, rfl⟩
    have HR := hid hr
    rw [hr] at hmod q4 ⊢
    by_cases hlt : k < I
    · have hm : quo A n k < 4503599627370496 := HS2.out k hlt
      obtain ⟨m, hM⟩ : ∃ m, quo A n k = m := ⟨_, rfl⟩
      rw [hM] at hm q1 ⊢
      obtain ⟨c, hc⟩ : ∃ c, X / n = c := ⟨_, rfl⟩
      have hc2 : c < 2 := by rw [← hc]; exact Nat.div_lt_of_lt_mul (by omega)
      obtain ⟨t, ht⟩ : ∃ t, X % n = t := ⟨_, rfl⟩
      rw [hc] at q1; rw [ht] at q2
      obtain ⟨mi, hmi⟩ : ∃ mi : Int, (m : Int) = mi := ⟨_, rfl⟩
      have hm1 : 0 ≤ mi := by omega
      have hm2 : mi < 4503599627370496 := by omega
      have Q1 : Hid (((quo A n (k + 1) : Nat) : Int) = 2 * mi + (c : Int)) := by unfold Hid; omega
      rw [hmi]
      have t1 : (X : Int).tdiv (n : Int) = (c : Int) := by rw [← hc]; rfl
      have t2 : (X : Int).tmod (n : Int) = (t : Int) := by rw [← ht]; rfl
      have t3 : (X : Int) / (n : Int) = (c : Int) := by rw [← hc]; rfl
      have t4 : (X : Int) % (n : Int) = (t : Int) := by rw [← ht]; rfl
      have Q2 := hid q2
      have hk2 : k < 215 := by omega
      clear he hX hr hM hc ht q1 q2 hk hm hmi
      rcases Nat.lt_or_ge k 128 with h1 | h1
      · have ec := HC.out k h1
        obtain ⟨d, hd⟩ : ∃ d, bitAt A k = d := ⟨_, rfl⟩
        rw [hd] at ec q3 q4
        clear hd
        have p1 : 2 * (r : Int) + (d : Int) = (X : Int) := by omega
        clear q4
        go_wp2
        go_roundw
        case rel => exact ⟨k + 1, by omega, by rw [Q1.out], by rw [Q2.out], by go_num, by go_num, trivial⟩
        case measure => simp [intOf]; omega
      · have h1' : 128 ≤ (k : Int) := by omega
        have hd : bitAt A k = 0 := by unfold bitAt; rw [if_neg (by omega)]
        rw [hd] at q4
        have p1 : 2 * (r : Int) = (X : Int) := by omega
        clear hd q4
        go_wp2
        go_roundw
        case rel => exact ⟨k + 1, by omega, by rw [Q1.out], by rw [Q2.out], by go_num, by go_num, trivial⟩
        case measure => simp [intOf]; omega
    · obtain rfl : k = I := by omega
      have he2 := he (by omega)
      subst he2
      have m1 := HS1.out; have m2 := HS5.out
      have hup := HUP.out
      rw [HX.out] at hup
      have HLF := hid (show leftA A k = if k < 128 then sumD A (127 - k) else 0 from rfl)
      have hle := HLE.out
      have hz := HZ.out
      obtain ⟨lf, hlf⟩ : ∃ lf, leftA A k = lf := ⟨_, rfl⟩
      rw [hlf] at hle hup HLF
      obtain ⟨u, hu⟩ : ∃ u, upB A n k = u := ⟨_, rfl⟩
      rw [hu] at hz hup
      have hu1 : u.toNat ≤ 1 := by cases u <;> decide
      have B1 := fun (h : quo A n k + u.toNat < 2 ^ 53) W => rbits_any neg (1203 - k) (quo A n k + u.toNat) (by omega) (by omega) (by omega) h W
      rw [show 1203 - k - 1 = 1202 - k by omega, hz, show ((1203 - k : Nat) : Int) - 1075 = 128 - (k : Int) by omega] at B1
      have B2 : quo A n k + u.toNat = 2 ^ 53 → ∀ W, Calls Tryd.prog 45 #[.bool neg, .int .u64 4503599627370496, .int .i64 (129 - (k : Int))] W fun e w' => e = .returned (.int .u64 (Z : Int)) ∧ w' = W := fun h W => by
        have := rbits_any neg (1204 - k) (2 ^ 52) (by omega) (by omega) (by decide) (by decide) W
        rw [show (1204 - k - 1) * 2 ^ 52 + 2 ^ 52 = (1202 - k) * 2 ^ 52 + (quo A n k + u.toNat) by rw [h]; omega, hz, show ((1204 - k : Nat) : Int) - 1075 = 129 - (k : Int) by omega] at this
        exact this
      obtain ⟨mi, hmi⟩ : ∃ mi : Int, ((quo A n k : Nat) : Int) = mi := ⟨_, rfl⟩
      have hm1 : 4503599627370496 ≤ mi := by omega
      have hm2 : mi < 9007199254740992 := by omega
      have hB : ((quo A n k + u.toNat : Nat) : Int) = mi + (u.toNat : Int) := by omega
      rw [hB] at B1
      replace B1 := hid (fun (h : mi + (u.toNat : Int) < 9007199254740992) W => B1 (by omega) W)
      replace B2 := hid (fun (h : mi + (u.toNat : Int) = 9007199254740992) W => B2 (by omega) W)
      have hodd : decide (quo A n k % 2 = 1) = decide (mi % 2 = 1) := by rw [Bool.eq_iff_iff]; simp; omega
      rw [hodd] at hup
      rw [hmi]
      replace hup := hid hup
      have Q4 := hid q4
      clear he hX hr m1 m2 q1 q2 hk hlt hB hodd hmi hz hu HUP HS1 HS2 HS5 HZ HLE HQ0 HQS q4
      obtain ⟨V, rfl⟩ : ∃ V, V = wr := ⟨_, rfl⟩
      go_upto_if 68 with fail
      go_cut [11, 12] (fun s11 s12 wx => s11 = .int .i64 (X : Int) ∧ s12 = .int .i64 (lf : Int) ∧ wx = V)
      case first =>
        clear B1 B2 hup
        rcases Nat.lt_or_ge k 128 with h1 | h1
        · have ec := HC.out k h1
          have q4 := Q4.out
          obtain ⟨d, hd⟩ : ∃ d, bitAt A k = d := ⟨_, rfl⟩
          rw [hd] at ec q3 q4
          clear hd
          have p1 : 2 * (r : Int) + (d : Int) = (X : Int) := by omega
          have p2 : 128 - (128 - (k : Int)) = (k : Int) := by omega
          have p3 : IntKind.i64.wrap (128 - (128 - (k : Int)) + 1) = ((k + 1 : Nat) : Int) := by simp only [IntKind.wrap_i64]; omega
          have hlf2 : sumD A (127 - k) = lf := by have := HLF.out; rw [if_pos h1] at this; exact this.symm
          have HL2 := hid hlf2
          clear q4 HLF hlf2
          go_wp2
          go_loopw [12, 13] (fun l i wr => ∃ j S : Nat, k + 1 ≤ j ∧ j ≤ 128 ∧ l = .int .i64 (S : Int) ∧ i = .int .i64 (j : Int) ∧ S + sumD A (128 - j) = lf ∧ wr = V) (fun _ i _ => 128 - (intOf i).toNat)
          case atStart => exact ⟨k + 1, 0, by omega, by omega, rfl, by go_num, by rw [← HL2.out, Nat.zero_add]; congr 1; omega, rfl⟩
          case round =>
            obtain ⟨j, S, hj1, hj2, rfl, rfl, hS, rfl⟩ := hrel
            rcases Nat.lt_or_ge j 128 with h2 | h2
            · have ej := HC.out j h2
              have hSS : S + (bitAt A j + sumD A (127 - j)) = lf := by
                rw [← hS]
                unfold bitAt
                rw [if_pos h2, show 128 - j = 127 - j + 1 by omega, sumD]
              obtain ⟨d2, hd2⟩ : ∃ d2, bitAt A j = d2 := ⟨_, rfl⟩
              rw [hd2] at ej hSS
              have HSS := hid hSS
              have hS2 : S ≤ 128 := by omega
              have hd3 : d2 ≤ 128 := by omega
              clear hS hSS hd2
              go_wp2
              go_roundw
              case rel => exact ⟨j + 1, S + d2, by omega, by omega, by go_num, by go_num, by have := HSS.out; rw [show 128 - (j + 1) = 127 - j by omega]; omega, trivial⟩
              case measure => simp [intOf]; omega
            · have h3 : 128 ≤ (j : Int) := by omega
              have hS' : S = lf := by rw [show 128 - j = 0 by omega, sumD] at hS; omega
              subst hS'
              clear hS
              go_wp2
              go_meet
              case rel => exact ⟨rfl, rfl, rfl⟩
        · have h1' : 128 ≤ (k : Int) := by omega
          have hlf2 : lf = 0 := by have := HLF.out; rw [if_neg (by omega)] at this; exact this
          have hd : bitAt A k = 0 := by unfold bitAt; rw [if_neg (by omega)]
          have q4 := Q4.out
          rw [hd] at q4
          have p1 : 2 * (r : Int) = (X : Int) := by omega
          subst hlf2
          clear hd q4 HLF
          go_wp2
          go_meet
          case rel => exact ⟨by rw [p1], rfl, rfl⟩
      case rest =>
        obtain ⟨rfl, rfl, rfl⟩ := hcut
        clear HC HBT HLL HX HR Q4 HLF
        rcases Nat.lt_trichotomy n X with h | h | h
        · have hu : u = true := by rw [hup.out]; simp [h]
          subst hu
          have h' : (n : Int) < (X : Int) := by omega
          simp only [Bool.toNat_true, Int.natCast_one] at B1 B2
          rcases Int.lt_or_le (mi + 1) 9007199254740992 with hb | hb
          · have BB := hid (fun W => B1.out hb W)
            have hb' : ¬ mi + 1 = 9007199254740992 := by omega
            clear B1 B2 hup
            go_wp2_with (first
              | (go_at_call 46; go_loud ((with_reducible refine (HN.out _).mono ?_); rintro e w3 ⟨rfl, hw3⟩))
              | (go_at_call 45; go_loud ((with_reducible refine (BB.out _).mono ?_); rintro e w4 ⟨rfl, rfl⟩)))
            ((show bodyPost _ _ _ _ _ _); refine bodyPost_ret (by simp only [results, Tryd.results17]; go_simp; try rfl) rfl ?_)
            exact ⟨rfl, by (repeat' (first | (with_reducible exact Below.refl _ _) | (with_reducible assumption) | (with_reducible refine Below.new ?_ _) | (with_reducible refine Below.alloc ?_ ?_ _) | (with_reducible refine Below.drew ?_) | (with_reducible refine Below.drewN ?_ _) | (with_reducible refine Below.setCell ?_ ?_ _) | (refine Below.step ?_ (by assumption)) | go_size))⟩
          · have hb' : mi + 1 = 9007199254740992 := by omega
            have BB := hid (fun W => B2.out hb' W)
            have p5 : 128 - (k : Int) + 1 = 129 - (k : Int) := by omega
            clear B1 B2 hup
            go_wp2_with (first
              | (go_at_call 46; go_loud ((with_reducible refine (HN.out _).mono ?_); rintro e w3 ⟨rfl, hw3⟩))
              | (go_at_call 45; go_loud ((with_reducible refine (BB.out _).mono ?_); rintro e w4 ⟨rfl, rfl⟩)))
            ((show bodyPost _ _ _ _ _ _); refine bodyPost_ret (by simp only [results, Tryd.results17]; go_simp; try rfl) rfl ?_)
            exact ⟨rfl, by (repeat' (first | (with_reducible exact Below.refl _ _) | (with_reducible assumption) | (with_reducible refine Below.new ?_ _) | (with_reducible refine Below.alloc ?_ ?_ _) | (with_reducible refine Below.drew ?_) | (with_reducible refine Below.drewN ?_ _) | (with_reducible refine Below.setCell ?_ ?_ _) | (refine Below.step ?_ (by assumption)) | go_size))⟩
        · subst h
          rcases Nat.eq_zero_or_pos lf with hl | hl
          · subst hl
            have hmn : 0 ≤ mi := by omega
            have htt : mi.tmod 2 = mi % 2 := Int.tmod_eq_emod_of_nonneg hmn
            rcases (show mi % 2 = 0 ∨ mi % 2 = 1 by omega) with hmm | hmm
            · have hu : u = false := by rw [hup.out]; simp [hmm]
              subst hu
              rw [hmm] at htt
              have hb' : ¬ mi = 9007199254740992 := by omega
              have BB := hid (fun W => B1.out (by simpa using hm2) W)
              rw [show mi + ((false.toNat : Nat) : Int) = mi by simp] at BB
              clear B1 B2 hup
              go_wp2_with (first
                | (go_at_call 46; go_loud ((with_reducible refine (HN.out _).mono ?_); rintro e w3 ⟨rfl, hw3⟩))
                | (go_at_call 45; go_loud ((with_reducible refine (BB.out _).mono ?_); rintro e w4 ⟨rfl, rfl⟩)))
              ((show bodyPost _ _ _ _ _ _); refine bodyPost_ret (by simp only [results, Tryd.results17]; go_simp; try rfl) rfl ?_)
              exact ⟨rfl, by (repeat' (first | (with_reducible exact Below.refl _ _) | (with_reducible assumption) | (with_reducible refine Below.new ?_ _) | (with_reducible refine Below.alloc ?_ ?_ _) | (with_reducible refine Below.drew ?_) | (with_reducible refine Below.drewN ?_ _) | (with_reducible refine Below.setCell ?_ ?_ _) | (refine Below.step ?_ (by assumption)) | go_size))⟩
            · have hu : u = true := by rw [hup.out]; simp [hmm]
              subst hu
              rw [hmm] at htt
              simp only [Bool.toNat_true, Int.natCast_one] at B1 B2
              rcases Int.lt_or_le (mi + 1) 9007199254740992 with hb | hb
              · have BB := hid (fun W => B1.out hb W)
                have hb' : ¬ mi + 1 = 9007199254740992 := by omega
                clear B1 B2 hup
                go_wp2_with (first
                  | (go_at_call 46; go_loud ((with_reducible refine (HN.out _).mono ?_); rintro e w3 ⟨rfl, hw3⟩))
                  | (go_at_call 45; go_loud ((with_reducible refine (BB.out _).mono ?_); rintro e w4 ⟨rfl, rfl⟩)))
                ((show bodyPost _ _ _ _ _ _); refine bodyPost_ret (by simp only [results, Tryd.results17]; go_simp; try rfl) rfl ?_)
                exact ⟨rfl, by (repeat' (first | (with_reducible exact Below.refl _ _) | (with_reducible assumption) | (with_reducible refine Below.new ?_ _) | (with_reducible refine Below.alloc ?_ ?_ _) | (with_reducible refine Below.drew ?_) | (with_reducible refine Below.drewN ?_ _) | (with_reducible refine Below.setCell ?_ ?_ _) | (refine Below.step ?_ (by assumption)) | go_size))⟩
              · have hb' : mi + 1 = 9007199254740992 := by omega
                have BB := hid (fun W => B2.out hb' W)
                have p5 : 128 - (k : Int) + 1 = 129 - (k : Int) := by omega
                clear B1 B2 hup
                go_wp2_with (first
                  | (go_at_call 46; go_loud ((with_reducible refine (HN.out _).mono ?_); rintro e w3 ⟨rfl, hw3⟩))
                  | (go_at_call 45; go_loud ((with_reducible refine (BB.out _).mono ?_); rintro e w4 ⟨rfl, rfl⟩)))
                ((show bodyPost _ _ _ _ _ _); refine bodyPost_ret (by simp only [results, Tryd.results17]; go_simp; try rfl) rfl ?_)
                exact ⟨rfl, by (repeat' (first | (with_reducible exact Below.refl _ _) | (with_reducible assumption) | (with_reducible refine Below.new ?_ _) | (with_reducible refine Below.alloc ?_ ?_ _) | (with_reducible refine Below.drew ?_) | (with_reducible refine Below.drewN ?_ _) | (with_reducible refine Below.setCell ?_ ?_ _) | (refine Below.step ?_ (by assumption)) | go_size))⟩
          · have hu : u = true := by rw [hup.out]; simp [hl]
            subst hu
            have hl' : 0 < (lf : Int) := by omega
            simp only [Bool.toNat_true, Int.natCast_one] at B1 B2
            rcases Int.lt_or_le (mi + 1) 9007199254740992 with hb | hb
            · have BB := hid (fun W => B1.out hb W)
              have hb' : ¬ mi + 1 = 9007199254740992 := by omega
              clear B1 B2 hup
              go_wp2_with (first
                | (go_at_call 46; go_loud ((with_reducible refine (HN.out _).mono ?_); rintro e w3 ⟨rfl, hw3⟩))
                | (go_at_call 45; go_loud ((with_reducible refine (BB.out _).mono ?_); rintro e w4 ⟨rfl, rfl⟩)))
              ((show bodyPost _ _ _ _ _ _); refine bodyPost_ret (by simp only [results, Tryd.results17]; go_simp; try rfl) rfl ?_)
              exact ⟨rfl, by (repeat' (first | (with_reducible exact Below.refl _ _) | (with_reducible assumption) | (with_reducible refine Below.new ?_ _) | (with_reducible refine Below.alloc ?_ ?_ _) | (with_reducible refine Below.drew ?_) | (with_reducible refine Below.drewN ?_ _) | (with_reducible refine Below.setCell ?_ ?_ _) | (refine Below.step ?_ (by assumption)) | go_size))⟩
            · have hb' : mi + 1 = 9007199254740992 := by omega
              have BB := hid (fun W => B2.out hb' W)
              have p5 : 128 - (k : Int) + 1 = 129 - (k : Int) := by omega
              clear B1 B2 hup
              go_wp2_with (first
                | (go_at_call 46; go_loud ((with_reducible refine (HN.out _).mono ?_); rintro e w3 ⟨rfl, hw3⟩))
                | (go_at_call 45; go_loud ((with_reducible refine (BB.out _).mono ?_); rintro e w4 ⟨rfl, rfl⟩)))
              ((show bodyPost _ _ _ _ _ _); refine bodyPost_ret (by simp only [results, Tryd.results17]; go_simp; try rfl) rfl ?_)
              exact ⟨rfl, by (repeat' (first | (with_reducible exact Below.refl _ _) | (with_reducible assumption) | (with_reducible refine Below.new ?_ _) | (with_reducible refine Below.alloc ?_ ?_ _) | (with_reducible refine Below.drew ?_) | (with_reducible refine Below.drewN ?_ _) | (with_reducible refine Below.setCell ?_ ?_ _) | (refine Below.step ?_ (by assumption)) | go_size))⟩
        · have hu : u = false := by rw [hup.out]; simp; omega
          subst hu
          have h' : (X : Int) < (n : Int) := by omega
          have h'' : ¬ (X : Int) = (n : Int) := by omega
          have hb' : ¬ mi = 9007199254740992 := by omega
          have BB := hid (fun W => B1.out (by simpa using hm2) W)
          rw [show mi + ((false.toNat : Nat) : Int) = mi by simp] at BB
          clear B1 B2 hup
          go_wp2_with (first
            | (go_at_call 46; go_loud ((with_reducible refine (HN.out _).mono ?_); rintro e w3 ⟨rfl, hw3⟩))
            | (go_at_call 45; go_loud ((with_reducible refine (BB.out _).mono ?_); rintro e w4 ⟨rfl, rfl⟩)))
          ((show bodyPost _ _ _ _ _ _); refine bodyPost_ret (by simp only [results, Tryd.results17]; go_simp; try rfl) rfl ?_)
          exact ⟨rfl, by (repeat' (first | (with_reducible exact Below.refl _ _) | (with_reducible assumption) | (with_reducible refine Below.new ?_ _) | (with_reducible refine Below.alloc ?_ ?_ _) | (with_reducible refine Below.drew ?_) | (with_reducible refine Below.drewN ?_ _) | (with_reducible refine Below.setCell ?_ ?_ _) | (refine Below.step ?_ (by assumption)) | go_size))⟩
end Go.Proofs.YtcdfbcmhikhnjaaDoor
