/- Packed lists: the walk of PackedMakes. -/
import Derived.Test.YtpgifmccajcgkaaDoorPkS
namespace Go.Proofs.YtpgifmccajcgkaaDoor
set_option linter.unusedVariables false
set_option linter.unusedSimpArgs false
open Go.ChangeShapes Go.WideShapes Go.ChangeAt Go.RowKit Go.Joins

set_option maxRecDepth 100000 in
set_option maxHeartbeats 8000000 in
theorem pmakes_core (ao : Option Addr) (L cap : Nat) (ys : List Int) (s : ByteArray) (hs : s.size ≤ 9223372036854775807) (p : Int) (W : World) (am an : Addr) (hr : RowAt W ao ys) (hM : ys.length ≤ 1010) (h1 : ys.length ≤ cap) (h2' : cap ≤ maxLen)
    (h3 : ao = none → cap = 0) (h4 : ∀ k, k < ys.length → I64 (ys[k]?.getD 0)) (HF : Hid (∀ w, Calls Tryd.prog 32 #[.slice ao L cap] w fun e w' => e = .returned (.slice ao ys.length cap) ∧ w = w')) (hS : Sent am an W) :
    Calls Tryd.prog 8 #[.slice ao L cap, .string s, .int .i64 p] W fun e w' => e = .returned (.bool true) ∧ Below W.heap.size W w' := by
  have HS := hid hS
  have HSH := hid (pshown_any am an W hS)
  have HC := hid (fun w => pcut_any s hs w)
  obtain ⟨t, ht⟩ : ∃ t, s.extract 0 (min s.size 2010) = t := ⟨_, rfl⟩
  have htz : t.size ≤ 2010 := by rw [← ht]; simp; omega
  rw [ht] at HC
  have HK := hid (fun w (h : Below W.heap.size W w) => ppack_is _ ys w ((hr.below h).slice h1 h2' h3) (by omega) (Nat.lt_of_lt_of_le hS.pos h.size))
  have HRK := hid (fun w (h : Below W.heap.size W w) => refPack_is ao cap ys w (hr.below h) (by omega) h4)
  have HW := hid (fun w (h : Below W.heap.size W w) => width_is _ ys w ((hr.below h).slice h1 h2' h3) (by omega))
  have HRW := hid (fun w (h : Below W.heap.size W w) => refWidth_any ao cap ys w (hr.below h) (by omega) h4)
  obtain ⟨pb, pc, hp⟩ : ∃ b c, ppackV ys = (b, c) := ⟨_, _, rfl⟩
  obtain ⟨wn, wc, hw⟩ : ∃ b c, widthV ys = (b, c) := ⟨_, _, rfl⟩
  rw [hp] at HK HRK
  rw [hw] at HW HRW
  obtain ⟨sp, hsp⟩ : ∃ sp : ByteArray, strV pb = .string sp := ⟨⟨pb.toArray⟩, rfl⟩
  simp only [hsp] at HK HRK
  simp only at HW HRW
  generalize (pc : Int) = pc at HK HRK
  generalize (wn : Int) = wn at HW HRW
  generalize (wc : Int) = wc at HW HRW
  obtain ⟨C, xs, T, hv⟩ : ∃ C L T, punV (bytesOf t) = (C, L, T) := ⟨_, _, _, rfl⟩
  have HU := hid (fun w h => punpack_is am an t (by omega) hv w h)
  have HRU := hid (fun w => rpunpack_is t (by omega) hv w)
  obtain ⟨hxl, hxs⟩ := pun_len hv
  obtain ⟨n, c, hat⟩ : ∃ n c, atV C xs p = (n, c) := ⟨_, _, rfl⟩
  have HA := hid (fun w h => at_is am an t (by omega) hv p w h n c hat)
  generalize t.extract T t.size = r at HU HRU
  have HI := hid (fun va vb w (ha : IntsAt w va (intsOf xs)) (hb : IntsAt w vb (intsOf xs)) => ints_any va vb (intsOf xs) (intsOf xs) w ha hb (by rw [intsOf_length]; omega) (by rw [intsOf_length]; omega))
  simp only [decide_true] at HI
  clear hS hr h1 h3 h4 hp hw hsp hv ht hxs hs
  by_cases hC : C = 0
  · subst hC
    by_cases q1 : p < 0
    · obtain ⟨rfl, rfl⟩ : n = 0 ∧ c = 40 := by simp [atV, q1] at hat; omega
      clear hat
      go_enter Tryd.func8, Tryd.ntmps8
      go_wp2_with (first
        | (go_at_call 30; ((with_reducible refine (HSH.out).mono ?_); rintro e w1 ⟨rfl, hb1⟩))
        | (go_at_call 32; ((with_reducible refine (HF.out _).mono ?_); rintro e w2 ⟨rfl, rfl⟩))
        | (go_at_call 31; ((with_reducible refine (HK.out _ (by (repeat' (first | (with_reducible exact Below.refl _ _) | (with_reducible assumption) | (with_reducible refine Below.new ?_ _) | (with_reducible refine Below.alloc ?_ ?_ _) | (with_reducible refine Below.drew ?_) | (with_reducible refine Below.setCell ?_ ?_ _) | (refine Below.step ?_ (by assumption)) | go_size)))).mono ?_); rintro e w3 ⟨rfl, hb3⟩))
        | (go_at_call 33; ((with_reducible refine (HRK.out _ (by (repeat' (first | (with_reducible exact Below.refl _ _) | (with_reducible assumption) | (with_reducible refine Below.new ?_ _) | (with_reducible refine Below.alloc ?_ ?_ _) | (with_reducible refine Below.drew ?_) | (with_reducible refine Below.setCell ?_ ?_ _) | (refine Below.step ?_ (by assumption)) | go_size)))).mono ?_); rintro e w4 ⟨rfl, hb4⟩))
        | (go_at_call 34; ((with_reducible refine (HW.out _ (by (repeat' (first | (with_reducible exact Below.refl _ _) | (with_reducible assumption) | (with_reducible refine Below.new ?_ _) | (with_reducible refine Below.alloc ?_ ?_ _) | (with_reducible refine Below.drew ?_) | (with_reducible refine Below.setCell ?_ ?_ _) | (refine Below.step ?_ (by assumption)) | go_size)))).mono ?_); rintro e w5 ⟨rfl, hb5⟩))
        | (go_at_call 35; ((with_reducible refine (HRW.out _ (by (repeat' (first | (with_reducible exact Below.refl _ _) | (with_reducible assumption) | (with_reducible refine Below.new ?_ _) | (with_reducible refine Below.alloc ?_ ?_ _) | (with_reducible refine Below.drew ?_) | (with_reducible refine Below.setCell ?_ ?_ _) | (refine Below.step ?_ (by assumption)) | go_size)))).mono ?_); rintro e w6 ⟨rfl, hb6⟩))
        | (go_at_call 37; ((with_reducible refine (HC.out _).mono ?_); rintro e w2 ⟨rfl, rfl⟩))
        | (go_at_call 36; ((with_reducible refine (HU.out _ (HS.out.below (by (repeat' (first | (with_reducible exact Below.refl _ _) | (with_reducible assumption) | (with_reducible refine Below.new ?_ _) | (with_reducible refine Below.alloc ?_ ?_ _) | (with_reducible refine Below.drew ?_) | (with_reducible refine Below.setCell ?_ ?_ _) | (refine Below.step ?_ (by assumption)) | go_size))))).mono ?_); rintro e w7 ⟨v1, rfl, hown1, _, hb7⟩; have hi1 := hid (row_get rfl hown1).ints; clear hown1))
        | (go_at_call 38; ((with_reducible refine (HRU.out _).mono ?_); rintro e w8 ⟨v2, rfl, hown2, _, hb8⟩; have hi2 := hid (row_get rfl hown2).ints; obtain ⟨ao2, cap2, rfl⟩ := hown2.shape; clear hown2))
        | (go_at_call 39; ((with_reducible refine (HA.out _ (HS.out.below (by (repeat' (first | (with_reducible exact Below.refl _ _) | (with_reducible assumption) | (with_reducible refine Below.new ?_ _) | (with_reducible refine Below.alloc ?_ ?_ _) | (with_reducible refine Below.drew ?_) | (with_reducible refine Below.setCell ?_ ?_ _) | (refine Below.step ?_ (by assumption)) | go_size))))).mono ?_); rintro e w9 ⟨rfl, hb9⟩))
        | (go_at_call 40; ((with_reducible refine (HI.out _ _ _ (hi1.out.below (by (repeat' (first | (with_reducible exact Below.refl _ _) | (with_reducible assumption) | (with_reducible refine Below.new ?_ _) | (with_reducible refine Below.alloc ?_ ?_ _) | (with_reducible refine Below.drew ?_) | (with_reducible refine Below.setCell ?_ ?_ _) | (refine Below.step ?_ (by assumption)) | go_size)))) (hi2.out.below (by (repeat' (first | (with_reducible exact Below.refl _ _) | (with_reducible assumption) | (with_reducible refine Below.new ?_ _) | (with_reducible refine Below.alloc ?_ ?_ _) | (with_reducible refine Below.drew ?_) | (with_reducible refine Below.setCell ?_ ?_ _) | (refine Below.step ?_ (by assumption)) | go_size))))).mono ?_); rintro e w10 ⟨rfl, hb10⟩)))
      all_goals (go_ret; exact ⟨rfl, by (repeat' (first | (with_reducible exact Below.refl _ _) | (with_reducible assumption) | (with_reducible refine Below.new ?_ _) | (with_reducible refine Below.alloc ?_ ?_ _) | (with_reducible refine Below.drew ?_) | (with_reducible refine Below.setCell ?_ ?_ _) | (refine Below.step ?_ (by assumption)) | go_size))⟩)
    · obtain ⟨J, rfl⟩ := Int.eq_ofNat_of_zero_le (show 0 ≤ p by omega)
      by_cases q2 : xs.length ≤ J
      · obtain ⟨rfl, rfl⟩ : n = 0 ∧ c = 40 := by simp [atV, q2] at hat; omega
        clear hat q1
        go_enter Tryd.func8, Tryd.ntmps8
        go_wp2_with (first
          | (go_at_call 30; ((with_reducible refine (HSH.out).mono ?_); rintro e w1 ⟨rfl, hb1⟩))
          | (go_at_call 32; ((with_reducible refine (HF.out _).mono ?_); rintro e w2 ⟨rfl, rfl⟩))
          | (go_at_call 31; ((with_reducible refine (HK.out _ (by (repeat' (first | (with_reducible exact Below.refl _ _) | (with_reducible assumption) | (with_reducible refine Below.new ?_ _) | (with_reducible refine Below.alloc ?_ ?_ _) | (with_reducible refine Below.drew ?_) | (with_reducible refine Below.setCell ?_ ?_ _) | (refine Below.step ?_ (by assumption)) | go_size)))).mono ?_); rintro e w3 ⟨rfl, hb3⟩))
          | (go_at_call 33; ((with_reducible refine (HRK.out _ (by (repeat' (first | (with_reducible exact Below.refl _ _) | (with_reducible assumption) | (with_reducible refine Below.new ?_ _) | (with_reducible refine Below.alloc ?_ ?_ _) | (with_reducible refine Below.drew ?_) | (with_reducible refine Below.setCell ?_ ?_ _) | (refine Below.step ?_ (by assumption)) | go_size)))).mono ?_); rintro e w4 ⟨rfl, hb4⟩))
          | (go_at_call 34; ((with_reducible refine (HW.out _ (by (repeat' (first | (with_reducible exact Below.refl _ _) | (with_reducible assumption) | (with_reducible refine Below.new ?_ _) | (with_reducible refine Below.alloc ?_ ?_ _) | (with_reducible refine Below.drew ?_) | (with_reducible refine Below.setCell ?_ ?_ _) | (refine Below.step ?_ (by assumption)) | go_size)))).mono ?_); rintro e w5 ⟨rfl, hb5⟩))
          | (go_at_call 35; ((with_reducible refine (HRW.out _ (by (repeat' (first | (with_reducible exact Below.refl _ _) | (with_reducible assumption) | (with_reducible refine Below.new ?_ _) | (with_reducible refine Below.alloc ?_ ?_ _) | (with_reducible refine Below.drew ?_) | (with_reducible refine Below.setCell ?_ ?_ _) | (refine Below.step ?_ (by assumption)) | go_size)))).mono ?_); rintro e w6 ⟨rfl, hb6⟩))
          | (go_at_call 37; ((with_reducible refine (HC.out _).mono ?_); rintro e w2 ⟨rfl, rfl⟩))
          | (go_at_call 36; ((with_reducible refine (HU.out _ (HS.out.below (by (repeat' (first | (with_reducible exact Below.refl _ _) | (with_reducible assumption) | (with_reducible refine Below.new ?_ _) | (with_reducible refine Below.alloc ?_ ?_ _) | (with_reducible refine Below.drew ?_) | (with_reducible refine Below.setCell ?_ ?_ _) | (refine Below.step ?_ (by assumption)) | go_size))))).mono ?_); rintro e w7 ⟨v1, rfl, hown1, _, hb7⟩; have hi1 := hid (row_get rfl hown1).ints; clear hown1))
          | (go_at_call 38; ((with_reducible refine (HRU.out _).mono ?_); rintro e w8 ⟨v2, rfl, hown2, _, hb8⟩; have hi2 := hid (row_get rfl hown2).ints; obtain ⟨ao2, cap2, rfl⟩ := hown2.shape; clear hown2))
          | (go_at_call 39; ((with_reducible refine (HA.out _ (HS.out.below (by (repeat' (first | (with_reducible exact Below.refl _ _) | (with_reducible assumption) | (with_reducible refine Below.new ?_ _) | (with_reducible refine Below.alloc ?_ ?_ _) | (with_reducible refine Below.drew ?_) | (with_reducible refine Below.setCell ?_ ?_ _) | (refine Below.step ?_ (by assumption)) | go_size))))).mono ?_); rintro e w9 ⟨rfl, hb9⟩))
          | (go_at_call 40; ((with_reducible refine (HI.out _ _ _ (hi1.out.below (by (repeat' (first | (with_reducible exact Below.refl _ _) | (with_reducible assumption) | (with_reducible refine Below.new ?_ _) | (with_reducible refine Below.alloc ?_ ?_ _) | (with_reducible refine Below.drew ?_) | (with_reducible refine Below.setCell ?_ ?_ _) | (refine Below.step ?_ (by assumption)) | go_size)))) (hi2.out.below (by (repeat' (first | (with_reducible exact Below.refl _ _) | (with_reducible assumption) | (with_reducible refine Below.new ?_ _) | (with_reducible refine Below.alloc ?_ ?_ _) | (with_reducible refine Below.drew ?_) | (with_reducible refine Below.setCell ?_ ?_ _) | (refine Below.step ?_ (by assumption)) | go_size))))).mono ?_); rintro e w10 ⟨rfl, hb10⟩)))
        all_goals (go_ret; exact ⟨rfl, by (repeat' (first | (with_reducible exact Below.refl _ _) | (with_reducible assumption) | (with_reducible refine Below.new ?_ _) | (with_reducible refine Below.alloc ?_ ?_ _) | (with_reducible refine Below.drew ?_) | (with_reducible refine Below.setCell ?_ ?_ _) | (refine Below.step ?_ (by assumption)) | go_size))⟩)
      · have h2 : J < xs.length := by omega
        obtain ⟨hnx, rfl⟩ : n = xs[J]?.getD 0 ∧ c = 0 := by
          have : ¬ ((J : Int) < 0 ∨ (xs.length : Int) ≤ J) := by omega
          unfold atV at hat
          rw [if_neg (by simp), if_neg this] at hat
          simp only [Int.toNat_natCast, Prod.mk.injEq] at hat
          exact ⟨hat.1.symm, hat.2.symm⟩
        have hget := intsOf_get xs J h2
        rw [← hnx] at hget
        have HGT := hid hget
        clear hat hget hnx q1 q2
        go_enter Tryd.func8, Tryd.ntmps8
        go_wp2_with (first
          | (go_at_call 30; ((with_reducible refine (HSH.out).mono ?_); rintro e w1 ⟨rfl, hb1⟩))
          | (go_at_call 32; ((with_reducible refine (HF.out _).mono ?_); rintro e w2 ⟨rfl, rfl⟩))
          | (go_at_call 31; ((with_reducible refine (HK.out _ (by (repeat' (first | (with_reducible exact Below.refl _ _) | (with_reducible assumption) | (with_reducible refine Below.new ?_ _) | (with_reducible refine Below.alloc ?_ ?_ _) | (with_reducible refine Below.drew ?_) | (with_reducible refine Below.setCell ?_ ?_ _) | (refine Below.step ?_ (by assumption)) | go_size)))).mono ?_); rintro e w3 ⟨rfl, hb3⟩))
          | (go_at_call 33; ((with_reducible refine (HRK.out _ (by (repeat' (first | (with_reducible exact Below.refl _ _) | (with_reducible assumption) | (with_reducible refine Below.new ?_ _) | (with_reducible refine Below.alloc ?_ ?_ _) | (with_reducible refine Below.drew ?_) | (with_reducible refine Below.setCell ?_ ?_ _) | (refine Below.step ?_ (by assumption)) | go_size)))).mono ?_); rintro e w4 ⟨rfl, hb4⟩))
          | (go_at_call 34; ((with_reducible refine (HW.out _ (by (repeat' (first | (with_reducible exact Below.refl _ _) | (with_reducible assumption) | (with_reducible refine Below.new ?_ _) | (with_reducible refine Below.alloc ?_ ?_ _) | (with_reducible refine Below.drew ?_) | (with_reducible refine Below.setCell ?_ ?_ _) | (refine Below.step ?_ (by assumption)) | go_size)))).mono ?_); rintro e w5 ⟨rfl, hb5⟩))
          | (go_at_call 35; ((with_reducible refine (HRW.out _ (by (repeat' (first | (with_reducible exact Below.refl _ _) | (with_reducible assumption) | (with_reducible refine Below.new ?_ _) | (with_reducible refine Below.alloc ?_ ?_ _) | (with_reducible refine Below.drew ?_) | (with_reducible refine Below.setCell ?_ ?_ _) | (refine Below.step ?_ (by assumption)) | go_size)))).mono ?_); rintro e w6 ⟨rfl, hb6⟩))
          | (go_at_call 37; ((with_reducible refine (HC.out _).mono ?_); rintro e w2 ⟨rfl, rfl⟩))
          | (go_at_call 36; ((with_reducible refine (HU.out _ (HS.out.below (by (repeat' (first | (with_reducible exact Below.refl _ _) | (with_reducible assumption) | (with_reducible refine Below.new ?_ _) | (with_reducible refine Below.alloc ?_ ?_ _) | (with_reducible refine Below.drew ?_) | (with_reducible refine Below.setCell ?_ ?_ _) | (refine Below.step ?_ (by assumption)) | go_size))))).mono ?_); rintro e w7 ⟨v1, rfl, hown1, _, hb7⟩; have hi1 := hid (row_get rfl hown1).ints; clear hown1))
          | (go_at_call 38; ((with_reducible refine (HRU.out _).mono ?_); rintro e w8 ⟨v2, rfl, hown2, _, hb8⟩; have hi2 := hid (row_get rfl hown2).ints; obtain ⟨ao2, cap2, hsl, -, -, -, hrow⟩ := row_get rfl hown2; clear hown2; rw [intsOf_length] at hsl; subst hsl; obtain ⟨g, off, rfl, hcell⟩ := hrow (by rw [intsOf_length]; omega); have e1 := hcell J (by rw [intsOf_length]; exact h2); rw [HGT.out] at e1; clear hcell hrow))
          | (go_at_call 39; ((with_reducible refine (HA.out _ (HS.out.below (by (repeat' (first | (with_reducible exact Below.refl _ _) | (with_reducible assumption) | (with_reducible refine Below.new ?_ _) | (with_reducible refine Below.alloc ?_ ?_ _) | (with_reducible refine Below.drew ?_) | (with_reducible refine Below.setCell ?_ ?_ _) | (refine Below.step ?_ (by assumption)) | go_size))))).mono ?_); rintro e w9 ⟨rfl, hb9⟩; have e3 := cell_step e1 hb9; clear e1))
          | (go_at_call 40; ((with_reducible refine (HI.out _ _ _ (hi1.out.below (by (repeat' (first | (with_reducible exact Below.refl _ _) | (with_reducible assumption) | (with_reducible refine Below.new ?_ _) | (with_reducible refine Below.alloc ?_ ?_ _) | (with_reducible refine Below.drew ?_) | (with_reducible refine Below.setCell ?_ ?_ _) | (refine Below.step ?_ (by assumption)) | go_size)))) (hi2.out.below (by (repeat' (first | (with_reducible exact Below.refl _ _) | (with_reducible assumption) | (with_reducible refine Below.new ?_ _) | (with_reducible refine Below.alloc ?_ ?_ _) | (with_reducible refine Below.drew ?_) | (with_reducible refine Below.setCell ?_ ?_ _) | (refine Below.step ?_ (by assumption)) | go_size))))).mono ?_); rintro e w10 ⟨rfl, hb10⟩)))
        all_goals (go_ret; exact ⟨rfl, by (repeat' (first | (with_reducible exact Below.refl _ _) | (with_reducible assumption) | (with_reducible refine Below.new ?_ _) | (with_reducible refine Below.alloc ?_ ?_ _) | (with_reducible refine Below.drew ?_) | (with_reducible refine Below.setCell ?_ ?_ _) | (refine Below.step ?_ (by assumption)) | go_size))⟩)
  · obtain ⟨rfl, rfl⟩ : n = 0 ∧ c = C := by simp [atV, hC] at hat; omega
    have hCb : ((c : Int) == 0) = false := by simpa using hC
    have hCn : ((c : Int) != 0) = true := by simpa using hC
    clear hat
    generalize (c : Int) = cc at HU HRU HA hCb hCn
    clear hC
    go_enter Tryd.func8, Tryd.ntmps8
    go_wp2_with (first
      | (go_at_call 30; ((with_reducible refine (HSH.out).mono ?_); rintro e w1 ⟨rfl, hb1⟩))
      | (go_at_call 32; ((with_reducible refine (HF.out _).mono ?_); rintro e w2 ⟨rfl, rfl⟩))
      | (go_at_call 31; ((with_reducible refine (HK.out _ (by (repeat' (first | (with_reducible exact Below.refl _ _) | (with_reducible assumption) | (with_reducible refine Below.new ?_ _) | (with_reducible refine Below.alloc ?_ ?_ _) | (with_reducible refine Below.drew ?_) | (with_reducible refine Below.setCell ?_ ?_ _) | (refine Below.step ?_ (by assumption)) | go_size)))).mono ?_); rintro e w3 ⟨rfl, hb3⟩))
      | (go_at_call 33; ((with_reducible refine (HRK.out _ (by (repeat' (first | (with_reducible exact Below.refl _ _) | (with_reducible assumption) | (with_reducible refine Below.new ?_ _) | (with_reducible refine Below.alloc ?_ ?_ _) | (with_reducible refine Below.drew ?_) | (with_reducible refine Below.setCell ?_ ?_ _) | (refine Below.step ?_ (by assumption)) | go_size)))).mono ?_); rintro e w4 ⟨rfl, hb4⟩))
      | (go_at_call 34; ((with_reducible refine (HW.out _ (by (repeat' (first | (with_reducible exact Below.refl _ _) | (with_reducible assumption) | (with_reducible refine Below.new ?_ _) | (with_reducible refine Below.alloc ?_ ?_ _) | (with_reducible refine Below.drew ?_) | (with_reducible refine Below.setCell ?_ ?_ _) | (refine Below.step ?_ (by assumption)) | go_size)))).mono ?_); rintro e w5 ⟨rfl, hb5⟩))
      | (go_at_call 35; ((with_reducible refine (HRW.out _ (by (repeat' (first | (with_reducible exact Below.refl _ _) | (with_reducible assumption) | (with_reducible refine Below.new ?_ _) | (with_reducible refine Below.alloc ?_ ?_ _) | (with_reducible refine Below.drew ?_) | (with_reducible refine Below.setCell ?_ ?_ _) | (refine Below.step ?_ (by assumption)) | go_size)))).mono ?_); rintro e w6 ⟨rfl, hb6⟩))
      | (go_at_call 37; ((with_reducible refine (HC.out _).mono ?_); rintro e w2 ⟨rfl, rfl⟩))
      | (go_at_call 36; ((with_reducible refine (HU.out _ (HS.out.below (by (repeat' (first | (with_reducible exact Below.refl _ _) | (with_reducible assumption) | (with_reducible refine Below.new ?_ _) | (with_reducible refine Below.alloc ?_ ?_ _) | (with_reducible refine Below.drew ?_) | (with_reducible refine Below.setCell ?_ ?_ _) | (refine Below.step ?_ (by assumption)) | go_size))))).mono ?_); rintro e w7 ⟨v1, rfl, hown1, _, hb7⟩; have hi1 := hid (row_get rfl hown1).ints; clear hown1))
      | (go_at_call 38; ((with_reducible refine (HRU.out _).mono ?_); rintro e w8 ⟨v2, rfl, hown2, _, hb8⟩; have hi2 := hid (row_get rfl hown2).ints; obtain ⟨ao2, cap2, rfl⟩ := hown2.shape; clear hown2))
      | (go_at_call 39; ((with_reducible refine (HA.out _ (HS.out.below (by (repeat' (first | (with_reducible exact Below.refl _ _) | (with_reducible assumption) | (with_reducible refine Below.new ?_ _) | (with_reducible refine Below.alloc ?_ ?_ _) | (with_reducible refine Below.drew ?_) | (with_reducible refine Below.setCell ?_ ?_ _) | (refine Below.step ?_ (by assumption)) | go_size))))).mono ?_); rintro e w9 ⟨rfl, hb9⟩))
      | (go_at_call 40; ((with_reducible refine (HI.out _ _ _ (hi1.out.below (by (repeat' (first | (with_reducible exact Below.refl _ _) | (with_reducible assumption) | (with_reducible refine Below.new ?_ _) | (with_reducible refine Below.alloc ?_ ?_ _) | (with_reducible refine Below.drew ?_) | (with_reducible refine Below.setCell ?_ ?_ _) | (refine Below.step ?_ (by assumption)) | go_size)))) (hi2.out.below (by (repeat' (first | (with_reducible exact Below.refl _ _) | (with_reducible assumption) | (with_reducible refine Below.new ?_ _) | (with_reducible refine Below.alloc ?_ ?_ _) | (with_reducible refine Below.drew ?_) | (with_reducible refine Below.setCell ?_ ?_ _) | (refine Below.step ?_ (by assumption)) | go_size))))).mono ?_); rintro e w10 ⟨rfl, hb10⟩)))
    all_goals (go_ret; exact ⟨rfl, by (repeat' (first | (with_reducible exact Below.refl _ _) | (with_reducible assumption) | (with_reducible refine Below.new ?_ _) | (with_reducible refine Below.alloc ?_ ?_ _) | (with_reducible refine Below.drew ?_) | (with_reducible refine Below.setCell ?_ ?_ _) | (refine Below.step ?_ (by assumption)) | go_size))⟩)

theorem PackedMakes_walk (v : Value) (ao : Option Addr) (cap : Nat) (xs : List Int) (hv : v = .slice ao xs.length cap) (s : ByteArray) (hs : s.size ≤ 9223372036854775807) (p : Int) (hp : I64 p) (W : World) (hr : RowAt W ao xs) (h1 : xs.length ≤ cap) (h2 : cap ≤ maxLen) (h3 : ao = none → cap = 0)
    (h4 : ∀ k, k < xs.length → I64 (xs[k]?.getD 0)) (am an : Addr) (hS : Sent am an W) :
    Calls Tryd.prog 8 #[v, .string s, .int .i64 p] W fun e w' => e = .returned (.bool true) ∧ Below W.heap.size W w' := by
  subst hv
  have HF := hid (fun w => pfew_any ao cap xs w h1 h2 h3)
  refine pmakes_core ao xs.length cap (xs.take 1010) s hs p W am an (hr.take 1010) (by rw [List.length_take]; omega) (by rw [List.length_take]; omega) h2 h3 (fun k hk => ?_) HF hS
  rw [List.length_take] at hk
  rw [List.getElem?_take_of_lt (by omega)]
  exact h4 k (by omega)
end Go.Proofs.YtpgifmccajcgkaaDoor
