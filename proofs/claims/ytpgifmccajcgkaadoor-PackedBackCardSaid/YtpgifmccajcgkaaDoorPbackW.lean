/- Packed lists: the walk of PackedBack. -/
import Derived.Test.YtpgifmccajcgkaaDoorPkO
namespace Go.Proofs.YtpgifmccajcgkaaDoor
set_option linter.unusedVariables false
set_option linter.unusedSimpArgs false
open Go.ChangeShapes Go.WideShapes Go.ChangeAt Go.RowKit Go.Joins

theorem okW_small {ns : List Nat} (hl : ns.length ≤ 1000) (h : small ns) : okW (intsOf ns) = true := okW_intsOf hl h

set_option maxRecDepth 100000 in
set_option maxHeartbeats 4000000 in
theorem PackedBack_walk (v : Value) (ao : Option Addr) (cap : Nat) (xs : List Int) (hv : v = .slice ao xs.length cap) (s : ByteArray) (hs : s.size ≤ 9223372036854775807) (W : World) (hr : RowAt W ao xs) (h1 : xs.length ≤ cap) (h2 : cap ≤ maxLen) (h3 : ao = none → cap = 0)
    (h4 : ∀ k, k < xs.length → I64 (xs[k]?.getD 0)) (am an : Addr) (hS : Sent am an W) :
    Calls Tryd.prog 10 #[v, .string s] W fun e w' => e = .returned (.bool true) ∧ Below W.heap.size W w' := by
  subst hv
  have HS := hid hS
  have HSH := hid (pshown_any am an W hS)
  have HC := hid (fun w => pcut_any s hs w)
  obtain ⟨t, ht⟩ : ∃ t, s.extract 0 (min s.size 2010) = t := ⟨_, rfl⟩
  have htz : t.size ≤ 2010 := by rw [← ht]; simp; omega
  rw [ht] at HC
  obtain ⟨own, hown0⟩ : ∃ own, masks xs = own := ⟨_, rfl⟩
  have HMS := hid (fun k h => masks_succ (xs := xs) (k := k) h)
  have hok := masks_ok xs
  have hml := masks_length xs
  rw [hown0] at HMS hok hml
  obtain ⟨M, hM⟩ : ∃ M, own.length = M := ⟨_, rfl⟩
  have HM := hid hM
  rw [hM] at HMS hml
  obtain ⟨hol, hom⟩ := okW_mem hok
  have hsm := natsOf_mem hom
  have HK := hid (fun v w (h : SliceAt w v own) (hb : Below W.heap.size W w) => ppack_ok v own w h hok (Nat.lt_of_lt_of_le hS.pos hb.size))
  have hnl : (natsOf own).length = M := by unfold natsOf; rw [List.length_map]; exact hM
  obtain ⟨sp, hsp, hspb⟩ : ∃ sp : ByteArray, strV (packBy (natsOf own)) = .string sp ∧ bytesOf sp = packBy (natsOf own) := ⟨⟨(packBy (natsOf own)).toArray⟩, rfl, by simp [bytesOf]⟩
  have hps : sp.size ≤ 2011 := by
    have := packBy_le (by omega) hsm
    rw [← hspb, size_bytesOf] at this
    exact this
  have hpv : punV (bytesOf (sp ++ t)) = (0, natsOf own, sp.size) := by
    rw [bytesOf_append, hspb, pun_pack (by omega) hsm, ← hspb, size_bytesOf]
  rw [hsp] at HK
  have HU1 := hid (fun w h => punpack_is am an (sp ++ t) (by simp [ByteArray.size_append]; omega) hpv w h)
  rw [extract_append, intsOf_natsOf hom, hnl] at HU1
  have HI := hid (fun va vb w (ha : IntsAt w va own) (hb : IntsAt w vb own) => ints_any va vb own own w ha hb (by omega) (by omega))
  simp only [decide_true] at HI
  -- the second list
  obtain ⟨C2, L2, T2, hv2⟩ : ∃ C L T, punV (bytesOf t) = (C, L, T) := ⟨_, _, _, rfl⟩
  have HU2 := hid (fun w h => punpack_is am an t (by omega) hv2 w h)
  obtain ⟨hl2, hs2⟩ := pun_len hv2
  obtain ⟨d, hd, hL2⟩ : ∃ d : ByteArray, strV (packBy L2) = .string d ∧ (d.size ≤ 2011 ∧ (C2 = 0 → d ++ t.extract T2 t.size = t)) := by
    refine ⟨⟨(packBy L2).toArray⟩, rfl, ?_⟩
    have hb : bytesOf (⟨(packBy L2).toArray⟩ : ByteArray) = packBy L2 := by simp [bytesOf]
    refine ⟨?_, fun hC => bytesOf_inj ?_⟩
    · rw [← size_bytesOf, hb]; exact packBy_le hl2 hs2
    · subst hC
      obtain ⟨g1, _, _, _⟩ := pun_ok hv2
      rw [bytesOf_append, bytesOf_extract, hb, ← g1]
  obtain ⟨hdl, heq2⟩ := hL2
  generalize t.extract T2 t.size = r2 at HU2 heq2
  have HK2 := hid (fun v w (h : SliceAt w v (intsOf L2)) (hb : Below W.heap.size W w) => ppack_ok v (intsOf L2) w h (okW_intsOf hl2 hs2) (Nat.lt_of_lt_of_le hS.pos hb.size))
  rw [natsOf_intsOf, hd] at HK2
  have HR := hid hr
  have hMx : M ≤ xs.length ∧ M ≤ 1000 ∧ (M < 1000 → M = xs.length) := by omega
  obtain ⟨i0, hi, hiz0, hiz1, hiz2⟩ := info_parts info_int
  obtain ⟨L, hL⟩ : ∃ L, xs.length = L := ⟨_, rfl⟩
  have HL := hid hL
  rw [hL] at h1 hMx ⊢
  have HEQ := hid heq2
  have hC2 : C2 = 0 ∨ C2 ≠ 0 := by omega
  have HL2 := hid hl2
  clear hS hr hown0 hok hml hM hol hom hsm hsp hspb hpv hnl hL h3 h4 hv2 hd hl2 hs2 ht heq2
  go_enter Tryd.func10, Tryd.ntmps10
  go_wp2_with (go_at_call 30; ((with_reducible refine (HSH.out).mono ?_); rintro e w1 ⟨rfl, hb1⟩))
  go_loopw [6, 7] (fun v i wr => ∃ k : Nat, k ≤ M ∧ i = .int .i64 k ∧ wr.ownsRow w1.heap.size 3 1 v k ((own.take k).map (Value.int .i64)) ∧ Below w1.heap.size w1 wr) (fun _ i _ => M - (intOf i).toNat)
  case atStart => exact ⟨0, Nat.zero_le _, rfl, World.ownsRow_nil _ _ _ _, Below.refl _ _⟩
  case round =>
    obtain ⟨k, hk, rfl, hown, hbel⟩ := hrel
    have hsz := hbel.size
    by_cases hlt : k < M
    · obtain ⟨b, o, rfl, hc⟩ := HR.out (by rw [HL.out]; omega)
      have e0 := cell_step (cell_step (hc k (by rw [HL.out]; omega)) hb1) hbel
      have hms := HMS.out k hlt
      obtain ⟨x, hx⟩ : ∃ x, xs[k]?.getD 0 = x := ⟨_, rfl⟩
      rw [hx] at e0 hms
      have hms := hid hms
      clear hc hx
      go_wp2_with (at_builtin; go_loud (refine wpList_append_own _ rfl _ _ 42 rfl (w1.heap.size) 3 i0 (.int .i64 0) 1 8 Tryd.underlying42 hi hiz0 hiz1 hiz2 rfl (by decide) _ _ _ rfl (hown.alloc _) ⟨wr.heap.size, 0, none⟩ 1 1 [.int .i64 (bits .and .i64 x 65535)] rfl rfl (one_new _ _ _) (one_int _ _) (by unfold maxLen; omega) (by omega) (by simp; omega) ?_); intro v' w1' hown' hgrow' hnil')
      have hown2 : w1'.ownsRow w1.heap.size 3 1 v' (k + 1) ((own.take (k + 1)).map (Value.int .i64)) := by rw [hms.out]; exact hown'
      have hb2 : Below w1.heap.size w1 w1' := (hbel.alloc hsz _).grown hgrow' (by simp; omega) (fun r e => (hown.lt r e).1)
      go_roundw
      case rel => exact ⟨k + 1, by omega, by go_num, hown2, hb2⟩
      case measure => simp [intOf]; omega
    · obtain rfl : k = M := by omega
      rw [show own.take k = own by rw [← HM.out, List.take_length]] at hown
      have hsl : SliceAt wr _ own := SliceAt.own (by rw [HM.out]; exact hown)
      clear hown
      obtain ⟨ao2, cap2, rfl, -, -, -, -⟩ := id hsl
      rw [HM.out] at hsl ⊢
      have HSL := hid hsl
      clear hsl
      rcases hC2 with rfl | hC
      · have heq := HEQ.out rfl
        have hsz3 : d.size + r2.size ≤ 2010 := by rw [← ByteArray.size_append, heq]; exact htz
        go_wp2_with (first
          | (go_at_call 37; ((with_reducible refine (HC.out _).mono ?_); rintro e w2 ⟨rfl, rfl⟩))
          | (go_at_call 36; first
            | ((with_reducible refine (HU1.out _ (HS.out.below (by (repeat' (first | (with_reducible exact Below.refl _ _) | (with_reducible assumption) | (with_reducible refine Below.new ?_ _) | (with_reducible refine Below.alloc ?_ ?_ _) | (with_reducible refine Below.drew ?_) | (with_reducible refine Below.setCell ?_ ?_ _) | (refine Below.step ?_ (by assumption)) | go_size))))).mono ?_); rintro e w3 ⟨v1, rfl, hown1, _, hb3⟩; have hi1 := hid (row_get_ints HM.out hown1); clear hown1)
            | ((with_reducible refine (HU2.out _ (HS.out.below (by (repeat' (first | (with_reducible exact Below.refl _ _) | (with_reducible assumption) | (with_reducible refine Below.new ?_ _) | (with_reducible refine Below.alloc ?_ ?_ _) | (with_reducible refine Below.drew ?_) | (with_reducible refine Below.setCell ?_ ?_ _) | (refine Below.step ?_ (by assumption)) | go_size))))).mono ?_); rintro e w4 ⟨v2, rfl, hown2, _, hb4⟩; have hi2 := hid (row_get rfl hown2); clear hown2))
          | (go_at_call 31; first
            | ((with_reducible refine (HK.out _ _ HSL.out (by (repeat' (first | (with_reducible exact Below.refl _ _) | (with_reducible assumption) | (with_reducible refine Below.new ?_ _) | (with_reducible refine Below.alloc ?_ ?_ _) | (with_reducible refine Below.drew ?_) | (with_reducible refine Below.setCell ?_ ?_ _) | (refine Below.step ?_ (by assumption)) | go_size)))).mono ?_); rintro e w5 ⟨rfl, hb5⟩)
            | ((with_reducible refine (HK2.out _ _ hi2.out (by (repeat' (first | (with_reducible exact Below.refl _ _) | (with_reducible assumption) | (with_reducible refine Below.new ?_ _) | (with_reducible refine Below.alloc ?_ ?_ _) | (with_reducible refine Below.drew ?_) | (with_reducible refine Below.setCell ?_ ?_ _) | (refine Below.step ?_ (by assumption)) | go_size)))).mono ?_); rintro e w6 ⟨rfl, hb6⟩))
          | (go_at_call 40; ((with_reducible refine (HI.out _ _ _ (hi1.out.below (by (repeat' (first | (with_reducible exact Below.refl _ _) | (with_reducible assumption) | (with_reducible refine Below.new ?_ _) | (with_reducible refine Below.alloc ?_ ?_ _) | (with_reducible refine Below.drew ?_) | (with_reducible refine Below.setCell ?_ ?_ _) | (refine Below.step ?_ (by assumption)) | go_size)))) (HSL.out.ints.below (by (repeat' (first | (with_reducible exact Below.refl _ _) | (with_reducible assumption) | (with_reducible refine Below.new ?_ _) | (with_reducible refine Below.alloc ?_ ?_ _) | (with_reducible refine Below.drew ?_) | (with_reducible refine Below.setCell ?_ ?_ _) | (refine Below.step ?_ (by assumption)) | go_size))))).mono ?_); rintro e w7 ⟨rfl, hb7⟩)))
        all_goals (go_ret; exact ⟨rfl, by (repeat' (first | (with_reducible exact Below.refl _ _) | (with_reducible assumption) | (with_reducible refine Below.new ?_ _) | (with_reducible refine Below.alloc ?_ ?_ _) | (with_reducible refine Below.drew ?_) | (with_reducible refine Below.setCell ?_ ?_ _) | (refine Below.step ?_ (by assumption)) | go_size))⟩)
      · have hCb : ((C2 : Int) == 0) = false := by simpa using hC
        have hCn : ((C2 : Int) != 0) = true := by simpa using hC
        clear HEQ
        generalize (C2 : Int) = c2 at HU2 hCb hCn
        clear hC
        go_wp2_with (first
          | (go_at_call 37; ((with_reducible refine (HC.out _).mono ?_); rintro e w2 ⟨rfl, rfl⟩))
          | (go_at_call 36; first
            | ((with_reducible refine (HU1.out _ (HS.out.below (by (repeat' (first | (with_reducible exact Below.refl _ _) | (with_reducible assumption) | (with_reducible refine Below.new ?_ _) | (with_reducible refine Below.alloc ?_ ?_ _) | (with_reducible refine Below.drew ?_) | (with_reducible refine Below.setCell ?_ ?_ _) | (refine Below.step ?_ (by assumption)) | go_size))))).mono ?_); rintro e w3 ⟨v1, rfl, hown1, _, hb3⟩; have hi1 := hid (row_get_ints HM.out hown1); clear hown1)
            | ((with_reducible refine (HU2.out _ (HS.out.below (by (repeat' (first | (with_reducible exact Below.refl _ _) | (with_reducible assumption) | (with_reducible refine Below.new ?_ _) | (with_reducible refine Below.alloc ?_ ?_ _) | (with_reducible refine Below.drew ?_) | (with_reducible refine Below.setCell ?_ ?_ _) | (refine Below.step ?_ (by assumption)) | go_size))))).mono ?_); rintro e w4 ⟨v2, rfl, hown2, _, hb4⟩; have hi2 := hid (row_get rfl hown2); clear hown2))
          | (go_at_call 31; first
            | ((with_reducible refine (HK.out _ _ HSL.out (by (repeat' (first | (with_reducible exact Below.refl _ _) | (with_reducible assumption) | (with_reducible refine Below.new ?_ _) | (with_reducible refine Below.alloc ?_ ?_ _) | (with_reducible refine Below.drew ?_) | (with_reducible refine Below.setCell ?_ ?_ _) | (refine Below.step ?_ (by assumption)) | go_size)))).mono ?_); rintro e w5 ⟨rfl, hb5⟩)
            | ((with_reducible refine (HK2.out _ _ hi2.out (by (repeat' (first | (with_reducible exact Below.refl _ _) | (with_reducible assumption) | (with_reducible refine Below.new ?_ _) | (with_reducible refine Below.alloc ?_ ?_ _) | (with_reducible refine Below.drew ?_) | (with_reducible refine Below.setCell ?_ ?_ _) | (refine Below.step ?_ (by assumption)) | go_size)))).mono ?_); rintro e w6 ⟨rfl, hb6⟩))
          | (go_at_call 40; ((with_reducible refine (HI.out _ _ _ (hi1.out.below (by (repeat' (first | (with_reducible exact Below.refl _ _) | (with_reducible assumption) | (with_reducible refine Below.new ?_ _) | (with_reducible refine Below.alloc ?_ ?_ _) | (with_reducible refine Below.drew ?_) | (with_reducible refine Below.setCell ?_ ?_ _) | (refine Below.step ?_ (by assumption)) | go_size)))) (HSL.out.ints.below (by (repeat' (first | (with_reducible exact Below.refl _ _) | (with_reducible assumption) | (with_reducible refine Below.new ?_ _) | (with_reducible refine Below.alloc ?_ ?_ _) | (with_reducible refine Below.drew ?_) | (with_reducible refine Below.setCell ?_ ?_ _) | (refine Below.step ?_ (by assumption)) | go_size))))).mono ?_); rintro e w7 ⟨rfl, hb7⟩)))
        all_goals (go_ret; exact ⟨rfl, by (repeat' (first | (with_reducible exact Below.refl _ _) | (with_reducible assumption) | (with_reducible refine Below.new ?_ _) | (with_reducible refine Below.alloc ?_ ?_ _) | (with_reducible refine Below.drew ?_) | (with_reducible refine Below.setCell ?_ ?_ _) | (refine Below.step ?_ (by assumption)) | go_size))⟩)
end Go.Proofs.YtpgifmccajcgkaaDoor
