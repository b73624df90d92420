/- Packed lists: the walk of PackedPlaces. -/
import Derived.Test.YtpgifmccajcgkaaDoorPkO
namespace Go.Proofs.YtpgifmccajcgkaaDoor
set_option linter.unusedVariables false
set_option linter.unusedSimpArgs false
open Go.ChangeShapes Go.WideShapes Go.ChangeAt Go.RowKit Go.Joins

set_option maxRecDepth 100000 in
set_option maxHeartbeats 4000000 in
theorem PackedPlaces_walk (v : Value) (ao : Option Addr) (cap : Nat) (xs : List Int) (hv : v = .slice ao xs.length cap) (p : Int) (hpl : I64 p) (W : World) (hr : RowAt W ao xs) (h1 : xs.length ≤ cap) (h2 : cap ≤ maxLen) (h3 : ao = none → cap = 0)
    (h4 : ∀ k, k < xs.length → I64 (xs[k]?.getD 0)) (am an : Addr) (hS : Sent am an W) :
    Calls Tryd.prog 13 #[v, .int .i64 p] W fun e w' => e = .returned (.bool true) ∧ Below W.heap.size W w' := by
  subst hv
  have HS := hid hS
  have HSH := hid (pshown_any am an W hS)
  obtain ⟨own, hown0⟩ : ∃ own, masks xs = own := ⟨_, rfl⟩
  have HMS := hid (fun k h => masks_succ (xs := xs) (k := k) h)
  have hok := masks_ok xs
  have hml := masks_length xs
  rw [hown0] at HMS hok hml
  obtain ⟨M, hM⟩ : ∃ M, own.length = M := ⟨_, rfl⟩
  have HM := hid hM
  rw [hM] at HMS hml
  obtain ⟨hol, hom⟩ := okW_mem hok
  have hsm := natsOf_mem hom
  have HK := hid (fun v w (h : SliceAt w v own) (hb : Below W.heap.size W w) => ppack_ok v own w h hok (Nat.lt_of_lt_of_le hS.pos hb.size))
  have hnl : (natsOf own).length = M := by unfold natsOf; rw [List.length_map]; exact hM
  obtain ⟨sp, hsp, hspb⟩ : ∃ sp : ByteArray, strV (packBy (natsOf own)) = .string sp ∧ bytesOf sp = packBy (natsOf own) := ⟨⟨(packBy (natsOf own)).toArray⟩, rfl, by simp [bytesOf]⟩
  have hps : sp.size ≤ 2011 := by
    have := packBy_le (by omega) hsm
    rw [← hspb, size_bytesOf] at this
    exact this
  have hpv : punV (bytesOf sp) = (0, natsOf own, (packBy (natsOf own)).length) := by
    have := pun_pack (by omega) hsm []
    rw [List.append_nil] at this
    rw [hspb]; exact this
  rw [hsp] at HK
  have HA := hid (fun w h n c hv => at_is am an sp (by omega) hpv p w h n c hv)
  have HGET := hid (fun J (hJ : J < own.length) => natsOf_get own J hJ hom)
  obtain ⟨ns, hns⟩ : ∃ ns, natsOf own = ns := ⟨_, rfl⟩
  rw [hns] at HA hnl HGET
  have HNL := hid hnl
  have HR := hid hr
  have hMx : M ≤ xs.length ∧ M ≤ 1000 ∧ (M < 1000 → M = xs.length) := by omega
  obtain ⟨i0, hi, hiz0, hiz1, hiz2⟩ := info_parts info_int
  obtain ⟨L, hL⟩ : ∃ L, xs.length = L := ⟨_, rfl⟩
  have HL := hid hL
  rw [hL] at h1 hMx ⊢
  clear hS hr hown0 hok hml hM hol hom hsm hsp hspb hpv hns hnl hL h3 h4
  go_enter Tryd.func13, Tryd.ntmps13
  go_wp2_with (go_at_call 30; ((with_reducible refine (HSH.out).mono ?_); rintro e w1 ⟨rfl, hb1⟩))
  go_loopw [6, 7] (fun v i wr => ∃ k : Nat, k ≤ M ∧ i = .int .i64 k ∧ wr.ownsRow w1.heap.size 3 1 v k ((own.take k).map (Value.int .i64)) ∧ Below w1.heap.size w1 wr) (fun _ i _ => M - (intOf i).toNat)
  case atStart => exact ⟨0, Nat.zero_le _, rfl, World.ownsRow_nil _ _ _ _, Below.refl _ _⟩
  case round =>
    obtain ⟨k, hk, rfl, hown, hbel⟩ := hrel
    have hsz := hbel.size
    by_cases hlt : k < M
    · obtain ⟨b, o, rfl, hc⟩ := HR.out (by rw [HL.out]; omega)
      have e0 := cell_step (cell_step (hc k (by rw [HL.out]; omega)) hb1) hbel
      have hms := HMS.out k hlt
      obtain ⟨x, hx⟩ : ∃ x, xs[k]?.getD 0 = x := ⟨_, rfl⟩
      rw [hx] at e0 hms
      have hms := hid hms
      clear hc hx
      go_wp2_with (at_builtin; go_loud (refine wpList_append_own _ rfl _ _ 42 rfl (w1.heap.size) 3 i0 (.int .i64 0) 1 8 Tryd.underlying42 hi hiz0 hiz1 hiz2 rfl (by decide) _ _ _ rfl (hown.alloc _) ⟨wr.heap.size, 0, none⟩ 1 1 [.int .i64 (bits .and .i64 x 65535)] rfl rfl (one_new _ _ _) (one_int _ _) (by unfold maxLen; omega) (by omega) (by simp; omega) ?_); intro v' w1' hown' hgrow' hnil')
      have hown2 : w1'.ownsRow w1.heap.size 3 1 v' (k + 1) ((own.take (k + 1)).map (Value.int .i64)) := by rw [hms.out]; exact hown'
      have hb2 : Below w1.heap.size w1 w1' := (hbel.alloc hsz _).grown hgrow' (by simp; omega) (fun r e => (hown.lt r e).1)
      go_roundw
      case rel => exact ⟨k + 1, by omega, by go_num, hown2, hb2⟩
      case measure => simp [intOf]; omega
    · obtain rfl : k = M := by omega
      rw [show own.take k = own by rw [← HM.out, List.take_length]] at hown
      have hsl : SliceAt wr _ own := SliceAt.own (by rw [HM.out]; exact hown)
      clear hown
      obtain ⟨ao2, cap2, rfl, hc1, hc2, hc3, hc4⟩ := id hsl
      rw [HM.out] at hsl hc1 ⊢
      have HSL := hid hsl
      have HC4 := hid hc4
      clear hsl hc4
      by_cases q1 : p < 0 ∨ (k : Int) ≤ p
      · have HA1 := hid (fun w h => HA.out w h 0 40 (by unfold atV; rw [if_neg (by simp), HNL.out, if_pos q1]))
        have hq : (decide (p < 0) || decide ((k : Int) ≤ p)) = true := by simpa using q1
        by_cases q2 : p < 0
        · clear q1 hq
          go_wp2_with (first
            | (go_at_call 31; ((with_reducible refine (HK.out _ _ HSL.out (by (repeat' (first | (with_reducible exact Below.refl _ _) | (with_reducible assumption) | (with_reducible refine Below.new ?_ _) | (with_reducible refine Below.alloc ?_ ?_ _) | (with_reducible refine Below.drew ?_) | (with_reducible refine Below.setCell ?_ ?_ _) | (refine Below.step ?_ (by assumption)) | go_size)))).mono ?_); rintro e w2 ⟨rfl, hb2⟩))
            | (go_at_call 39; ((with_reducible refine (HA1.out _ (HS.out.below (by (repeat' (first | (with_reducible exact Below.refl _ _) | (with_reducible assumption) | (with_reducible refine Below.new ?_ _) | (with_reducible refine Below.alloc ?_ ?_ _) | (with_reducible refine Below.drew ?_) | (with_reducible refine Below.setCell ?_ ?_ _) | (refine Below.step ?_ (by assumption)) | go_size))))).mono ?_); rintro e w3 ⟨rfl, hb3⟩)))
          all_goals (go_ret; exact ⟨rfl, by (repeat' (first | (with_reducible exact Below.refl _ _) | (with_reducible assumption) | (with_reducible refine Below.new ?_ _) | (with_reducible refine Below.alloc ?_ ?_ _) | (with_reducible refine Below.drew ?_) | (with_reducible refine Below.setCell ?_ ?_ _) | (refine Below.step ?_ (by assumption)) | go_size))⟩)
        · have q3 : (k : Int) ≤ p := by omega
          clear q1 hq
          go_wp2_with (first
            | (go_at_call 31; ((with_reducible refine (HK.out _ _ HSL.out (by (repeat' (first | (with_reducible exact Below.refl _ _) | (with_reducible assumption) | (with_reducible refine Below.new ?_ _) | (with_reducible refine Below.alloc ?_ ?_ _) | (with_reducible refine Below.drew ?_) | (with_reducible refine Below.setCell ?_ ?_ _) | (refine Below.step ?_ (by assumption)) | go_size)))).mono ?_); rintro e w2 ⟨rfl, hb2⟩))
            | (go_at_call 39; ((with_reducible refine (HA1.out _ (HS.out.below (by (repeat' (first | (with_reducible exact Below.refl _ _) | (with_reducible assumption) | (with_reducible refine Below.new ?_ _) | (with_reducible refine Below.alloc ?_ ?_ _) | (with_reducible refine Below.drew ?_) | (with_reducible refine Below.setCell ?_ ?_ _) | (refine Below.step ?_ (by assumption)) | go_size))))).mono ?_); rintro e w3 ⟨rfl, hb3⟩)))
          all_goals (go_ret; exact ⟨rfl, by (repeat' (first | (with_reducible exact Below.refl _ _) | (with_reducible assumption) | (with_reducible refine Below.new ?_ _) | (with_reducible refine Below.alloc ?_ ?_ _) | (with_reducible refine Below.drew ?_) | (with_reducible refine Below.setCell ?_ ?_ _) | (refine Below.step ?_ (by assumption)) | go_size))⟩)
      · obtain ⟨J, rfl⟩ := Int.eq_ofNat_of_zero_le (show 0 ≤ p by omega)
        have hJ : J < k := by omega
        have hget := HGET.out J (by rw [HM.out]; exact hJ)
        obtain ⟨b, o, rfl, hcell⟩ := HC4.out (by rw [HM.out]; omega)
        have e1 := hcell J (by rw [HM.out]; exact hJ)
        rw [hget] at e1
        obtain ⟨y, hy⟩ : ∃ y, ns[J]?.getD 0 = y := ⟨_, rfl⟩
        rw [hy] at e1
        have HA1 := hid (fun w h => HA.out w h y 0 (by unfold atV; rw [if_neg (by simp), HNL.out, if_neg q1]; simp [hy]))
        clear q1 hget hcell hy
        go_wp2_with (first
          | (go_at_call 31; ((with_reducible refine (HK.out _ _ HSL.out (by (repeat' (first | (with_reducible exact Below.refl _ _) | (with_reducible assumption) | (with_reducible refine Below.new ?_ _) | (with_reducible refine Below.alloc ?_ ?_ _) | (with_reducible refine Below.drew ?_) | (with_reducible refine Below.setCell ?_ ?_ _) | (refine Below.step ?_ (by assumption)) | go_size)))).mono ?_); rintro e w2 ⟨rfl, hb2⟩; have e2 := cell_step e1 hb2; clear e1))
          | (go_at_call 39; ((with_reducible refine (HA1.out _ (HS.out.below (by (repeat' (first | (with_reducible exact Below.refl _ _) | (with_reducible assumption) | (with_reducible refine Below.new ?_ _) | (with_reducible refine Below.alloc ?_ ?_ _) | (with_reducible refine Below.drew ?_) | (with_reducible refine Below.setCell ?_ ?_ _) | (refine Below.step ?_ (by assumption)) | go_size))))).mono ?_); rintro e w3 ⟨rfl, hb3⟩; have e3 := cell_step e2 hb3; clear e2)))
        all_goals (go_ret; exact ⟨rfl, by (repeat' (first | (with_reducible exact Below.refl _ _) | (with_reducible assumption) | (with_reducible refine Below.new ?_ _) | (with_reducible refine Below.alloc ?_ ?_ _) | (with_reducible refine Below.drew ?_) | (with_reducible refine Below.setCell ?_ ?_ _) | (refine Below.step ?_ (by assumption)) | go_size))⟩)
end Go.Proofs.YtpgifmccajcgkaaDoor
