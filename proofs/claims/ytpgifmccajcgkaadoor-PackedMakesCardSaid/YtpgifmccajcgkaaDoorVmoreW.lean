/- Varints: the walk of VarintMore. -/
import Derived.Test.YtpgifmccajcgkaaDoorVputsW
import Derived.Test.YtpgifmccajcgkaaDoorOpenB
namespace Go.Proofs.YtpgifmccajcgkaaDoor
set_option linter.unusedVariables false
set_option linter.unusedSimpArgs false
open Go.ChangeShapes Go.WideShapes Go.ChangeAt Go.RowKit Go.Joins

theorem inI_all {xs : List Int} (h : ∀ k, k < xs.length → I64 (xs[k]?.getD 0)) : ∀ n ∈ xs, inI n := fun n hn => by
  obtain ⟨k, hk, rfl⟩ := List.getElem_of_mem hn
  have := h k hk
  rw [List.getElem?_eq_getElem hk] at this
  exact this

set_option maxRecDepth 100000 in
set_option maxHeartbeats 4000000 in
theorem vmore_core (ao : Option Addr) (L M cap : Nat) (ys : List Int) (at' : Int) (n : Nat) (hn : n ≤ 18446744073709551615) (W : World) (am an : Addr) (hr : RowAt W ao ys) (hM : ys.length = M) (hm : min (L : Int) 1000 = (M : Int)) (h1 : L ≤ cap) (h2 : cap ≤ maxLen)
    (h3 : ao = none → cap = 0) (h4 : ∀ x ∈ ys, inI x) (hS : Sent am an W) :
    Calls Tryd.prog 6 #[.slice ao L cap, .int .i64 at', .int .u64 (n : Int)] W fun e w' => e = .returned (.bool true) ∧ Below W.heap.size W w' := by
  have hM1 : M ≤ 1000 ∧ M ≤ L := by omega
  have HK := hid (fun w (h : Below W.heap.size W w) => pack_short _ ys w ((hr.below h).ints cap) h4 (by omega))
  rw [hM] at HK
  have HP := hid (fun w => put1_any n hn w)
  obtain ⟨sn, hsn, hsb⟩ : ∃ sn : ByteArray, strV (putB n) = .string sn ∧ bytesOf sn = putB n := ⟨⟨(putB n).toArray⟩, rfl, by simp [bytesOf]⟩
  have hl1 := putB_ten hn
  have hl2 := putB_pos n
  rw [← hsb, size_bytesOf] at hl1 hl2
  have hv1 : nextV (bytesOf (sn.extract 0 (sn.size - 1))) = (21, 0, 0) := by
    rw [extract_take, hsb, nextV_short hn]
    rw [← hsb, size_bytesOf]; omega
  obtain ⟨pc, hpc⟩ : ∃ pc, sn.extract 0 (sn.size - 1) = pc := ⟨_, rfl⟩
  have hps : (pc.size : Int) = (sn.size : Int) - 1 := by
    have : pc.size = sn.size - 1 := by rw [← hpc]; simp
    omega
  rw [hpc] at hv1
  have HG := hid (fun w h => get_is am an pc (by omega) hv1 w h)
  rw [extract_whole] at HG
  obtain ⟨sp, hsp, hspb⟩ : ∃ sp : ByteArray, strV (packB ys) = .string sp ∧ bytesOf sp = packB ys := ⟨⟨(packB ys).toArray⟩, rfl, by simp [bytesOf]⟩
  have hpl : sp.size ≤ 10010 := by
    have := packB_length ys (by omega)
    rw [← hspb, size_bytesOf] at this
    omega
  rw [hsp] at HK
  rw [hsn] at HP
  have HU : Hid (∀ (j : Nat) (w : World), j < sp.size → Sent am an w → Calls Tryd.prog 27 #[.string (sp.extract 0 j)] w fun e w' => ∃ v, e = .returned (.tuple #[v, .string (sp.extract 0 j), .int .i64 21]) ∧ Below w.heap.size w w') := fun j w hj hs => by
    have hv : unV (bytesOf (sp.extract 0 j)) = (21, [], 0) := by
      rw [extract_take, hspb, unV_short (by omega) h4]
      rw [← hspb, size_bytesOf]; exact hj
    refine (unpack_is am an (sp.extract 0 j) (by simp; omega) hv w hs).mono fun e w' ⟨v, he, _, _, hb⟩ => ⟨v, ?_, hb⟩
    rw [he, extract_whole]; rfl
  have HS := hid hS
  have HSH := hid (shown_any am an W hS)
  have hm1 : min (1 : Int) (sn.size : Int) = 1 := by omega
  have im := ite_min
  clear hsn hsb hv1 hS hr h4 hsp hspb hM hn
  by_cases q1 : at' < 0
  · go_enter Tryd.func6, Tryd.ntmps6
    go_wp2_with (first
      | (go_at_call 16; ((with_reducible refine (HSH.out).mono ?_); rintro e w1 ⟨rfl, hb1⟩))
      | (go_at_call 26; ((with_reducible refine (HK.out _ (by (repeat' (first | (with_reducible exact Below.refl _ _) | (with_reducible assumption) | (with_reducible refine Below.new ?_ _) | (with_reducible refine Below.alloc ?_ ?_ _) | (with_reducible refine Below.drew ?_) | (with_reducible refine Below.setCell ?_ ?_ _) | (refine Below.step ?_ (by assumption)) | go_size)))).mono ?_); rintro e w2 ⟨rfl, hb2⟩))
      | (go_at_call 17; ((with_reducible refine (HP.out _).mono ?_); rintro e w3 ⟨rfl, hb3⟩))
      | (go_at_call 18; ((with_reducible refine (HG.out _ (HS.out.below (by (repeat' (first | (with_reducible exact Below.refl _ _) | (with_reducible assumption) | (with_reducible refine Below.new ?_ _) | (with_reducible refine Below.alloc ?_ ?_ _) | (with_reducible refine Below.drew ?_) | (with_reducible refine Below.setCell ?_ ?_ _) | (refine Below.step ?_ (by assumption)) | go_size))))).mono ?_); rintro e w4 ⟨rfl, hb4⟩)))
    go_ret
    exact ⟨rfl, by (repeat' (first | (with_reducible exact Below.refl _ _) | (with_reducible assumption) | (with_reducible refine Below.new ?_ _) | (with_reducible refine Below.alloc ?_ ?_ _) | (with_reducible refine Below.drew ?_) | (with_reducible refine Below.setCell ?_ ?_ _) | (refine Below.step ?_ (by assumption)) | go_size))⟩
  obtain ⟨J, rfl⟩ := Int.eq_ofNat_of_zero_le (show 0 ≤ at' by omega)
  by_cases q2 : sp.size ≤ J
  · go_enter Tryd.func6, Tryd.ntmps6
    go_wp2_with (first
      | (go_at_call 16; ((with_reducible refine (HSH.out).mono ?_); rintro e w1 ⟨rfl, hb1⟩))
      | (go_at_call 26; ((with_reducible refine (HK.out _ (by (repeat' (first | (with_reducible exact Below.refl _ _) | (with_reducible assumption) | (with_reducible refine Below.new ?_ _) | (with_reducible refine Below.alloc ?_ ?_ _) | (with_reducible refine Below.drew ?_) | (with_reducible refine Below.setCell ?_ ?_ _) | (refine Below.step ?_ (by assumption)) | go_size)))).mono ?_); rintro e w2 ⟨rfl, hb2⟩))
      | (go_at_call 17; ((with_reducible refine (HP.out _).mono ?_); rintro e w3 ⟨rfl, hb3⟩))
      | (go_at_call 18; ((with_reducible refine (HG.out _ (HS.out.below (by (repeat' (first | (with_reducible exact Below.refl _ _) | (with_reducible assumption) | (with_reducible refine Below.new ?_ _) | (with_reducible refine Below.alloc ?_ ?_ _) | (with_reducible refine Below.drew ?_) | (with_reducible refine Below.setCell ?_ ?_ _) | (refine Below.step ?_ (by assumption)) | go_size))))).mono ?_); rintro e w4 ⟨rfl, hb4⟩)))
    go_ret
    exact ⟨rfl, by (repeat' (first | (with_reducible exact Below.refl _ _) | (with_reducible assumption) | (with_reducible refine Below.new ?_ _) | (with_reducible refine Below.alloc ?_ ?_ _) | (with_reducible refine Below.drew ?_) | (with_reducible refine Below.setCell ?_ ?_ _) | (refine Below.step ?_ (by assumption)) | go_size))⟩
  · have q3 : J < sp.size := by omega
    clear q1 q2
    go_enter Tryd.func6, Tryd.ntmps6
    go_wp2_with (first
      | (go_at_call 16; ((with_reducible refine (HSH.out).mono ?_); rintro e w1 ⟨rfl, hb1⟩))
      | (go_at_call 26; ((with_reducible refine (HK.out _ (by (repeat' (first | (with_reducible exact Below.refl _ _) | (with_reducible assumption) | (with_reducible refine Below.new ?_ _) | (with_reducible refine Below.alloc ?_ ?_ _) | (with_reducible refine Below.drew ?_) | (with_reducible refine Below.setCell ?_ ?_ _) | (refine Below.step ?_ (by assumption)) | go_size)))).mono ?_); rintro e w2 ⟨rfl, hb2⟩))
      | (go_at_call 17; ((with_reducible refine (HP.out _).mono ?_); rintro e w3 ⟨rfl, hb3⟩))
      | (go_at_call 18; ((with_reducible refine (HG.out _ (HS.out.below (by (repeat' (first | (with_reducible exact Below.refl _ _) | (with_reducible assumption) | (with_reducible refine Below.new ?_ _) | (with_reducible refine Below.alloc ?_ ?_ _) | (with_reducible refine Below.drew ?_) | (with_reducible refine Below.setCell ?_ ?_ _) | (refine Below.step ?_ (by assumption)) | go_size))))).mono ?_); rintro e w4 ⟨rfl, hb4⟩))
      | (go_at_call 27; ((with_reducible refine (HU.out J _ (by omega) (HS.out.below (by (repeat' (first | (with_reducible exact Below.refl _ _) | (with_reducible assumption) | (with_reducible refine Below.new ?_ _) | (with_reducible refine Below.alloc ?_ ?_ _) | (with_reducible refine Below.drew ?_) | (with_reducible refine Below.setCell ?_ ?_ _) | (refine Below.step ?_ (by assumption)) | go_size))))).mono ?_); rintro e w5 ⟨v, rfl, hb5⟩)))
    go_ret
    exact ⟨rfl, by (repeat' (first | (with_reducible exact Below.refl _ _) | (with_reducible assumption) | (with_reducible refine Below.new ?_ _) | (with_reducible refine Below.alloc ?_ ?_ _) | (with_reducible refine Below.drew ?_) | (with_reducible refine Below.setCell ?_ ?_ _) | (refine Below.step ?_ (by assumption)) | go_size))⟩

theorem VarintMore_walk (v : Value) (ao : Option Addr) (cap : Nat) (xs : List Int) (hv : v = .slice ao xs.length cap) (at' : Int) (ha : I64 at') (n : Int) (hn : U64 n) (W : World) (hr : RowAt W ao xs) (h1 : xs.length ≤ cap) (h2 : cap ≤ maxLen) (h3 : ao = none → cap = 0)
    (h4 : ∀ k, k < xs.length → I64 (xs[k]?.getD 0)) (am an : Addr) (hS : Sent am an W) :
    Calls Tryd.prog 6 #[v, .int .i64 at', .int .u64 n] W fun e w' => e = .returned (.bool true) ∧ Below W.heap.size W w' := by
  subst hv
  obtain ⟨n, rfl⟩ := Int.eq_ofNat_of_zero_le hn.1
  refine vmore_core ao xs.length (min xs.length 1000) cap (xs.take 1000) at' n (by have := hn.2; omega) W am an (hr.take 1000) (by rw [List.length_take]; omega) (by omega) h1 h2 h3 (fun x hx => ?_) hS
  exact inI_all h4 x (List.mem_of_mem_take hx)
end Go.Proofs.YtpgifmccajcgkaaDoor
