/- Packed lists: the walk of PackedMore. -/
import Derived.Test.YtpgifmccajcgkaaDoorPkO
namespace Go.Proofs.YtpgifmccajcgkaaDoor
set_option linter.unusedVariables false
set_option linter.unusedSimpArgs false
open Go.ChangeShapes Go.WideShapes Go.ChangeAt Go.RowKit Go.Joins

set_option maxRecDepth 100000 in
set_option maxHeartbeats 4000000 in
theorem pmore_core (ao : Option Addr) (L cap : Nat) (ys : List Int) (at' : Int) (W : World) (am an : Addr) (hr : RowAt W ao ys) (hM : ys.length ≤ 1010) (h1 : ys.length ≤ cap) (h2 : cap ≤ maxLen)
    (h3 : ao = none → cap = 0) (HF : Hid (∀ w, Calls Tryd.prog 32 #[.slice ao L cap] w fun e w' => e = .returned (.slice ao ys.length cap) ∧ w = w')) (hS : Sent am an W) :
    Calls Tryd.prog 11 #[.slice ao L cap, .int .i64 at'] W fun e w' => e = .returned (.bool true) ∧ Below W.heap.size W w' := by
  have HS := hid hS
  have HSH := hid (pshown_any am an W hS)
  have HK := hid (fun w (h : Below W.heap.size W w) => ppack_is _ ys w ((hr.below h).slice h1 h2 h3) (by omega) (Nat.lt_of_lt_of_le hS.pos h.size))
  obtain ⟨pb, pc, hp⟩ : ∃ b c, ppackV ys = (b, c) := ⟨_, _, rfl⟩
  rw [hp] at HK
  obtain ⟨sp, hsp, hspb⟩ : ∃ sp : ByteArray, strV pb = .string sp ∧ bytesOf sp = pb := ⟨⟨pb.toArray⟩, rfl, by simp [bytesOf]⟩
  simp only [hsp] at HK
  clear hr h1 h2 h3 hS hsp
  by_cases hok : okW ys = true
  · rw [ppackV, if_pos hok] at hp
    simp only [Prod.mk.injEq] at hp
    obtain ⟨hpb, rfl⟩ := hp
    rw [← hpb] at hspb
    obtain ⟨hol, hom⟩ := okW_mem hok
    have hsm := natsOf_mem hom
    have hnl : (natsOf ys).length ≤ 1000 := by unfold natsOf; rw [List.length_map]; exact hol
    have hpl : sp.size ≤ 2011 := by
      have := packBy_le hnl hsm
      rw [← hspb, size_bytesOf] at this
      exact this
    have HU : Hid (∀ (j : Nat) (w : World), j < sp.size → Sent am an w → Calls Tryd.prog 36 #[.string (sp.extract 0 j)] w fun e w' => ∃ v, e = .returned (.tuple #[v, .string (sp.extract 0 j), .int .i64 21]) ∧ Below w.heap.size w w') := fun j w hj hs => by
      have hv : punV (bytesOf (sp.extract 0 j)) = (21, [], 0) := by
        rw [extract_take, hspb, pun_short hnl hsm]
        rw [← hspb, size_bytesOf]; exact hj
      refine (punpack_is am an (sp.extract 0 j) (by simp; omega) hv w hs).mono fun e w' ⟨v, he, _, _, hb⟩ => ⟨v, ?_, hb⟩
      rw [he, extract_whole]; rfl
    clear hok hpb hspb hom hsm hnl hol
    by_cases q1 : at' < 0
    · go_enter Tryd.func11, Tryd.ntmps11
      go_wp2_with (first
        | (go_at_call 30; ((with_reducible refine (HSH.out).mono ?_); rintro e w1 ⟨rfl, hb1⟩))
        | (go_at_call 32; ((with_reducible refine (HF.out _).mono ?_); rintro e w2 ⟨rfl, rfl⟩))
        | (go_at_call 31; ((with_reducible refine (HK.out _ (by (repeat' (first | (with_reducible exact Below.refl _ _) | (with_reducible assumption) | (with_reducible refine Below.new ?_ _) | (with_reducible refine Below.alloc ?_ ?_ _) | (with_reducible refine Below.drew ?_) | (with_reducible refine Below.setCell ?_ ?_ _) | (refine Below.step ?_ (by assumption)) | go_size)))).mono ?_); rintro e w2 ⟨rfl, hb2⟩)))
      go_ret
      exact ⟨rfl, by (repeat' (first | (with_reducible exact Below.refl _ _) | (with_reducible assumption) | (with_reducible refine Below.new ?_ _) | (with_reducible refine Below.alloc ?_ ?_ _) | (with_reducible refine Below.drew ?_) | (with_reducible refine Below.setCell ?_ ?_ _) | (refine Below.step ?_ (by assumption)) | go_size))⟩
    · obtain ⟨J, rfl⟩ := Int.eq_ofNat_of_zero_le (show 0 ≤ at' by omega)
      by_cases q2 : sp.size ≤ J
      · go_enter Tryd.func11, Tryd.ntmps11
        go_wp2_with (first
          | (go_at_call 30; ((with_reducible refine (HSH.out).mono ?_); rintro e w1 ⟨rfl, hb1⟩))
          | (go_at_call 32; ((with_reducible refine (HF.out _).mono ?_); rintro e w2 ⟨rfl, rfl⟩))
          | (go_at_call 31; ((with_reducible refine (HK.out _ (by (repeat' (first | (with_reducible exact Below.refl _ _) | (with_reducible assumption) | (with_reducible refine Below.new ?_ _) | (with_reducible refine Below.alloc ?_ ?_ _) | (with_reducible refine Below.drew ?_) | (with_reducible refine Below.setCell ?_ ?_ _) | (refine Below.step ?_ (by assumption)) | go_size)))).mono ?_); rintro e w2 ⟨rfl, hb2⟩)))
        go_ret
        exact ⟨rfl, by (repeat' (first | (with_reducible exact Below.refl _ _) | (with_reducible assumption) | (with_reducible refine Below.new ?_ _) | (with_reducible refine Below.alloc ?_ ?_ _) | (with_reducible refine Below.drew ?_) | (with_reducible refine Below.setCell ?_ ?_ _) | (refine Below.step ?_ (by assumption)) | go_size))⟩
      · have q3 : J < sp.size := by omega
        clear q1 q2
        go_enter Tryd.func11, Tryd.ntmps11
        go_wp2_with (first
          | (go_at_call 30; ((with_reducible refine (HSH.out).mono ?_); rintro e w1 ⟨rfl, hb1⟩))
          | (go_at_call 32; ((with_reducible refine (HF.out _).mono ?_); rintro e w2 ⟨rfl, rfl⟩))
          | (go_at_call 31; ((with_reducible refine (HK.out _ (by (repeat' (first | (with_reducible exact Below.refl _ _) | (with_reducible assumption) | (with_reducible refine Below.new ?_ _) | (with_reducible refine Below.alloc ?_ ?_ _) | (with_reducible refine Below.drew ?_) | (with_reducible refine Below.setCell ?_ ?_ _) | (refine Below.step ?_ (by assumption)) | go_size)))).mono ?_); rintro e w2 ⟨rfl, hb2⟩))
          | (go_at_call 36; ((with_reducible refine (HU.out J _ (by omega) (HS.out.below (by (repeat' (first | (with_reducible exact Below.refl _ _) | (with_reducible assumption) | (with_reducible refine Below.new ?_ _) | (with_reducible refine Below.alloc ?_ ?_ _) | (with_reducible refine Below.drew ?_) | (with_reducible refine Below.setCell ?_ ?_ _) | (refine Below.step ?_ (by assumption)) | go_size))))).mono ?_); rintro e w5 ⟨v, rfl, hb5⟩)))
        go_ret
        exact ⟨rfl, by (repeat' (first | (with_reducible exact Below.refl _ _) | (with_reducible assumption) | (with_reducible refine Below.new ?_ _) | (with_reducible refine Below.alloc ?_ ?_ _) | (with_reducible refine Below.drew ?_) | (with_reducible refine Below.setCell ?_ ?_ _) | (refine Below.step ?_ (by assumption)) | go_size))⟩
  · rw [ppackV, if_neg hok] at hp
    simp only [Prod.mk.injEq] at hp
    obtain ⟨rfl, rfl⟩ := hp
    clear hok hspb
    go_enter Tryd.func11, Tryd.ntmps11
    go_wp2_with (first
      | (go_at_call 30; ((with_reducible refine (HSH.out).mono ?_); rintro e w1 ⟨rfl, hb1⟩))
      | (go_at_call 32; ((with_reducible refine (HF.out _).mono ?_); rintro e w2 ⟨rfl, rfl⟩))
      | (go_at_call 31; ((with_reducible refine (HK.out _ (by (repeat' (first | (with_reducible exact Below.refl _ _) | (with_reducible assumption) | (with_reducible refine Below.new ?_ _) | (with_reducible refine Below.alloc ?_ ?_ _) | (with_reducible refine Below.drew ?_) | (with_reducible refine Below.setCell ?_ ?_ _) | (refine Below.step ?_ (by assumption)) | go_size)))).mono ?_); rintro e w2 ⟨rfl, hb2⟩)))
    go_ret
    exact ⟨rfl, by (repeat' (first | (with_reducible exact Below.refl _ _) | (with_reducible assumption) | (with_reducible refine Below.new ?_ _) | (with_reducible refine Below.alloc ?_ ?_ _) | (with_reducible refine Below.drew ?_) | (with_reducible refine Below.setCell ?_ ?_ _) | (refine Below.step ?_ (by assumption)) | go_size))⟩

theorem PackedMore_walk (v : Value) (ao : Option Addr) (cap : Nat) (xs : List Int) (hv : v = .slice ao xs.length cap) (at' : Int) (ha : I64 at') (W : World) (hr : RowAt W ao xs) (h1 : xs.length ≤ cap) (h2 : cap ≤ maxLen) (h3 : ao = none → cap = 0)
    (h4 : ∀ k, k < xs.length → I64 (xs[k]?.getD 0)) (am an : Addr) (hS : Sent am an W) :
    Calls Tryd.prog 11 #[v, .int .i64 at'] W fun e w' => e = .returned (.bool true) ∧ Below W.heap.size W w' := by
  subst hv
  exact pmore_core ao xs.length cap (xs.take 1010) at' W am an (hr.take 1010) (by rw [List.length_take]; omega) (by rw [List.length_take]; omega) h2 h3 (hid (fun w => pfew_any ao cap xs w h1 h2 h3)) hS
end Go.Proofs.YtpgifmccajcgkaaDoor
