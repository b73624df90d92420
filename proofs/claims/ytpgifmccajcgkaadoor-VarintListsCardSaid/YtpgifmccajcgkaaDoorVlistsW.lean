/- Varints: the walk of VarintLists. -/
import Derived.Test.YtpgifmccajcgkaaDoorVmoreW
namespace Go.Proofs.YtpgifmccajcgkaaDoor
set_option linter.unusedVariables false
set_option linter.unusedSimpArgs false
open Go.ChangeShapes Go.WideShapes Go.ChangeAt Go.RowKit Go.Joins

theorem vfew_nil (w : World) : Calls Tryd.prog 28 #[.slice none 0 0] w fun e w' => e = .returned (.slice none 0 0) ∧ w = w' := by
  go_enter Tryd.func28, Tryd.ntmps28
  go_wp2
  ((show bodyPost _ _ _ _ _ _); refine bodyPost_ret (by simp only [results, Tryd.results28]; go_simp; try rfl) rfl ?_)
  exact ⟨rfl, rfl⟩
theorem vfew_some (a : Addr) (n cap : Nat) (h1 : n ≤ cap) (h2 : cap ≤ maxLen) (w : World) : Calls Tryd.prog 28 #[.slice (some a) n cap] w fun e w' => e = .returned (.slice (some a) (min n 1010) cap) ∧ w = w' := by
  simp only [maxLen] at h2
  have im := ite_min
  go_enter Tryd.func28, Tryd.ntmps28
  go_wp2
  ((show bodyPost _ _ _ _ _ _); refine bodyPost_ret (by simp only [results, Tryd.results28]; go_simp; try rfl) rfl ?_)
  exact ⟨by rw [show (min (n : Int) 1010).toNat = min n 1010 by omega], rfl⟩
theorem vfew_any (ao : Option Addr) (cap : Nat) (xs : List Int) (w : World) (h1 : xs.length ≤ cap) (h2 : cap ≤ maxLen) (h3 : ao = none → cap = 0) :
    Calls Tryd.prog 28 #[.slice ao xs.length cap] w fun e w' => e = .returned (.slice ao (xs.take 1010).length cap) ∧ w = w' := by
  have e : (xs.take 1010).length = min xs.length 1010 := by rw [List.length_take, Nat.min_comm]
  rw [e]
  cases ao with
  | none =>
    have := h3 rfl
    subst this
    have : xs.length = 0 := by omega
    rw [this]
    exact vfew_nil w
  | some a => exact vfew_some a _ cap h1 h2 w

/-- 'Pack', of a list of any length. -/
theorem pack_is (v : Value) (l : List Int) (w : World) (hv : IntsAt w v l) (hall : ∀ n ∈ l, inI n) (c : Nat) (b : List UInt8) (hp : packV l = (c, b)) :
    Calls Tryd.prog 26 #[v] w fun e w' => e = .returned (.tuple #[strV b, .int .i64 (c : Int)]) ∧ Below w.heap.size w w' := by
  unfold packV at hp
  split at hp
  · simp only [Prod.mk.injEq] at hp
    obtain ⟨rfl, rfl⟩ := hp
    exact pack_long v l w hv (by omega)
  · simp only [Prod.mk.injEq] at hp
    obtain ⟨rfl, rfl⟩ := hp
    exact pack_short v l w hv hall (by omega)

set_option maxRecDepth 100000 in
set_option maxHeartbeats 4000000 in
theorem vlists_core (ao : Option Addr) (L cap : Nat) (ys : List Int) (s : ByteArray) (hs : s.size ≤ 9223372036854775807) (W : World) (am an : Addr) (hr : RowAt W ao ys) (hM1 : ys.length ≤ 1010) (h4 : ∀ x ∈ ys, inI x)
    (HF : Hid (∀ w, Calls Tryd.prog 28 #[.slice ao L cap] w fun e w' => e = .returned (.slice ao ys.length cap) ∧ w = w')) (hS : Sent am an W) :
    Calls Tryd.prog 7 #[.slice ao L cap, .string s] W fun e w' => e = .returned (.bool true) ∧ Below W.heap.size W w' := by
  have HC := hid (fun w => vcut_any s hs w)
  obtain ⟨t, ht⟩ : ∃ t, s.extract 0 (min s.size 2000) = t := ⟨_, rfl⟩
  have htz : t.size ≤ 2000 := by rw [← ht]; simp; omega
  rw [ht] at HC
  obtain ⟨M, hM⟩ : ∃ M, ys.length = M := ⟨_, rfl⟩
  obtain ⟨c, b, hp⟩ : ∃ c b, packV ys = (c, b) := ⟨_, _, rfl⟩
  have HK := hid (fun w (h : Below W.heap.size W w) => pack_is _ ys w ((hr.below h).ints cap) h4 c b hp)
  obtain ⟨sp, hsp, hspb⟩ : ∃ sp : ByteArray, strV b = .string sp ∧ bytesOf sp = b := ⟨⟨b.toArray⟩, rfl, by simp [bytesOf]⟩
  have hpl : sp.size ≤ 10010 := by
    rw [← size_bytesOf, hspb]
    unfold packV at hp
    split at hp
    · simp only [Prod.mk.injEq] at hp
      obtain ⟨rfl, rfl⟩ := hp
      simp
    · simp only [Prod.mk.injEq] at hp
      obtain ⟨rfl, rfl⟩ := hp
      have := packB_length ys (by omega)
      omega
  rw [hsp] at HK
  -- the second list
  obtain ⟨C2, L2, T2, hv2⟩ : ∃ C L T, unV (bytesOf t) = (C, L, T) := ⟨_, _, _, rfl⟩
  have HU2 := hid (fun w h => unpack_is am an t (by omega) hv2 w h)
  obtain ⟨d, hd, hL2⟩ : ∃ d : ByteArray, strV (packB L2) = .string d ∧ (∀ x ∈ L2, inI x) ∧ L2.length ≤ 1000 ∧ d.size ≤ 10010 ∧ (C2 = 0 → d ++ t.extract T2 t.size = t) := by
    refine ⟨⟨(packB L2).toArray⟩, rfl, ?_⟩
    have hb : bytesOf (⟨(packB L2).toArray⟩ : ByteArray) = packB L2 := by simp [bytesOf]
    have hsz : (⟨(packB L2).toArray⟩ : ByteArray).size = (packB L2).length := by rw [← hb, size_bytesOf]
    by_cases hC : C2 = 0
    · subst hC
      obtain ⟨h1, h2, h3, _⟩ := unV_ok hv2
      refine ⟨h3, h2, ?_, fun _ => bytesOf_inj ?_⟩
      · have := packB_length L2 h2; omega
      · rw [bytesOf_append, bytesOf_extract, hb, ← h1]
    · have h1 := unV_bad (s := bytesOf t) (by rw [hv2]; exact hC)
      rw [hv2] at h1
      simp only [Prod.mk.injEq] at h1
      obtain ⟨_, rfl, rfl⟩ := h1
      refine ⟨by simp, by simp, ?_, fun h => absurd h hC⟩
      have := packB_length [] (by simp)
      simp at this; omega
  obtain ⟨hin2, hl2, hdl, heq2⟩ := hL2
  generalize t.extract T2 t.size = r2 at HU2 heq2
  have HK2 := hid (fun v w (h : IntsAt w v L2) => pack_short v L2 w h hin2 hl2)
  rw [hd] at HK2
  have HS := hid hS
  have HSH := hid (shown_any am an W hS)
  clear hd hin2 hv2 hS ht
  by_cases hA : ys.length ≤ 1000
  · have hp2 : c = 0 ∧ b = packB ys := by
      unfold packV at hp
      rw [if_neg (by omega)] at hp
      simp only [Prod.mk.injEq] at hp
      exact ⟨hp.1.symm, hp.2.symm⟩
    obtain ⟨rfl, rfl⟩ := hp2
    have hv1 : unV (bytesOf (sp ++ t)) = (0, ys, sp.size) := by
      rw [bytesOf_append, hspb, unV_pack hA h4, ← hspb, size_bytesOf]
    have HU1 := hid (fun w h => unpack_is am an (sp ++ t) (by simp [ByteArray.size_append]; omega) hv1 w h)
    rw [extract_append] at HU1
    have HSM := hid (fun v w (h : IntsAt w v ys) (hb : Below W.heap.size W w) => same_any v (.slice ao ys.length cap) ys ys w h ((hr.below hb).ints cap) (by omega) (by omega))
    simp only [decide_true] at HSM
    rw [hM] at HF HK HSM hA HU1
    have HM := hid hM
    clear hsp hspb hp hv1 hM h4 hr hM1
    by_cases hC : C2 = 0
    · have heq := heq2 hC
      subst hC
      have hsz3 : d.size + r2.size ≤ 2000 := by rw [← ByteArray.size_append, heq]; exact htz
      clear heq2
      go_enter Tryd.func7, Tryd.ntmps7
      go_wp2_with (first
        | (go_at_call 16; ((with_reducible refine (HSH.out).mono ?_); rintro e w1 ⟨rfl, hb1⟩))
        | (go_at_call 28; ((with_reducible refine (HF.out _).mono ?_); rintro e w2 ⟨rfl, rfl⟩))
        | (go_at_call 19; ((with_reducible refine (HC.out _).mono ?_); rintro e w2 ⟨rfl, rfl⟩))
        | (go_at_call 27; first
          | ((with_reducible refine (HU1.out _ (HS.out.below (by (repeat' (first | (with_reducible exact Below.refl _ _) | (with_reducible assumption) | (with_reducible refine Below.new ?_ _) | (with_reducible refine Below.alloc ?_ ?_ _) | (with_reducible refine Below.drew ?_) | (with_reducible refine Below.setCell ?_ ?_ _) | (refine Below.step ?_ (by assumption)) | go_size))))).mono ?_); rintro e w3 ⟨v1, rfl, hown1, _, hb3⟩; have hi1 := hid (IntsAt.own (HM.out ▸ hown1)); clear hown1)
          | ((with_reducible refine (HU2.out _ (HS.out.below (by (repeat' (first | (with_reducible exact Below.refl _ _) | (with_reducible assumption) | (with_reducible refine Below.new ?_ _) | (with_reducible refine Below.alloc ?_ ?_ _) | (with_reducible refine Below.drew ?_) | (with_reducible refine Below.setCell ?_ ?_ _) | (refine Below.step ?_ (by assumption)) | go_size))))).mono ?_); rintro e w4 ⟨v2, rfl, hown2, _, hb4⟩; have hi2 := hid (IntsAt.own hown2); clear hown2))
        | (go_at_call 26; first
          | ((with_reducible refine (HK.out _ (by (repeat' (first | (with_reducible exact Below.refl _ _) | (with_reducible assumption) | (with_reducible refine Below.new ?_ _) | (with_reducible refine Below.alloc ?_ ?_ _) | (with_reducible refine Below.drew ?_) | (with_reducible refine Below.setCell ?_ ?_ _) | (refine Below.step ?_ (by assumption)) | go_size)))).mono ?_); rintro e w5 ⟨rfl, hb5⟩)
          | ((with_reducible refine (HK2.out _ _ hi2.out).mono ?_); rintro e w6 ⟨rfl, hb6⟩))
        | (go_at_call 29; ((with_reducible refine (HSM.out _ _ hi1.out (by (repeat' (first | (with_reducible exact Below.refl _ _) | (with_reducible assumption) | (with_reducible refine Below.new ?_ _) | (with_reducible refine Below.alloc ?_ ?_ _) | (with_reducible refine Below.drew ?_) | (with_reducible refine Below.setCell ?_ ?_ _) | (refine Below.step ?_ (by assumption)) | go_size)))).mono ?_); rintro e w7 ⟨rfl, hb7⟩)))
      go_ret
      exact ⟨rfl, by (repeat' (first | (with_reducible exact Below.refl _ _) | (with_reducible assumption) | (with_reducible refine Below.new ?_ _) | (with_reducible refine Below.alloc ?_ ?_ _) | (with_reducible refine Below.drew ?_) | (with_reducible refine Below.setCell ?_ ?_ _) | (refine Below.step ?_ (by assumption)) | go_size))⟩
    · have hCb : ((C2 : Int) == 0) = false := by simpa using hC
      have hCn : ((C2 : Int) != 0) = true := by simpa using hC
      clear heq2
      generalize (C2 : Int) = c2 at HU2 hCb hCn
      clear hC
      go_enter Tryd.func7, Tryd.ntmps7
      go_wp2_with (first
        | (go_at_call 16; ((with_reducible refine (HSH.out).mono ?_); rintro e w1 ⟨rfl, hb1⟩))
        | (go_at_call 28; ((with_reducible refine (HF.out _).mono ?_); rintro e w2 ⟨rfl, rfl⟩))
        | (go_at_call 19; ((with_reducible refine (HC.out _).mono ?_); rintro e w2 ⟨rfl, rfl⟩))
        | (go_at_call 27; first
          | ((with_reducible refine (HU1.out _ (HS.out.below (by (repeat' (first | (with_reducible exact Below.refl _ _) | (with_reducible assumption) | (with_reducible refine Below.new ?_ _) | (with_reducible refine Below.alloc ?_ ?_ _) | (with_reducible refine Below.drew ?_) | (with_reducible refine Below.setCell ?_ ?_ _) | (refine Below.step ?_ (by assumption)) | go_size))))).mono ?_); rintro e w3 ⟨v1, rfl, hown1, _, hb3⟩; have hi1 := hid (IntsAt.own (HM.out ▸ hown1)); clear hown1)
          | ((with_reducible refine (HU2.out _ (HS.out.below (by (repeat' (first | (with_reducible exact Below.refl _ _) | (with_reducible assumption) | (with_reducible refine Below.new ?_ _) | (with_reducible refine Below.alloc ?_ ?_ _) | (with_reducible refine Below.drew ?_) | (with_reducible refine Below.setCell ?_ ?_ _) | (refine Below.step ?_ (by assumption)) | go_size))))).mono ?_); rintro e w4 ⟨v2, rfl, hown2, _, hb4⟩; have hi2 := hid (IntsAt.own hown2); clear hown2))
        | (go_at_call 26; first
          | ((with_reducible refine (HK.out _ (by (repeat' (first | (with_reducible exact Below.refl _ _) | (with_reducible assumption) | (with_reducible refine Below.new ?_ _) | (with_reducible refine Below.alloc ?_ ?_ _) | (with_reducible refine Below.drew ?_) | (with_reducible refine Below.setCell ?_ ?_ _) | (refine Below.step ?_ (by assumption)) | go_size)))).mono ?_); rintro e w5 ⟨rfl, hb5⟩)
          | ((with_reducible refine (HK2.out _ _ hi2.out).mono ?_); rintro e w6 ⟨rfl, hb6⟩))
        | (go_at_call 29; ((with_reducible refine (HSM.out _ _ hi1.out (by (repeat' (first | (with_reducible exact Below.refl _ _) | (with_reducible assumption) | (with_reducible refine Below.new ?_ _) | (with_reducible refine Below.alloc ?_ ?_ _) | (with_reducible refine Below.drew ?_) | (with_reducible refine Below.setCell ?_ ?_ _) | (refine Below.step ?_ (by assumption)) | go_size)))).mono ?_); rintro e w7 ⟨rfl, hb7⟩)))
      go_ret
      exact ⟨rfl, by (repeat' (first | (with_reducible exact Below.refl _ _) | (with_reducible assumption) | (with_reducible refine Below.new ?_ _) | (with_reducible refine Below.alloc ?_ ?_ _) | (with_reducible refine Below.drew ?_) | (with_reducible refine Below.setCell ?_ ?_ _) | (refine Below.step ?_ (by assumption)) | go_size))⟩
  · have hp2 : c = 20 ∧ b = [] := by
      unfold packV at hp
      rw [if_pos (by omega)] at hp
      simp only [Prod.mk.injEq] at hp
      exact ⟨hp.1.symm, hp.2.symm⟩
    obtain ⟨rfl, rfl⟩ := hp2
    obtain ⟨C1, L1, T1, hv1⟩ : ∃ C L T, unV (bytesOf (sp ++ t)) = (C, L, T) := ⟨_, _, _, rfl⟩
    have HU1 := hid (fun w h => unpack_is am an (sp ++ t) (by simp [ByteArray.size_append]; omega) hv1 w h)
    rw [hM] at HF HK hA
    have hA2 : 1000 < M := by omega
    have hA3 : decide ((M : Int) ≤ 1000) = false := by rw [decide_eq_false_iff_not]; omega
    have hM3 : M ≤ 1010 := by omega
    clear hsp hspb hp hv1 hM h4 hr hM1 hA
    by_cases hC : C2 = 0
    · have heq := heq2 hC
      subst hC
      have hsz3 : d.size + r2.size ≤ 2000 := by rw [← ByteArray.size_append, heq]; exact htz
      clear heq2
      go_enter Tryd.func7, Tryd.ntmps7
      go_wp2_with (first
        | (go_at_call 16; ((with_reducible refine (HSH.out).mono ?_); rintro e w1 ⟨rfl, hb1⟩))
        | (go_at_call 28; ((with_reducible refine (HF.out _).mono ?_); rintro e w2 ⟨rfl, rfl⟩))
        | (go_at_call 19; ((with_reducible refine (HC.out _).mono ?_); rintro e w2 ⟨rfl, rfl⟩))
        | (go_at_call 27; first
          | ((with_reducible refine (HU1.out _ (HS.out.below (by (repeat' (first | (with_reducible exact Below.refl _ _) | (with_reducible assumption) | (with_reducible refine Below.new ?_ _) | (with_reducible refine Below.alloc ?_ ?_ _) | (with_reducible refine Below.drew ?_) | (with_reducible refine Below.setCell ?_ ?_ _) | (refine Below.step ?_ (by assumption)) | go_size))))).mono ?_); rintro e w3 ⟨v1, rfl, _, _, hb3⟩)
          | ((with_reducible refine (HU2.out _ (HS.out.below (by (repeat' (first | (with_reducible exact Below.refl _ _) | (with_reducible assumption) | (with_reducible refine Below.new ?_ _) | (with_reducible refine Below.alloc ?_ ?_ _) | (with_reducible refine Below.drew ?_) | (with_reducible refine Below.setCell ?_ ?_ _) | (refine Below.step ?_ (by assumption)) | go_size))))).mono ?_); rintro e w4 ⟨v2, rfl, hown2, _, hb4⟩; have hi2 := hid (IntsAt.own hown2); clear hown2))
        | (go_at_call 26; first
          | ((with_reducible refine (HK.out _ (by (repeat' (first | (with_reducible exact Below.refl _ _) | (with_reducible assumption) | (with_reducible refine Below.new ?_ _) | (with_reducible refine Below.alloc ?_ ?_ _) | (with_reducible refine Below.drew ?_) | (with_reducible refine Below.setCell ?_ ?_ _) | (refine Below.step ?_ (by assumption)) | go_size)))).mono ?_); rintro e w5 ⟨rfl, hb5⟩)
          | ((with_reducible refine (HK2.out _ _ hi2.out).mono ?_); rintro e w6 ⟨rfl, hb6⟩)))
      go_ret
      exact ⟨rfl, by (repeat' (first | (with_reducible exact Below.refl _ _) | (with_reducible assumption) | (with_reducible refine Below.new ?_ _) | (with_reducible refine Below.alloc ?_ ?_ _) | (with_reducible refine Below.drew ?_) | (with_reducible refine Below.setCell ?_ ?_ _) | (refine Below.step ?_ (by assumption)) | go_size))⟩
    · have hCb : ((C2 : Int) == 0) = false := by simpa using hC
      have hCn : ((C2 : Int) != 0) = true := by simpa using hC
      clear heq2
      generalize (C2 : Int) = c2 at HU2 hCb hCn
      clear hC
      go_enter Tryd.func7, Tryd.ntmps7
      go_wp2_with (first
        | (go_at_call 16; ((with_reducible refine (HSH.out).mono ?_); rintro e w1 ⟨rfl, hb1⟩))
        | (go_at_call 28; ((with_reducible refine (HF.out _).mono ?_); rintro e w2 ⟨rfl, rfl⟩))
        | (go_at_call 19; ((with_reducible refine (HC.out _).mono ?_); rintro e w2 ⟨rfl, rfl⟩))
        | (go_at_call 27; first
          | ((with_reducible refine (HU1.out _ (HS.out.below (by (repeat' (first | (with_reducible exact Below.refl _ _) | (with_reducible assumption) | (with_reducible refine Below.new ?_ _) | (with_reducible refine Below.alloc ?_ ?_ _) | (with_reducible refine Below.drew ?_) | (with_reducible refine Below.setCell ?_ ?_ _) | (refine Below.step ?_ (by assumption)) | go_size))))).mono ?_); rintro e w3 ⟨v1, rfl, _, _, hb3⟩)
          | ((with_reducible refine (HU2.out _ (HS.out.below (by (repeat' (first | (with_reducible exact Below.refl _ _) | (with_reducible assumption) | (with_reducible refine Below.new ?_ _) | (with_reducible refine Below.alloc ?_ ?_ _) | (with_reducible refine Below.drew ?_) | (with_reducible refine Below.setCell ?_ ?_ _) | (refine Below.step ?_ (by assumption)) | go_size))))).mono ?_); rintro e w4 ⟨v2, rfl, hown2, _, hb4⟩; have hi2 := hid (IntsAt.own hown2); clear hown2))
        | (go_at_call 26; first
          | ((with_reducible refine (HK.out _ (by (repeat' (first | (with_reducible exact Below.refl _ _) | (with_reducible assumption) | (with_reducible refine Below.new ?_ _) | (with_reducible refine Below.alloc ?_ ?_ _) | (with_reducible refine Below.drew ?_) | (with_reducible refine Below.setCell ?_ ?_ _) | (refine Below.step ?_ (by assumption)) | go_size)))).mono ?_); rintro e w5 ⟨rfl, hb5⟩)
          | ((with_reducible refine (HK2.out _ _ hi2.out).mono ?_); rintro e w6 ⟨rfl, hb6⟩)))
      go_ret
      exact ⟨rfl, by (repeat' (first | (with_reducible exact Below.refl _ _) | (with_reducible assumption) | (with_reducible refine Below.new ?_ _) | (with_reducible refine Below.alloc ?_ ?_ _) | (with_reducible refine Below.drew ?_) | (with_reducible refine Below.setCell ?_ ?_ _) | (refine Below.step ?_ (by assumption)) | go_size))⟩

theorem VarintLists_walk (v : Value) (ao : Option Addr) (cap : Nat) (xs : List Int) (hv : v = .slice ao xs.length cap) (s : ByteArray) (hs : s.size ≤ 9223372036854775807) (W : World) (hr : RowAt W ao xs) (h1 : xs.length ≤ cap) (h2 : cap ≤ maxLen) (h3 : ao = none → cap = 0)
    (h4 : ∀ k, k < xs.length → I64 (xs[k]?.getD 0)) (am an : Addr) (hS : Sent am an W) :
    Calls Tryd.prog 7 #[v, .string s] W fun e w' => e = .returned (.bool true) ∧ Below W.heap.size W w' := by
  subst hv
  exact vlists_core ao xs.length cap (xs.take 1010) s hs W am an (hr.take 1010) (by rw [List.length_take]; omega) (fun x hx => inI_all h4 x (List.mem_of_mem_take hx)) (hid (fun w => vfew_any ao cap xs w h1 h2 h3)) hS
end Go.Proofs.YtpgifmccajcgkaaDoor
