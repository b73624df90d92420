/- Packed lists: the walk of PackedWidths. -/
import Derived.Test.YtpgifmccajcgkaaDoorPkO
namespace Go.Proofs.YtpgifmccajcgkaaDoor
set_option linter.unusedVariables false
set_option linter.unusedSimpArgs false
open Go.ChangeShapes Go.WideShapes Go.ChangeAt Go.RowKit Go.Joins

theorem maxL_snoc (l : List Nat) (y : Nat) : maxL (l ++ [y]) = max (maxL l) y := by unfold maxL; rw [List.foldl_append]; rfl
theorem max_step {ys : List Int} (h : ∀ x ∈ ys, 0 ≤ x ∧ x ≤ 65535) {k : Nat} (hk : k < ys.length) :
    max (maxL (natsOf (ys.take k)) : Int) (ys[k]?.getD 0) = (maxL (natsOf (ys.take (k + 1))) : Int) ∧ maxL (natsOf (ys.take k)) ≤ 65535 ∧ 0 ≤ ys[k]?.getD 0 ∧ ys[k]?.getD 0 ≤ 65535 := by
  have e : natsOf (ys.take (k + 1)) = natsOf (ys.take k) ++ [(ys[k]?.getD 0).toNat] := by
    rw [List.take_succ_eq_append_getElem hk, List.getElem?_eq_getElem hk]
    simp only [natsOf, List.map_append, List.map_cons, List.map_nil, Option.getD_some]
  have hy : 0 ≤ ys[k]?.getD 0 ∧ ys[k]?.getD 0 ≤ 65535 := by
    rw [List.getElem?_eq_getElem hk]; exact h _ (List.getElem_mem hk)
  refine ⟨?_, ?_, hy⟩
  · rw [e, maxL_snoc]; omega
  · rcases maxL_mem (natsOf (ys.take k)) with h0 | h0
    · omega
    · exact natsOf_mem (fun x hx => h x (List.mem_of_mem_take hx)) _ h0
theorem putB_two {m : Nat} (h : m ≤ 1000) : (putB m).length = if 127 < m then 2 else 1 := by
  by_cases hm : m < 128
  · rw [putB_small hm, if_neg (by omega)]; rfl
  · rw [putB_big (by omega), putB_small (m := m / 128) (by omega), if_pos (by omega)]; rfl
theorem okW_of {ys : List Int} (hl : ys.length ≤ 1000) (h : ∀ j, j < ys.length → 0 ≤ ys[j]?.getD 0 ∧ ys[j]?.getD 0 ≤ 65535) : okW ys = true := by
  unfold okW
  simp only [Bool.and_eq_true, decide_eq_true_eq, List.all_eq_true]
  refine ⟨hl, fun x hx => ?_⟩
  obtain ⟨j, hj, rfl⟩ := List.getElem_of_mem hx
  have := h j hj
  rwa [List.getElem?_eq_getElem hj] at this

set_option maxRecDepth 100000 in
set_option maxHeartbeats 4000000 in
theorem pwidths_bad (ao : Option Addr) (L cap : Nat) (ys : List Int) (W : World) (am an : Addr) (hr : RowAt W ao ys) (hM : ys.length ≤ 1010) (h1 : ys.length ≤ cap) (h2 : cap ≤ maxLen)
    (h3 : ao = none → cap = 0) (h4 : ∀ k, k < ys.length → I64 (ys[k]?.getD 0)) (HF : Hid (∀ w, Calls Tryd.prog 32 #[.slice ao L cap] w fun e w' => e = .returned (.slice ao ys.length cap) ∧ w = w')) (hS : Sent am an W) (hok : okW ys = false) :
    Calls Tryd.prog 12 #[.slice ao L cap] W fun e w' => e = .returned (.bool true) ∧ Below W.heap.size W w' := by
  have HSH := hid (pshown_any am an W hS)
  have HW := hid (fun w (h : Below W.heap.size W w) => width_bad _ ys w ((hr.below h).ints cap) (by omega) hok)
  have HR := hid hr
  have H4 := hid h4
  have HO : Hid (∀ (h : ys.length ≤ 1000), (∀ j, j < ys.length → 0 ≤ ys[j]?.getD 0 ∧ ys[j]?.getD 0 ≤ 65535) → False) := fun h g => by rw [okW_of h g] at hok; cases hok
  obtain ⟨M, hMe⟩ : ∃ M, ys.length = M := ⟨_, rfl⟩
  have HM := hid hMe
  rw [hMe] at HW HF hM h1 HO
  have im := ite_max
  clear hS hr h4 hMe hok h3
  go_enter Tryd.func12, Tryd.ntmps12
  go_wp2_with (first
    | (go_at_call 30; ((with_reducible refine (HSH.out).mono ?_); rintro e w1 ⟨rfl, hb1⟩))
    | (go_at_call 32; ((with_reducible refine (HF.out _).mono ?_); rintro e w2 ⟨rfl, rfl⟩))
    | (go_at_call 34; ((with_reducible refine (HW.out _ (by (repeat' (first | (with_reducible exact Below.refl _ _) | (with_reducible assumption) | (with_reducible refine Below.new ?_ _) | (with_reducible refine Below.alloc ?_ ?_ _) | (with_reducible refine Below.drew ?_) | (with_reducible refine Below.setCell ?_ ?_ _) | (refine Below.step ?_ (by assumption)) | go_size)))).mono ?_); rintro e w2 ⟨rfl, rfl⟩)))
  go_loopw [6, 7] (fun v i wr => ∃ k m : Nat, k ≤ M ∧ i = .int .i64 k ∧ v = .int .i64 m ∧ m ≤ 65535 ∧ (∀ j, j < k → 0 ≤ ys[j]?.getD 0 ∧ ys[j]?.getD 0 ≤ 65535) ∧ Below w1.heap.size w1 wr) (fun _ i _ => M - (intOf i).toNat)
  case atStart => exact ⟨0, 0, Nat.zero_le _, rfl, rfl, by omega, by simp, by (repeat' (first | (with_reducible exact Below.refl _ _) | (with_reducible assumption) | (with_reducible refine Below.new ?_ _) | (with_reducible refine Below.alloc ?_ ?_ _) | (with_reducible refine Below.drew ?_) | (with_reducible refine Below.setCell ?_ ?_ _) | (refine Below.step ?_ (by assumption)) | go_size))⟩
  case round =>
    obtain ⟨k, m, hk, rfl, rfl, hm, hpre, hbel⟩ := hrel
    have HP := hid hpre; clear hpre
    by_cases hlt : k < M
    · obtain ⟨b, o, rfl, hc⟩ := HR.out (by rw [HM.out]; omega)
      have e0 := cell_step (cell_step (hc k (by rw [HM.out]; omega)) hb1) hbel
      have hyr := H4.out k (by rw [HM.out]; exact hlt)
      obtain ⟨y, hy⟩ : ∃ y, ys[k]?.getD 0 = y := ⟨_, rfl⟩
      rw [hy] at e0 hyr
      have HY := hid hy
      clear hc hy
      by_cases q1 : y < 0
      · go_wp2
        go_ret
        exact ⟨rfl, by (repeat' (first | (with_reducible exact Below.refl _ _) | (with_reducible assumption) | (with_reducible refine Below.new ?_ _) | (with_reducible refine Below.alloc ?_ ?_ _) | (with_reducible refine Below.drew ?_) | (with_reducible refine Below.setCell ?_ ?_ _) | (refine Below.step ?_ (by assumption)) | go_size))⟩
      · by_cases q2 : 65535 < y
        · go_wp2
          go_ret
          exact ⟨rfl, by (repeat' (first | (with_reducible exact Below.refl _ _) | (with_reducible assumption) | (with_reducible refine Below.new ?_ _) | (with_reducible refine Below.alloc ?_ ?_ _) | (with_reducible refine Below.drew ?_) | (with_reducible refine Below.setCell ?_ ?_ _) | (refine Below.step ?_ (by assumption)) | go_size))⟩
        · obtain ⟨Y, rfl⟩ := Int.eq_ofNat_of_zero_le (show 0 ≤ y by omega)
          have hmx : max (m : Int) (Y : Int) = ((max m Y : Nat) : Int) := by omega
          obtain ⟨z, hz⟩ : ∃ z, max m Y = z := ⟨_, rfl⟩
          rw [hz] at hmx
          have hz2 : z ≤ 65535 := by omega
          clear hz
          go_wp2
          go_roundw
          case rel =>
            refine ⟨k + 1, z, by omega, by go_num, rfl, hz2, fun j hj => ?_, by (repeat' (first | (with_reducible exact Below.refl _ _) | (with_reducible assumption) | (with_reducible refine Below.new ?_ _) | (with_reducible refine Below.alloc ?_ ?_ _) | (with_reducible refine Below.drew ?_) | (with_reducible refine Below.setCell ?_ ?_ _) | (refine Below.step ?_ (by assumption)) | go_size))⟩
            by_cases hjk : j < k
            · exact HP.out j hjk
            · obtain rfl : j = k := by omega
              rw [HY.out]; omega
          case measure => simp [intOf]; omega
    · obtain rfl : k = M := by omega
      have hbig : 1000 < k := by
        by_cases h : k ≤ 1000
        · exact (HO.out h (by rw [HM.out] at *; exact HP.out)).elim
        · omega
      go_wp2
      go_ret
      exact ⟨rfl, by (repeat' (first | (with_reducible exact Below.refl _ _) | (with_reducible assumption) | (with_reducible refine Below.new ?_ _) | (with_reducible refine Below.alloc ?_ ?_ _) | (with_reducible refine Below.drew ?_) | (with_reducible refine Below.setCell ?_ ?_ _) | (refine Below.step ?_ (by assumption)) | go_size))⟩

set_option maxRecDepth 100000 in
set_option maxHeartbeats 4000000 in
theorem pwidths_good (ao : Option Addr) (L cap : Nat) (ys : List Int) (W : World) (am an : Addr) (hr : RowAt W ao ys) (hM : ys.length ≤ 1010) (h1 : ys.length ≤ cap) (h2 : cap ≤ maxLen)
    (h3 : ao = none → cap = 0) (HF : Hid (∀ w, Calls Tryd.prog 32 #[.slice ao L cap] w fun e w' => e = .returned (.slice ao ys.length cap) ∧ w = w')) (hS : Sent am an W) (hok : okW ys = true) :
    Calls Tryd.prog 12 #[.slice ao L cap] W fun e w' => e = .returned (.bool true) ∧ Below W.heap.size W w' := by
  have HSH := hid (pshown_any am an W hS)
  obtain ⟨hol, hom⟩ := okW_mem hok
  have hsm := natsOf_mem hom
  have HW := hid (fun w (h : Below W.heap.size W w) => width_ok _ ys w ((hr.below h).slice h1 h2 h3) hok)
  have HK := hid (fun w (h : Below W.heap.size W w) => ppack_ok _ ys w ((hr.below h).slice h1 h2 h3) hok (Nat.lt_of_lt_of_le hS.pos h.size))
  have HR := hid hr
  have HST := hid (fun k hk => max_step (ys := ys) hom (k := k) hk)
  have hwl := widN_le hsm
  have hblen := packBy_length (natsOf ys)
  have hnl : (natsOf ys).length = ys.length := by simp [natsOf]
  rw [hnl, putB_two hol] at hblen
  have hlt2 := blen_lt (maxL (natsOf ys))
  have htop : maxL (natsOf ys) ≠ 0 → _ := blen_top (m := maxL (natsOf ys))
  have hz0 : maxL (natsOf ys) = 0 → widN (natsOf ys) = 0 := fun h => by unfold widN; rw [h, blen, if_pos rfl]
  have hwd : widN (natsOf ys) = blen (maxL (natsOf ys)) := rfl
  rw [← hwd] at hlt2 htop
  obtain ⟨mx, hmx⟩ : ∃ mx, maxL (natsOf ys) = mx := ⟨_, rfl⟩
  have hmx2 : mx ≤ 65535 := by
    rw [← hmx]
    rcases maxL_mem (natsOf ys) with e | e
    · omega
    · exact hsm _ e
  obtain ⟨wd, hwde⟩ : ∃ wd, widN (natsOf ys) = wd := ⟨_, rfl⟩
  rw [hwde] at HW hwl hblen hlt2 htop hz0
  rw [hmx] at hlt2 htop hz0
  obtain ⟨sp, hsp, hspb⟩ : ∃ sp : ByteArray, strV (packBy (natsOf ys)) = .string sp ∧ bytesOf sp = packBy (natsOf ys) := ⟨⟨(packBy (natsOf ys)).toArray⟩, rfl, by simp [bytesOf]⟩
  rw [← hspb, size_bytesOf] at hblen
  rw [hsp] at HK
  obtain ⟨M, hMe⟩ : ∃ M, ys.length = M := ⟨_, rfl⟩
  have hmul : M * wd ≤ 16000 := mul_le_16 (by omega) hwl
  have HZ := hid (fun w => size_any (M : Int) (wd : Int) w (fun _ => by have h6 : ((M * wd : Nat) : Int) = (M : Int) * (wd : Int) := (by simp); omega))
  rw [sizeV_nat] at HZ
  have HM := hid hMe
  have HMX := hid hmx
  rw [hMe] at HW HF HK hM h1 HST hol hblen
  obtain ⟨Z, hZ⟩ : ∃ Z, (M * wd + 7) / 8 = Z := ⟨_, rfl⟩
  rw [hZ] at HZ hblen
  have hZ2 : Z ≤ 2001 := by omega
  have s0 : (mx : Int) / 2 ^ wd = 0 := by
    have : ((mx : Int) / 2 ^ wd) = ((mx / 2 ^ wd : Nat) : Int) := by simp
    rw [this, Nat.div_eq_of_lt hlt2]; rfl
  have s1 : wd ≠ 0 → (mx : Int) / 2 ^ (wd - 1) = 1 := fun h => by
    have : ((mx : Int) / 2 ^ (wd - 1)) = ((mx / 2 ^ (wd - 1) : Nat) : Int) := by simp
    rw [this, htop (fun e => h (hz0 e))]; rfl
  have im := ite_max
  clear hS hr hMe hok hom hsm hwd hwde hnl hsp hspb hlt2 htop hz0 hZ hmul hmx h3
  go_enter Tryd.func12, Tryd.ntmps12
  go_wp2_with (first
    | (go_at_call 30; ((with_reducible refine (HSH.out).mono ?_); rintro e w1 ⟨rfl, hb1⟩))
    | (go_at_call 32; ((with_reducible refine (HF.out _).mono ?_); rintro e w2 ⟨rfl, rfl⟩))
    | (go_at_call 34; ((with_reducible refine (HW.out _ (by (repeat' (first | (with_reducible exact Below.refl _ _) | (with_reducible assumption) | (with_reducible refine Below.new ?_ _) | (with_reducible refine Below.alloc ?_ ?_ _) | (with_reducible refine Below.drew ?_) | (with_reducible refine Below.setCell ?_ ?_ _) | (refine Below.step ?_ (by assumption)) | go_size)))).mono ?_); rintro e w2 ⟨rfl, hb2⟩)))
  go_loopw [6, 7] (fun v i wr => ∃ k : Nat, k ≤ M ∧ i = .int .i64 k ∧ v = .int .i64 (maxL (natsOf (ys.take k)) : Int) ∧ Below w2.heap.size w2 wr) (fun _ i _ => M - (intOf i).toNat)
  case atStart => exact ⟨0, Nat.zero_le _, rfl, rfl, Below.refl _ _⟩
  case round =>
    obtain ⟨k, hk, rfl, rfl, hbel⟩ := hrel
    by_cases hlt : k < M
    · obtain ⟨b, o, rfl, hc⟩ := HR.out (by rw [HM.out]; omega)
      have e0 := cell_step (cell_step (cell_step (hc k (by rw [HM.out]; omega)) hb1) hb2) hbel
      obtain ⟨hst, hm, hy0, hy1⟩ := HST.out k hlt
      obtain ⟨y, hy⟩ : ∃ y, ys[k]?.getD 0 = y := ⟨_, rfl⟩
      obtain ⟨m, hme⟩ : ∃ m, maxL (natsOf (ys.take k)) = m := ⟨_, rfl⟩
      obtain ⟨m', hm'⟩ : ∃ m', maxL (natsOf (ys.take (k + 1))) = m' := ⟨_, rfl⟩
      rw [hy] at e0 hst hy0 hy1
      rw [hme] at hst hm ⊢
      rw [hm'] at hst
      have HM' := hid hm'
      clear hc hy hme hm'
      go_wp2
      go_roundw
      case rel => exact ⟨k + 1, by omega, by go_num, by rw [HM'.out], hbel⟩
      case measure => simp [intOf]; omega
    · obtain rfl : k = M := by omega
      rw [show maxL (natsOf (ys.take k)) = mx by rw [← HMX.out, ← HM.out, List.take_length]]
      by_cases hbig : 127 < k
      · rw [if_pos hbig] at hblen
        by_cases hw0 : wd = 0
        · subst hw0
          obtain rfl : mx = 0 := by simpa using s0
          have HZ := hid (fun w => HZ.out w)
          simp only [Int.natCast_zero] at HZ
          clear s1 s0
          go_wp2_with (first
            | (go_at_call 31; ((with_reducible refine (HK.out _ (by (repeat' (first | (with_reducible exact Below.refl _ _) | (with_reducible assumption) | (with_reducible refine Below.new ?_ _) | (with_reducible refine Below.alloc ?_ ?_ _) | (with_reducible refine Below.drew ?_) | (with_reducible refine Below.setCell ?_ ?_ _) | (refine Below.step ?_ (by assumption)) | go_size)))).mono ?_); rintro e w3 ⟨rfl, hb3⟩))
            | (go_at_call 41; ((with_reducible refine (HZ.out _).mono ?_); rintro e w4 ⟨rfl, rfl⟩)))
          all_goals (go_ret; exact ⟨rfl, by (repeat' (first | (with_reducible exact Below.refl _ _) | (with_reducible assumption) | (with_reducible refine Below.new ?_ _) | (with_reducible refine Below.alloc ?_ ?_ _) | (with_reducible refine Below.drew ?_) | (with_reducible refine Below.setCell ?_ ?_ _) | (refine Below.step ?_ (by assumption)) | go_size))⟩)
        · have s2 := s1 hw0
          have hwz : ((wd : Int) == 0) = false := by simp [hw0]
          go_wp2_with (first
            | (go_at_call 31; ((with_reducible refine (HK.out _ (by (repeat' (first | (with_reducible exact Below.refl _ _) | (with_reducible assumption) | (with_reducible refine Below.new ?_ _) | (with_reducible refine Below.alloc ?_ ?_ _) | (with_reducible refine Below.drew ?_) | (with_reducible refine Below.setCell ?_ ?_ _) | (refine Below.step ?_ (by assumption)) | go_size)))).mono ?_); rintro e w3 ⟨rfl, hb3⟩))
            | (go_at_call 41; ((with_reducible refine (HZ.out _).mono ?_); rintro e w4 ⟨rfl, rfl⟩)))
          all_goals (go_ret; exact ⟨rfl, by (repeat' (first | (with_reducible exact Below.refl _ _) | (with_reducible assumption) | (with_reducible refine Below.new ?_ _) | (with_reducible refine Below.alloc ?_ ?_ _) | (with_reducible refine Below.drew ?_) | (with_reducible refine Below.setCell ?_ ?_ _) | (refine Below.step ?_ (by assumption)) | go_size))⟩)
      · rw [if_neg hbig] at hblen
        by_cases hw0 : wd = 0
        · subst hw0
          obtain rfl : mx = 0 := by simpa using s0
          have HZ := hid (fun w => HZ.out w)
          simp only [Int.natCast_zero] at HZ
          clear s1 s0
          go_wp2_with (first
            | (go_at_call 31; ((with_reducible refine (HK.out _ (by (repeat' (first | (with_reducible exact Below.refl _ _) | (with_reducible assumption) | (with_reducible refine Below.new ?_ _) | (with_reducible refine Below.alloc ?_ ?_ _) | (with_reducible refine Below.drew ?_) | (with_reducible refine Below.setCell ?_ ?_ _) | (refine Below.step ?_ (by assumption)) | go_size)))).mono ?_); rintro e w3 ⟨rfl, hb3⟩))
            | (go_at_call 41; ((with_reducible refine (HZ.out _).mono ?_); rintro e w4 ⟨rfl, rfl⟩)))
          all_goals (go_ret; exact ⟨rfl, by (repeat' (first | (with_reducible exact Below.refl _ _) | (with_reducible assumption) | (with_reducible refine Below.new ?_ _) | (with_reducible refine Below.alloc ?_ ?_ _) | (with_reducible refine Below.drew ?_) | (with_reducible refine Below.setCell ?_ ?_ _) | (refine Below.step ?_ (by assumption)) | go_size))⟩)
        · have s2 := s1 hw0
          have hwz : ((wd : Int) == 0) = false := by simp [hw0]
          go_wp2_with (first
            | (go_at_call 31; ((with_reducible refine (HK.out _ (by (repeat' (first | (with_reducible exact Below.refl _ _) | (with_reducible assumption) | (with_reducible refine Below.new ?_ _) | (with_reducible refine Below.alloc ?_ ?_ _) | (with_reducible refine Below.drew ?_) | (with_reducible refine Below.setCell ?_ ?_ _) | (refine Below.step ?_ (by assumption)) | go_size)))).mono ?_); rintro e w3 ⟨rfl, hb3⟩))
            | (go_at_call 41; ((with_reducible refine (HZ.out _).mono ?_); rintro e w4 ⟨rfl, rfl⟩)))
          all_goals (go_ret; exact ⟨rfl, by (repeat' (first | (with_reducible exact Below.refl _ _) | (with_reducible assumption) | (with_reducible refine Below.new ?_ _) | (with_reducible refine Below.alloc ?_ ?_ _) | (with_reducible refine Below.drew ?_) | (with_reducible refine Below.setCell ?_ ?_ _) | (refine Below.step ?_ (by assumption)) | go_size))⟩)

theorem PackedWidths_walk (v : Value) (ao : Option Addr) (cap : Nat) (xs : List Int) (hv : v = .slice ao xs.length cap) (W : World) (hr : RowAt W ao xs) (h1 : xs.length ≤ cap) (h2 : cap ≤ maxLen) (h3 : ao = none → cap = 0)
    (h4 : ∀ k, k < xs.length → I64 (xs[k]?.getD 0)) (am an : Addr) (hS : Sent am an W) :
    Calls Tryd.prog 12 #[v] W fun e w' => e = .returned (.bool true) ∧ Below W.heap.size W w' := by
  subst hv
  have HF := hid (fun w => pfew_any ao cap xs w h1 h2 h3)
  have hl : (xs.take 1010).length ≤ 1010 := by rw [List.length_take]; omega
  have hl2 : (xs.take 1010).length ≤ cap := by rw [List.length_take]; omega
  cases hok : okW (xs.take 1010) with
  | true => exact pwidths_good ao xs.length cap (xs.take 1010) W am an (hr.take 1010) hl hl2 h2 h3 HF hS hok
  | false =>
    refine pwidths_bad ao xs.length cap (xs.take 1010) W am an (hr.take 1010) hl hl2 h2 h3 (fun k hk => ?_) HF hS hok
    rw [List.length_take] at hk
    rw [List.getElem?_take_of_lt (by omega)]
    exact h4 k (by omega)
end Go.Proofs.YtpgifmccajcgkaaDoor
