/- WideTurns holds: in whatever order numbers are added, and in whatever parts, the sum is the same. No condition. -/
import Derived.Test.YtekmcomddaoljaaWideLists
import Derived.Test.YtekmcomddaoljaaGrainD
namespace Go.Proofs.Ytekmcomddaoljaa
set_option linter.unusedVariables false
set_option linter.unusedSimpArgs false
open Go.ChangeShapes Go.WideShapes Go.ChangeAt Go.RowKit Go.Joins

theorem sumI_reverse : ∀ l : List Int, sumI l.reverse = sumI l
  | [] => rfl
  | a :: l => by rw [List.reverse_cons, sumI_append, sumI_reverse l]; simp only [sumI]; omega
theorem sumI_parts (l : List Int) (k : Nat) : sumI (l.take k) + sumI (l.drop k) = sumI l := by rw [← sumI_append, List.take_append_drop]
theorem drop_reverse (l : List Int) {m : Nat} (h : m < l.length) : (l.drop (m + 1)).reverse ++ [l[m]?.getD 0] = (l.drop m).reverse := by
  rw [List.drop_eq_getElem_cons h, List.reverse_cons]
  simp [h]

set_option maxRecDepth 100000 in
set_option maxHeartbeats 4000000 in
theorem wideTurns_core (ao : Option Addr) (M cap : Nat) (ys : List Int) (at' : Int) (W : World) (hr : RowAt W ao ys) (h1 : ys.length ≤ cap) (h2 : cap ≤ maxLen) (h3 : ao = none → cap = 0) (h4 : Ints64 ys) (h5 : ys.length ≤ 1000)
    (HC : Hid (∀ w, Calls Try.prog 32 #[.slice ao M cap] w fun e w' => e = .returned (.slice ao ys.length cap) ∧ w = w')) :
    Calls Try.prog 9 #[.slice ao M cap, .int .i64 at'] W fun e w' => e = .returned (.bool true) ∧ Below W.heap.size W w' := by
  have HS := fun w (h : Below W.heap.size W w) => sum_any _ ys w ((hr.below h).ints cap) (by omega) h4
  have HT := fun v w (h : IntsAt w v ys.reverse) => sum_any v ys.reverse w h (by simp; omega) (fun k hk => by simp at hk; rw [List.getElem?_reverse (by omega)]; exact h4 _ (by omega))
  simp only [sumI_reverse] at HT
  have HL := fun J w (hJ : J ≤ ys.length) (h : Below W.heap.size W w) => sum_any _ (ys.take J) w (((hr.take J).below h).ints cap) (by simp; omega) (fun k hk => by simp at hk; rw [List.getElem?_take_of_lt (by omega)]; exact h4 k (by omega))
  have HP := fun J ao' cap' w (hJ : J ≤ ys.length) (hao : J < ys.length → ∃ b o, ao = some ⟨b, o, none⟩ ∧ ao' = some ⟨b, o + J, none⟩) (h : Below W.heap.size W w) =>
    sum_any (.slice ao' (ys.drop J).length cap') (ys.drop J) w (RowAt.ints (fun h0 => by
      simp at h0
      obtain ⟨b, o, e1, e2⟩ := hao (by omega)
      obtain ⟨b', o', e3, hc⟩ := (hr.below h) (by omega)
      rw [e1] at e3
      simp at e3
      obtain ⟨rfl, rfl⟩ := e3
      refine ⟨b, o + J, e2, fun j hj => ?_⟩
      simp at hj
      rw [show o + J + j = o + (J + j) by omega, hc (J + j) (by omega)]
      simp) cap') (by simp; omega) (fun k hk => by simp at hk; simp; exact h4 (J + k) (by omega))
  have HA := fun J w => add_any (sumI (ys.take J)) (sumI (ys.drop J)) w
  simp only [sumI_parts] at HA
  have el : ∀ J, J ≤ ys.length → (ys.take J).length = J := fun J h => by simp; omega
  have ed : ∀ J, (ys.drop J).length = ys.length - J := fun J => by simp
  simp only [ed] at HP
  obtain ⟨Th, hTh⟩ : ∃ Th : Nat → Int, ∀ J, hiW (sumI (ys.take J)) = Th J := ⟨_, fun _ => rfl⟩
  obtain ⟨Tl, hTl⟩ : ∃ Tl : Nat → Int, ∀ J, loW (sumI (ys.take J)) = Tl J := ⟨_, fun _ => rfl⟩
  obtain ⟨Dh, hDh⟩ : ∃ Dh : Nat → Int, ∀ J, hiW (sumI (ys.drop J)) = Dh J := ⟨_, fun _ => rfl⟩
  obtain ⟨Dl, hDl⟩ : ∃ Dl : Nat → Int, ∀ J, loW (sumI (ys.drop J)) = Dl J := ⟨_, fun _ => rfl⟩
  simp only [hTh, hTl] at HL; simp only [hDh, hDl] at HP; simp only [hTh, hTl, hDh, hDl] at HA
  replace HL := fun J w (hJ : J ≤ ys.length) => (el J hJ) ▸ HL J w hJ
  clear hTh hTl hDh hDl el ed
  have HD := hid (fun m h => drop_reverse ys (m := m) h)
  have HR := hid hr
  have hnil : ys.drop ys.length = [] := by simp
  have hall : (ys.drop 0) = ys := by simp
  obtain ⟨N, hN⟩ : ∃ N, ys.length = N := ⟨_, rfl⟩
  rw [hN] at HS HC HD h1 h5 hnil HL HP
  generalize hiW (sumI ys) = Sh at HS HT HA
  generalize loW (sumI ys) = Sl at HS HT HA
  replace HL := hid HL; replace HP := hid HP; replace HA := hid HA
  replace HS := hid HS; replace HT := hid HT
  have HN := hid hN; clear hN hr
  have H4 := hid h4; clear h4
  have Hnil := hid hnil; have Hall := hid hall; clear hnil hall
  obtain ⟨i0, hi, hiz0, hiz1, hiz2⟩ := info_parts info_i64
  go_enter Try.func9, Try.ntmps9
  go_wp2_with (first
    | (go_at_call 30; (with_reducible refine (wideShown_any _).mono ?_); rintro e w1 ⟨rfl, hb1⟩)
    | (go_at_call 32; (with_reducible refine (HC.out _).mono ?_); rintro e w2 ⟨rfl, rfl⟩))
  go_loopw [6, 7] (fun v i wr => ∃ k : Nat, k ≤ N ∧ i = .int .i64 ((k : Int) - 1) ∧ wr.ownsRow w1.heap.size 2 1 v (N - k) ((ys.drop k).reverse.map (Value.int .i64)) ∧ Below w1.heap.size w1 wr) (fun _ i _ => (intOf i + 1).toNat)
  case atStart => exact ⟨N, Nat.le_refl _, by go_num, by rw [Hnil.out, Nat.sub_self]; exact World.ownsRow_nil _ _ _ _, Below.refl _ _⟩
  case round =>
    obtain ⟨k, hk, rfl, hown, hbel⟩ := hrel
    cases k with
    | succ m =>
      rw [show ((m + 1 : Nat) : Int) - 1 = (m : Int) by omega]
      obtain ⟨a, o, rfl, hc⟩ := (HR.out) (by rw [HN.out]; omega)
      have e0 := cell_step (cell_step (hc m (by rw [HN.out]; omega)) hb1) hbel
      have hd := hid (HD.out m (by omega))
      obtain ⟨y, hy⟩ : ∃ y, ys[m]?.getD 0 = y := ⟨_, rfl⟩
      rw [hy] at e0 hd
      clear hc hy
      have hsz := hbel.size
      go_wp2_with (at_builtin; go_loud (refine wpList_append_own _ rfl _ _ 33 rfl (w1.heap.size) 2 i0 (.int .i64 0) 1 8 Try.underlying33 hi hiz0 hiz1 hiz2 rfl (by decide) _ _ _ rfl (hown.alloc _) ⟨wr.heap.size, 0, none⟩ 1 1 [.int .i64 (y)] rfl rfl (one_new _ _ _) (one_int _ _) (by unfold maxLen; omega) (by omega) (by simp; omega) ?_); intro v' w1' hown' hgrow' hnil')
      have hown2 : w1'.ownsRow w1.heap.size 2 1 v' (N - m) ((ys.drop m).reverse.map (Value.int .i64)) := by
        rw [← hd.out, List.map_append, show N - m = N - (m + 1) + 1 by omega]; exact hown'
      have hb2 : Below w1.heap.size w1 w1' := (hbel.alloc hsz _).grown hgrow' (by simp; omega) (fun r e => (hown.lt r e).1)
      go_roundw
      case rel => exact ⟨m, by omega, by go_num, hown2, hb2⟩
      case measure => simp [intOf]
    | zero =>
      rw [Hall.out] at hown
      have hit : IntsAt wr _ ys.reverse := IntsAt.own (by rw [List.length_reverse, HN.out]; exact hown)
      go_wp2_with (go_at_call 31; (with_reducible refine (HS.out _ ?_).mono ?_); ((repeat' (first | (with_reducible exact Below.refl _ _) | (with_reducible assumption) | (with_reducible refine Below.new ?_ _) | (with_reducible refine Below.alloc ?_ ?_ _) | (with_reducible refine Below.drew ?_) | (with_reducible refine Below.setCell ?_ ?_ _) | (refine Below.step ?_ (by assumption)) | go_size))); rintro e w3 ⟨rfl, hb3⟩)
      have s0 : (w3.alloc (.cells #[.int .i64 Sh, .int .u64 Sl] 39)).cell? ⟨w3.heap.size, 0, none⟩ = some (.int .i64 Sh) := by go_simp
      have s1 : (w3.alloc (.cells #[.int .i64 Sh, .int .u64 Sl] 39)).cell? ⟨w3.heap.size, 1, none⟩ = some (.int .u64 Sl) := by go_simp
      have hbX : Below wr.heap.size wr (w3.alloc (.cells #[.int .i64 Sh, .int .u64 Sl] 39)) := by (repeat' (first | (with_reducible exact Below.refl _ _) | (with_reducible assumption) | (with_reducible refine Below.new ?_ _) | (with_reducible refine Below.alloc ?_ ?_ _) | (with_reducible refine Below.drew ?_) | (with_reducible refine Below.setCell ?_ ?_ _) | (refine Below.step ?_ (by assumption)) | go_size))
      generalize w3.alloc (.cells #[.int .i64 Sh, .int .u64 Sl] 39) = X at s0 s1 hbX ⊢
      have HTT := hid (fun x => HT.out _ (World.plus X x) ((hit.below hbX).below (World.plus_below X x)))
      have hWX : Below W.heap.size W X := (hb1.step hbel).step hbX
      have p0 := World.plus_cell s0; have p1 := World.plus_cell s1
      clear hit hown HT
      refine wp_region_plus (by kernel_rfl) (by kernel_rfl) ?_
      repeat (first | go_big_quiet_skip | (go_big_quiet_want; go_big_quiet_op; first | go_big_quiet_on | go_big_quiet_call (((go_at_call 31; with_reducible exact Calls.plus_of (HTT.out _))))))
      refine wpQuiet_nil ?_
      rintro _ ⟨xq, rfl⟩
      have kB := World.plus_below X xq
      clear p0 p1
      replace s0 := cell_step s0 kB; replace s1 := cell_step s1 kB
      generalize World.plus X xq = Y at s0 s1 kB ⊢
      have hWY : Below W.heap.size W Y := hWX.step kB
      clear kB hWX HTT hbX hb3 hbel hb1
      by_cases q1 : at' < 0
      · go_wp2
        go_ret
        exact ⟨rfl, hWY⟩
      have q1' : 0 ≤ at' := by omega
      clear q1
      by_cases q2 : (N : Int) < at'
      · go_wp2
        go_ret
        exact ⟨rfl, hWY⟩
      obtain ⟨J, rfl⟩ := Int.eq_ofNat_of_zero_le q1'
      have hJ : J ≤ N := by omega
      clear q1' q2
      have p0 := World.plus_cell s0; have p1 := World.plus_cell s1
      go_wp2
      have HL1 := hid (fun x => HL.out J (World.plus Y x) hJ (hWY.step (World.plus_below Y x)))
      have hao : J < N → ∃ b o, ao = some ⟨b, o, none⟩ ∧ (if cap = J then ao else Option.map (fun x => x.add J) ao) = some ⟨b, o + J, none⟩ := fun h => by
        obtain ⟨b, o, rfl, _⟩ := HR.out (by rw [HN.out]; omega)
        refine ⟨b, o, rfl, ?_⟩
        rw [if_neg (by omega)]
        simp [Addr.add]
      have HP1 := hid (fun x => HP.out J _ (cap - J) (World.plus Y x) hJ hao (hWY.step (World.plus_below Y x)))
      have HA1 := hid (fun w => HA.out J w)
      clear HA HP HL HS h3 HD HC
      refine wp_region_plus (by kernel_rfl) (by kernel_rfl) ?_
      repeat (first | go_big_quiet_skip | (go_big_quiet_want; go_big_quiet_op; first | go_big_quiet_on | go_big_quiet_call ((first | (go_at_call 31; first | with_reducible exact Calls.plus_of (HL1.out _) | with_reducible exact Calls.plus_of (HP1.out _)) | (go_at_call 34; with_reducible exact Calls.plus_of (HA1.out _))))))
      refine wpQuiet_nil ?_
      rintro _ ⟨xq, rfl⟩
      have kB := World.plus_below Y xq
      go_wp2
      all_goals (go_ret; exact ⟨rfl, hWY.step kB⟩)

theorem WideTurns_walk (v : Value) (ao : Option Addr) (cap : Nat) (xs : List Int) (hv : v = .slice ao xs.length cap) (at' : Int) (ha : I64 at') (W : World) (hr : RowAt W ao xs) (h1 : xs.length ≤ cap) (h2 : cap ≤ maxLen) (h3 : ao = none → cap = 0) (h4 : Ints64 xs) :
    Calls Try.prog 9 #[v, .int .i64 at'] W fun e w' => e = .returned (.bool true) ∧ Below W.heap.size W w' := by
  subst hv
  exact wideTurns_core ao xs.length cap (xs.take 1000) at' W (hr.take 1000) (by simp; omega) h2 h3 (fun k hk => by
    simp at hk
    rw [List.getElem?_take_of_lt (by omega)]
    exact h4 k (by omega)) (by simp; omega) (hid (fun w => wcut_any ao cap xs w h1 h2 h3))
set_option maxRecDepth 100000 in
theorem WideTurns_lifted (os : Os) (started : os.Started) (H : Type) (enc : TypeId × Value → H) :
    ReturnsInHanded {} Try.checked os 9 .any (Rows.wideTurnsSpec.pre6 enc Try.prog Try.f9 Rows.wideTurnsRow.domain false) (Rows.wideTurnsSpec.post enc Try.prog Try.f9 false true false false) := by
  refine law_lift started (by kernel_rfl) Try.func9
    (ChangeSpec.witness6 (enc := enc) (C := Try.checked) false ⟨#[], #[.slice none 0 0, .int .i64 0], []⟩ 8 (by kernel_rfl) (by kernel_rfl) (by kernel_rfl) (by kernel_rfl)) rfl rfl (by kernel_rfl) ?_ ?_
  · intro ds hl
    match ds, hl with
    | [_, _], _ => exact ⟨rfl, rfl, rfl⟩
  · intro W base args ds p hval hA hsz
    rw [Try.params9] at hA hval hsz
    obtain ⟨v0, vs0, d0, ds0, p0, q0, hargs, rfl, rfl, h0, r0⟩ := trodAll_cons hA
    obtain ⟨v1, vs1, d1, ds1, p1, q1, rfl, rfl, rfl, h1, r1⟩ := trodAll_cons r0
    obtain ⟨rfl, rfl, rfl⟩ := trodAll_nil r1
    obtain rfl : args = #[v0, v1] := by cases args; simp_all
    obtain ⟨ao0, cap0, xs0, rfl, g0, b0, e0, f0, k0⟩ := open_ints64 Try.underlying33 (hval 0 33 v0 rfl rfl) h0
    obtain ⟨a1, rfl, b1⟩ := open_i64 Try.underlying3 (hval 1 3 v1 rfl rfl) h1
    exact WideTurns_walk _ ao0 cap0 xs0 rfl a1 b1 W g0 b0 e0 f0 k0

theorem WideTurns_over : Rows.wideTurnsRow.holds Try.pinned (OpenSpec.ofChange Rows.wideTurnsSpec) :=
  OpenClaim.holds_of_wide 9 Try.f9 rfl rfl rfl rfl rfl rfl rfl ⟨rfl, rfl, rfl, rfl, rfl⟩ rfl rfl rfl rfl rfl (by kernel_rfl) Try.func9 (by kernel_rfl)
    (of_decide_eq_true (by kernel_rfl)) (by unfold Func.isWrapper; first | (rw [if_pos (by decide +kernel)]; kernel_rfl) | (rw [if_neg (by decide +kernel)]; exact ⟨rfl, rfl⟩))
    (fun os started H enc _ => WideTurns_lifted os started H enc)

/-- The statement. -/
theorem WideTurns_proved : Rows.WideTurnsSaid := WideTurns_over
end Go.Proofs.Ytekmcomddaoljaa
