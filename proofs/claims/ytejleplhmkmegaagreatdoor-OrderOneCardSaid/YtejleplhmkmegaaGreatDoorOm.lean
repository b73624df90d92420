/- Texts joined: OrR. -/
import Derived.Test.YtejleplhmkmegaaGreatDoorOl
import Derived.Test.YtejleplhmkmegaaGreatDoorOf
/- Order: the text of one line. -/
namespace Go.Proofs.YtejleplhmkmegaaGreatDoor
set_option linter.unusedVariables false
set_option linter.unusedSimpArgs false
set_option maxRecDepth 100000
open Go.ChangeShapes Go.WideShapes Go.ChangeAt Go.RowKit Go.Fl
attribute [local go_sem] ord_lt ord_eq ord_gt ord_ne run_store_float run_equalIn_float

def lineWords : List ByteArray := [⟨#[50]⟩, ⟨#[54, 48]⟩, ⟨#[34, 120, 34]⟩, ⟨#[45]⟩, ⟨#[53]⟩, ⟨#[53, 112, 45, 49]⟩]
theorem quoted_x (W : World) : Calls Tryz.prog 46 #[.string { data := #[120] }] W fun e w' => e = .returned (.string { data := #[34, 120, 34] }) ∧ Below W.heap.size W w' :=
  quoted_plain [120] (by intro c hc; simp at hc; subst hc; unfold plainC; decide) (by decide) W
theorem quoted_none (W : World) : Calls Tryz.prog 46 #[.string { data := #[] }] W fun e w' => e = .returned (.string { data := #[34, 34] }) ∧ Below W.heap.size W w' :=
  quoted_plain [] (by intro c hc; simp at hc) (by decide) W
theorem itoa_2 (W : World) : Calls Tryz.prog 44 #[.int .i64 2] W fun e w' => e = .returned (.string { data := #[50] }) ∧ Below W.heap.size W w' := by
  have h := Tryz.strconv_Itoa_small 2 (by decide) W
  rw [show Lib.decDigits 2 = [50] by decide +kernel] at h
  exact h.mono fun e w' ⟨a, b⟩ => ⟨a, b ▸ Below.refl _ _⟩
theorem fmt_60 (W : World) : Calls Tryz.prog 45 #[.int .i64 60, .int .i64 10] W fun e w' => e = .returned (.string { data := #[54, 48] }) ∧ Below W.heap.size W w' := by
  have h := Tryz.strconv_FormatInt_10_small 60 (by decide) W
  rw [show Lib.decDigits 60 = [54, 48] by decide +kernel] at h
  exact h.mono fun e w' ⟨a, b⟩ => ⟨a, b ▸ Below.refl _ _⟩
theorem fmt_5 (W : World) : Calls Tryz.prog 45 #[.int .i64 5, .int .i64 10] W fun e w' => e = .returned (.string { data := #[53] }) ∧ Below W.heap.size W w' := by
  have h := Tryz.strconv_FormatInt_10_small 5 (by decide) W
  rw [show Lib.decDigits 5 = [53] by decide +kernel] at h
  exact h.mono fun e w' ⟨a, b⟩ => ⟨a, b ▸ Below.refl _ _⟩
theorem fmt_0 (W : World) : Calls Tryz.prog 45 #[.int .i64 0, .int .i64 10] W fun e w' => e = .returned (.string { data := #[48] }) ∧ Below W.heap.size W w' := by
  have h := Tryz.strconv_FormatInt_10_small 0 (by decide) W
  rw [show Lib.decDigits 0 = [48] by decide +kernel] at h
  exact h.mono fun e w' ⟨a, b⟩ => ⟨a, b ▸ Below.refl _ _⟩
theorem show_25 : textB 4612811918334230528 = [53, 112, 45, 49] := by decide +kernel
theorem text_25 (W : World) (h : Tabs W) : Calls Tryz.prog 47 #[.float .f64 4612811918334230528] W fun e w' => e = .returned (.string { data := #[53, 112, 45, 49] }) ∧ Below W.heap.size W w' := by
  have := text_any 4612811918334230528 (by decide) W h
  rw [show_25] at this
  exact this
abbrev lineB (A B : Nat) : Obj := .cells #[.int .i64 2, .int .i64 60, .slice (some ⟨A, 0, none⟩) 2 2, .slice (some ⟨B, 0, none⟩) 2 2] 37 (0, 0)
set_option maxHeartbeats 2000000 in
theorem text_shown (A B : Nat) (w : World) (hT : Tabs w) (a0 : w.cell? ⟨A, 0, none⟩ = some (.string { data := #[120] })) (a1 : w.cell? ⟨A, 1, none⟩ = some (.bool false)) (a2 : w.cell? ⟨A, 2, none⟩ = some (.string { data := #[] })) (a3 : w.cell? ⟨A, 3, none⟩ = some (.bool true))
    (b0 : w.cell? ⟨B, 0, none⟩ = some (.bool false)) (b1 : w.cell? ⟨B, 1, none⟩ = some (.int .i64 5)) (b2 : w.cell? ⟨B, 2, none⟩ = some (.float .f64 0)) (b3 : w.cell? ⟨B, 3, none⟩ = some (.bool true)) (b4 : w.cell? ⟨B, 4, none⟩ = some (.int .i64 0)) (b5 : w.cell? ⟨B, 5, none⟩ = some (.float .f64 4612811918334230528)) :
    Calls Tryz.prog 20 #[.agg #[.int .i64 2, .int .i64 60, .slice (some ⟨A, 0, none⟩) 2 2, .slice (some ⟨B, 0, none⟩) 2 2]] w fun e w' => e = .returned (.string { data := #[50, 32, 54, 48, 32, 34, 120, 34, 32, 45, 32, 53, 32, 53, 112, 45, 49] }) ∧ Below w.heap.size w w' := by
  have Q0 := hid quoted_x; have Q1 := hid quoted_none
  have F0 := hid itoa_2; have F1 := hid fmt_60; have F2 := hid fmt_5; have F3 := hid fmt_0
  have TX := hid (fun W (h : Below w.heap.size w W) => text_25 W (hT.below h (Nat.le_refl _)))
  obtain ⟨i0, hi, hiz0, hiz1, hiz2⟩ := info_parts info_string
  clear hT
  go_enter Tryz.func20, Tryz.ntmps20
  go_upto_region 1 with fail
  have l0 : (w.alloc (.cells #[.int .i64 2, .int .i64 60, .slice (some ⟨A, 0, none⟩) 2 2, .slice (some ⟨B, 0, none⟩) 2 2] 37)).heap[w.heap.size]? = some (lineB A B) := heap_at rfl
  have z0 := cell_blk (i := 0) l0 rfl; have z1 := cell_blk (i := 1) l0 rfl
  have p0 := World.plus_cell z0; have p1 := World.plus_cell z1
  have kB : Below w.heap.size w (w.alloc (.cells #[.int .i64 2, .int .i64 60, .slice (some ⟨A, 0, none⟩) 2 2, .slice (some ⟨B, 0, none⟩) 2 2] 37)) := (Below.refl _ _).new _
  obtain ⟨X, hX⟩ : ∃ X, w.alloc (.cells #[.int .i64 2, .int .i64 60, .slice (some ⟨A, 0, none⟩) 2 2, .slice (some ⟨B, 0, none⟩) 2 2] 37) = X := ⟨_, rfl⟩
  have hzX : X.heap.size = w.heap.size + 1 := by rw [← hX]; simp
  rw [hX] at l0 z0 z1 p0 p1 kB ⊢
  clear hX
  refine wp_region_plus_tail (6) (by kernel_rfl) (by kernel_rfl) ?_
  simp only [List.take_succ_cons, List.take_zero, List.drop_succ_cons, List.drop_zero]
  repeat (first | go_big_quiet_skip | (go_big_quiet_want; go_big_quiet_op; first | go_big_quiet_on | go_big_quiet_call (((first | (go_at_call 44; exact Calls.plus_of (F0.out _)) | (go_at_call 45; exact Calls.plus_of (F1.out _)))))))
  refine wpQuiet_nil ?_
  rintro _ ⟨xq, rfl⟩
  have kC := kB.trans ((World.plus_below X xq).mono kB.size)
  have l1 := blk_below l0 (World.plus_below X xq)
  have kzq := (World.plus_below X xq).size
  obtain ⟨Y, hY⟩ : ∃ Y, World.plus X xq = Y := ⟨_, rfl⟩
  rw [hY] at kC l1 kzq ⊢
  clear hY p0 p1 z0 z1 l0 kB
  have HA := hid (⟨a0, a1, a2, a3⟩ : _ ∧ _ ∧ _ ∧ _)
  have HB := hid (⟨b0, b1, b2, b3, b4, b5⟩ : _ ∧ _ ∧ _ ∧ _ ∧ _ ∧ _)
  have HY := hid (⟨kC, l1⟩ : _ ∧ _)
  have hYz : w.heap.size + 1 ≤ Y.heap.size := by omega
  have hfirst : (Y.alloc (.cells #[.string { data := #[50] }, .string { data := #[54, 48] }] 9)).ownsRow (w.heap.size + 1) 9 1 (.slice (some ⟨Y.heap.size, 0, none⟩) 2 2) 2 (strsV (lineWords.take 2)) :=
    ⟨rfl, .inr ⟨Y.heap.size, 2, _, rfl, hYz, heap_at rfl, by decide, by decide, rfl, rfl⟩⟩
  have HF0 := hid hfirst
  clear a0 a1 a2 a3 b0 b1 b2 b3 b4 b5 hfirst
  have e2 := cell_blk (i := 2) l1 rfl
  have hlt := lt_of_block l1
  go_wp2_with fail
  go_loopw [3, 4, 5, 6, 20] (fun o _ _ _ iv wr => ∃ k : Nat, k ≤ 2 ∧ iv = .int .i64 (k : Nat) ∧ wr.heap[w.heap.size]? = some (lineB A B) ∧ wr.ownsRow (w.heap.size + 1) 9 1 o (k + 2) (strsV (lineWords.take (k + 2))) ∧ Below w.heap.size w wr) (fun _ _ _ _ iv _ => 2 - (intOf iv).toNat)
  case atStart =>
    exact ⟨0, by decide, rfl, (heap_past hlt).trans l1, HF0.out, kC.new _⟩
  case round =>
    obtain ⟨k, hk, rfl, hl, hown, hbw⟩ := hrel
    have hlw := lt_of_block hl
    have y0 := cell_blk (i := 0) hl rfl
    have hcase : k = 0 ∨ k = 1 ∨ k = 2 := by omega
    rcases hcase with rfl | rfl | rfl
    · have c0 := cell_step HA.out.1 hbw; have c1 := cell_step HA.out.2.1 hbw
      have zA : A < wr.heap.size := World.block_lt_of_cell? _ _ c0
      have HB1 := hid hbw; have HO := hid hown; have HL := hid hl
      clear hbw hown hl
      go_wp2_with (first | (go_at_call 46; go_loud ((with_reducible refine (Q0.out _).mono ?_); rintro e w2 ⟨rfl, hb2⟩; have hbw2 : Below wr.heap.size wr w2 := (by (repeat' (first | (with_reducible exact Below.refl _ _) | (with_reducible assumption) | (with_reducible refine Below.new ?_ _) | (with_reducible refine Below.alloc ?_ ?_ _) | (with_reducible refine Below.drew ?_) | (with_reducible refine Below.drewN ?_ _) | (with_reducible refine Below.setCell ?_ ?_ _) | (refine Below.step ?_ (by assumption)) | go_size))); have hz2 := hbw2.size; have y1 := cell_step y0 hbw2; have d1 : w2.cell? ⟨wr.heap.size, 1, none⟩ = some (.bool false) := cell_step (cell_blk (heap_at rfl) rfl) hb2)) | (at_builtin; go_loud (refine wpList_append_sl _ rfl _ _ 23 rfl (w.heap.size + 1) 9 i0 (.string { data := #[] }) 1 16 Tryz.underlying23 hi hiz0 hiz1 hiz2 rfl (by decide) _ _ _ rfl ((row_below HO.out hbw2).alloc _) (.slice (some ⟨w2.heap.size, 0, none⟩) 1 1) 1 [.string { data := #[34, 120, 34] }] rfl (SlAt.new w2 #[.string { data := #[34, 120, 34] }] 9) (by simp [Value.oneCell']) (by unfold maxLen; omega) (by omega) (by simp; omega) ?_); intro va w3 hown1 hgrow1 hnb))
      go_roundw
      case rel => exact ⟨1, by decide, by go_num, own_blk ((row_below HO.out hbw2).alloc _) hgrow1 (by omega) ((heap_past (by have := hbw2.size; omega)).trans (blk_below HL.out hbw2)), hown1, own_below ((row_below HO.out hbw2).alloc _) hgrow1 (by have := HB1.out; (repeat' (first | (with_reducible exact Below.refl _ _) | (with_reducible assumption) | (with_reducible refine Below.new ?_ _) | (with_reducible refine Below.alloc ?_ ?_ _) | (with_reducible refine Below.drew ?_) | (with_reducible refine Below.drewN ?_ _) | (with_reducible refine Below.setCell ?_ ?_ _) | (refine Below.step ?_ (by assumption)) | go_size))) (by omega)⟩
      case measure => simp [intOf]
    · have c0 := cell_step HA.out.2.2.1 hbw; have c1 := cell_step HA.out.2.2.2 hbw
      have zA : A < wr.heap.size := World.block_lt_of_cell? _ _ c0
      have HB1 := hid hbw; have HO := hid hown; have HL := hid hl
      clear hbw hown hl
      go_wp2_with (first | (go_at_call 46; go_loud ((with_reducible refine (Q1.out _).mono ?_); rintro e w2 ⟨rfl, hb2⟩; have hbw2 : Below wr.heap.size wr w2 := (by (repeat' (first | (with_reducible exact Below.refl _ _) | (with_reducible assumption) | (with_reducible refine Below.new ?_ _) | (with_reducible refine Below.alloc ?_ ?_ _) | (with_reducible refine Below.drew ?_) | (with_reducible refine Below.drewN ?_ _) | (with_reducible refine Below.setCell ?_ ?_ _) | (refine Below.step ?_ (by assumption)) | go_size))); have hz2 := hbw2.size; have y1 := cell_step y0 hbw2; have d1 : w2.cell? ⟨wr.heap.size, 1, none⟩ = some (.bool true) := cell_step (cell_blk (heap_at rfl) rfl) hb2)) | (at_builtin; go_loud (refine wpList_append_sl _ rfl _ _ 23 rfl (w.heap.size + 1) 9 i0 (.string { data := #[] }) 1 16 Tryz.underlying23 hi hiz0 hiz1 hiz2 rfl (by decide) _ _ _ rfl ((row_below HO.out hbw2).alloc _) (.slice (some ⟨w2.heap.size, 0, none⟩) 1 1) 1 [.string { data := #[45] }] rfl (SlAt.new w2 #[.string { data := #[45] }] 9) (by simp [Value.oneCell']) (by unfold maxLen; omega) (by omega) (by simp; omega) ?_); intro va w3 hown1 hgrow1 hnb))
      go_roundw
      case rel => exact ⟨2, by decide, by go_num, own_blk ((row_below HO.out hbw2).alloc _) hgrow1 (by omega) ((heap_past (by have := hbw2.size; omega)).trans (blk_below HL.out hbw2)), hown1, own_below ((row_below HO.out hbw2).alloc _) hgrow1 (by have := HB1.out; (repeat' (first | (with_reducible exact Below.refl _ _) | (with_reducible assumption) | (with_reducible refine Below.new ?_ _) | (with_reducible refine Below.alloc ?_ ?_ _) | (with_reducible refine Below.drew ?_) | (with_reducible refine Below.drewN ?_ _) | (with_reducible refine Below.setCell ?_ ?_ _) | (refine Below.step ?_ (by assumption)) | go_size))) (by omega)⟩
      case measure => simp [intOf]
    · rw [show ((2 : Nat) : Int) = 2 from rfl]
      have HO := hid hown
      have y3 := cell_blk (i := 3) hl rfl
      have HL := hid hl; have HBW := hid hbw
      clear hown hl hbw
      go_wp2_with fail
      go_loopw [3, 8, 9, 49] (fun o _ _ iv wr => ∃ k : Nat, k ≤ 2 ∧ iv = .int .i64 (k : Nat) ∧ wr.heap[w.heap.size]? = some (lineB A B) ∧ wr.ownsRow (w.heap.size + 1) 9 1 o (k + 4) (strsV (lineWords.take (k + 4))) ∧ Below w.heap.size w wr) (fun _ _ _ iv _ => 2 - (intOf iv).toNat)
      case atStart => exact ⟨0, by decide, rfl, HL.out, HO.out, HBW.out⟩
      case round =>
        clear HO HL HBW hlw y0 y3
        obtain ⟨k, hk, rfl, hl, hown, hbw⟩ := hrel
        have hlw := lt_of_block hl
        have hcase : k = 0 ∨ k = 1 ∨ k = 2 := by omega
        rcases hcase with rfl | rfl | rfl
        · have c0 := cell_step HB.out.1 hbw; have c1 := cell_step HB.out.2.1 hbw; have c2 := cell_step HB.out.2.2.1 hbw
          have zB : B < wr.heap.size := World.block_lt_of_cell? _ _ c0
          have HB1 := hid hbw; have HO := hid hown; have HL := hid hl
          clear hbw hown hl
          go_wp2_with (first | (go_at_call 45; go_loud ((with_reducible refine (F2.out _).mono ?_); rintro e w2 ⟨rfl, hb2⟩; have hbw2 : Below wr.heap.size wr w2 := (by (repeat' (first | (with_reducible exact Below.refl _ _) | (with_reducible assumption) | (with_reducible refine Below.new ?_ _) | (with_reducible refine Below.alloc ?_ ?_ _) | (with_reducible refine Below.drew ?_) | (with_reducible refine Below.drewN ?_ _) | (with_reducible refine Below.setCell ?_ ?_ _) | (refine Below.step ?_ (by assumption)) | go_size))); have hz2 := hbw2.size; have d0 := cell_step (cell_blk (i := 0) (heap_at rfl) rfl) hb2; have d2 := cell_step (cell_blk (i := 2) (heap_at rfl) rfl) hb2)) | (at_builtin; go_loud (refine wpList_append_sl _ rfl _ _ 23 rfl (w.heap.size + 1) 9 i0 (.string { data := #[] }) 1 16 Tryz.underlying23 hi hiz0 hiz1 hiz2 rfl (by decide) _ _ _ rfl ((row_below HO.out hbw2).alloc _) (.slice (some ⟨w2.heap.size, 0, none⟩) 1 1) 1 [.string { data := #[53] }] rfl (SlAt.new w2 #[.string { data := #[53] }] 9) (by simp [Value.oneCell']) (by unfold maxLen; omega) (by omega) (by simp; omega) ?_); intro va w3 hown1 hgrow1 hnb))
          go_roundw
          case rel => exact ⟨1, by decide, by go_num, own_blk ((row_below HO.out hbw2).alloc _) hgrow1 (by omega) ((heap_past (by have := hbw2.size; omega)).trans (blk_below HL.out hbw2)), hown1, own_below ((row_below HO.out hbw2).alloc _) hgrow1 (by have := HB1.out; (repeat' (first | (with_reducible exact Below.refl _ _) | (with_reducible assumption) | (with_reducible refine Below.new ?_ _) | (with_reducible refine Below.alloc ?_ ?_ _) | (with_reducible refine Below.drew ?_) | (with_reducible refine Below.drewN ?_ _) | (with_reducible refine Below.setCell ?_ ?_ _) | (refine Below.step ?_ (by assumption)) | go_size))) (by omega)⟩
          case measure => simp [intOf]
        · have c0 := cell_step HB.out.2.2.2.1 hbw; have c1 := cell_step HB.out.2.2.2.2.1 hbw; have c2 := cell_step HB.out.2.2.2.2.2 hbw
          have zB : B < wr.heap.size := World.block_lt_of_cell? _ _ c0
          have HB1 := hid hbw; have HO := hid hown; have HL := hid hl
          clear hbw hown hl
          go_wp2_with (first | (go_at_call 45; go_loud ((with_reducible refine (F3.out _).mono ?_); rintro e w2 ⟨rfl, hb2⟩; have hbw2 : Below wr.heap.size wr w2 := (by (repeat' (first | (with_reducible exact Below.refl _ _) | (with_reducible assumption) | (with_reducible refine Below.new ?_ _) | (with_reducible refine Below.alloc ?_ ?_ _) | (with_reducible refine Below.drew ?_) | (with_reducible refine Below.drewN ?_ _) | (with_reducible refine Below.setCell ?_ ?_ _) | (refine Below.step ?_ (by assumption)) | go_size))); have hz2 := hbw2.size; have d0 := cell_step (cell_blk (i := 0) (heap_at rfl) rfl) hb2; have d2 := cell_step (cell_blk (i := 2) (heap_at rfl) rfl) hb2)) | (go_at_call 47; go_loud ((with_reducible refine (TX.out _ (HB1.out.trans (hbw2.mono (by omega)))).mono ?_); rintro e w4 ⟨rfl, hb4⟩; have hbw4 : Below wr.heap.size wr w4 := hbw2.step hb4; have hz4 := hbw4.size)) | (at_builtin; go_loud (refine wpList_append_sl _ rfl _ _ 23 rfl (w.heap.size + 1) 9 i0 (.string { data := #[] }) 1 16 Tryz.underlying23 hi hiz0 hiz1 hiz2 rfl (by decide) _ _ _ rfl ((row_below HO.out hbw4).alloc _) (.slice (some ⟨w4.heap.size, 0, none⟩) 1 1) 1 [.string { data := #[53, 112, 45, 49] }] rfl (SlAt.new w4 #[.string { data := #[53, 112, 45, 49] }] 9) (by simp [Value.oneCell']) (by unfold maxLen; omega) (by omega) (by simp; omega) ?_); intro va w3 hown1 hgrow1 hnb))
          go_roundw
          case rel => exact ⟨2, by decide, by go_num, own_blk ((row_below HO.out hbw4).alloc _) hgrow1 (by omega) ((heap_past (by have := hbw4.size; omega)).trans (blk_below HL.out hbw4)), hown1, own_below ((row_below HO.out hbw4).alloc _) hgrow1 (by have := HB1.out; (repeat' (first | (with_reducible exact Below.refl _ _) | (with_reducible assumption) | (with_reducible refine Below.new ?_ _) | (with_reducible refine Below.alloc ?_ ?_ _) | (with_reducible refine Below.drew ?_) | (with_reducible refine Below.drewN ?_ _) | (with_reducible refine Below.setCell ?_ ?_ _) | (refine Below.step ?_ (by assumption)) | go_size))) (by omega)⟩
          case measure => simp [intOf]
        · obtain ⟨g, cap, rfl⟩ := Joins.ownsRow_form hown (by decide)
          have hpt := SlAt.parts (SlAt.own hown)
          obtain ⟨g', off', he, hcell⟩ := hpt.2.2.2.2 (by decide)
          have hgl := (hown.lt g rfl).2
          obtain ⟨rfl, rfl⟩ : g' = g ∧ off' = 0 := by
            have := Option.some.inj he
            simp only [Addr.mk.injEq] at this
            exact ⟨this.1.symm, this.2.1.symm⟩
          have HJ := hid (Tryz.strings_Join g' 0 cap lineWords { data := #[32] } wr (fun j x hj => hcell j _ (by show ((lineWords.map Value.string))[j]? = _; rw [List.getElem?_map, hj]; rfl)) hgl (by decide) hpt.2.1 (by decide))
          rw [show (⟨(Lib.join (lineWords.map (·.data.toList)) (ByteArray.mk #[32]).data.toList).toArray⟩ : ByteArray) = { data := #[50, 32, 54, 48, 32, 34, 120, 34, 32, 45, 32, 53, 32, 53, 112, 45, 49] } from rfl, show lineWords.length = 6 from rfl] at HJ
          have HBW := hid hbw
          clear hown hpt hcell hl hbw he
          go_wp2_with (go_at_call 48; go_loud ((with_reducible refine (HJ.out).mono ?_); rintro e w2 ⟨rfl, hb2⟩))
          go_ret
          exact ⟨rfl, by have := HBW.out; (repeat' (first | (with_reducible exact Below.refl _ _) | (with_reducible assumption) | (with_reducible refine Below.new ?_ _) | (with_reducible refine Below.alloc ?_ ?_ _) | (with_reducible refine Below.drew ?_) | (with_reducible refine Below.drewN ?_ _) | (with_reducible refine Below.setCell ?_ ?_ _) | (refine Below.step ?_ (by assumption)) | go_size))⟩
end Go.Proofs.YtejleplhmkmegaaGreatDoor
