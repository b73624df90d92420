/- What the laws cut: a row; some texts. -/
import Derived.Test.YtdgeinipdphoeaaSchL
import Derived.Test.YtdgeinipdphoeaaBlk
import Derived.Test.YtdgeinipdphoeaaMixed
namespace Go.Proofs.Ytdgeinipdphoeaa
set_option linter.unusedVariables false
set_option linter.unusedSimpArgs false
set_option maxRecDepth 100000
open Go.ChangeShapes Go.WideShapes Go.ChangeAt Go.RowKit

theorem cell_new {w : World} {a : Addr} {v : Value} (h : w.cell? a = some v) (o : Obj) : (w.alloc o).cell? a = some v := (World.cell?_alloc_lt w o a (World.block_lt_of_cell? _ _ h)).trans h
theorem row_far {w : World} {base b o : Nat} {e : TypeId} {size : Nat} {v : Value} {n : Nat} {xs : List Value} (h : w.ownsRow base e size v n xs) (hb : b < base) {u : Value} : (w.setCell ⟨b, o, none⟩ u).ownsRow base e size v n xs := by
  refine ⟨h.1, ?_⟩
  rcases h.2 with h2 | ⟨g, cap, cur, hv, hg, hh, r⟩
  · exact .inl h2
  · exact .inr ⟨g, cap, cur, hv, hg, (heap_set_other (by omega)).trans hh, r⟩
theorem row_below {w w' : World} {base : Nat} {e : TypeId} {size : Nat} {v : Value} {n : Nat} {xs : List Value} (h : w.ownsRow base e size v n xs) (hb : Below w.heap.size w w') : w'.ownsRow base e size v n xs :=
  h.kept (row := none) ⟨hb.os, hb.tape, hb.output, hb.size, fun i hi _ => hb.block i hi⟩ (by cases v.ownBlock <;> simp)
theorem set3 {w : World} {b : Nat} {x y z x' y' z' : Value} {T : TypeId} (h : w.heap[b]? = some (.cells #[x, y, z] T (0, 0))) : (((w.setCell ⟨b, 0, none⟩ x').setCell ⟨b, 1, none⟩ y').setCell ⟨b, 2, none⟩ z').heap[b]? = some (.cells #[x', y', z'] T (0, 0)) := by
  have := blk_set (o := 2) (v := z') (blk_set (o := 1) (v := y') (blk_set (o := 0) (v := x') h))
  simpa using this
theorem set3_other {w : World} {b c : Nat} {x' y' z' : Value} {o : Obj} (h : w.heap[c]? = some o) (hne : c ≠ b) : (((w.setCell ⟨b, 0, none⟩ x').setCell ⟨b, 1, none⟩ y').setCell ⟨b, 2, none⟩ z').heap[c]? = some o :=
  (heap_set_other hne).trans ((heap_set_other hne).trans ((heap_set_other hne).trans h))
theorem row_far3 {w : World} {base b : Nat} {e : TypeId} {size : Nat} {v : Value} {n : Nat} {xs : List Value} (h : w.ownsRow base e size v n xs) (hb : b < base) {x' y' z' : Value} : (((w.setCell ⟨b, 0, none⟩ x').setCell ⟨b, 1, none⟩ y').setCell ⟨b, 2, none⟩ z').ownsRow base e size v n xs :=
  row_far (row_far (row_far h hb) hb) hb
theorem below3 {w0 w : World} {b : Nat} (h : Below w0.heap.size w0 w) (hb : w0.heap.size ≤ b) {x' y' z' : Value} : Below w0.heap.size w0 (((w.setCell ⟨b, 0, none⟩ x').setCell ⟨b, 1, none⟩ y').setCell ⟨b, 2, none⟩ z') :=
  Below.setCell (Below.setCell (Below.setCell h hb _) hb _) hb _
theorem three_at {w : World} {b : Nat} {x y z : Value} {t : TypeId} (h : w.heap[b]? = some (.cells #[x, y, z] t (0, 0))) : w.cell? ⟨b, 0, none⟩ = some x ∧ w.cell? ⟨b, 1, none⟩ = some y ∧ w.cell? ⟨b, 2, none⟩ = some z ∧ w.frozen? ⟨b, 0, none⟩ = false ∧ w.frozen? ⟨b, 1, none⟩ = false ∧ w.frozen? ⟨b, 2, none⟩ = false := by
  unfold World.cell? World.frozen?
  rw [h]
  simp
theorem blk_below {w w' : World} {b : Nat} {o : Obj} (h : w.heap[b]? = some o) (hb : Below w.heap.size w w') : w'.heap[b]? = some o := (hb.block b (blk_lt h)).trans h
set_option maxHeartbeats 2000000 in
theorem fewRow_some (vd : Value) (an : Option Addr) (n cn : Nat) (t : Int) (l : List ValD) (w : World) (hv : ValsSl w vd l) (hl : ∀ v ∈ l, v.s.size ≤ 9223372036854775807) (h1 : n ≤ cn) (h2 : cn ≤ maxLen) (h3 : an = none → cn = 0) :
    Calls Try.prog 15 #[.agg #[.int .i64 t, vd, .slice an n cn]] w fun e w' => ∃ v', e = .returned (.agg #[.int .i64 t, v', .slice an (min n 10) cn]) ∧ w'.ownsRow (w.heap.size + 1 + 1) 54 2 v' (valsCut l).length ((valsCut l).flatMap ValD.cells) ∧ Below w.heap.size w w' := by
  obtain ⟨ad, cd, rfl, hcd, hcd2, _⟩ := SlAt.shape hv
  have HV := hid (fun W (h : Below w.heap.size w W) => vals_any _ l W (hv.below h) hl)
  clear hv
  unfold maxLen at h2
  obtain ⟨M, hM⟩ : ∃ M, min n 10 = M := ⟨_, rfl⟩
  have hM2 : (min (n : Int) 10).toNat = M := by omega
  have hML : M ≤ n := by omega
  rw [hM]
  have HM := hid hM
  clear hM
  generalize (valsCut l).length = N at *
  generalize (valsCut l).flatMap ValD.cells = R at *
  generalize l.length = L at *
  have im := ite_min
  have q1 : (0 : Int) ≤ min (n : Int) 10 := by omega
  have q2 : min (n : Int) 10 ≤ (cn : Int) := by omega
  have q3 : min (n : Int) 10 ≤ (n : Int) := by omega
  go_enter Try.func15, Try.ntmps15
  go_wp2
  have hS0 : (fun w' : World => w'.cell? ⟨w.heap.size, 0, none⟩ = some (.int .i64 t) ∧ w'.cell? ⟨w.heap.size, 1, none⟩ = some (.slice ad L cd) ∧ w'.cell? ⟨w.heap.size, 2, none⟩ = some (.slice an n cn)) ((w.alloc (.cells #[.int .i64 t, .slice ad L cd, .slice an n cn] 28)).alloc (.cells #[.int .i64 0, .slice none 0 0, .slice none 0 0] 28)).drew := ⟨by go_simp, by go_simp, by go_simp⟩
  refine wp_region_some (fun w' : World => w'.cell? ⟨w.heap.size, 0, none⟩ = some (.int .i64 t) ∧ w'.cell? ⟨w.heap.size, 1, none⟩ = some (.slice ad L cd) ∧ w'.cell? ⟨w.heap.size, 2, none⟩ = some (.slice an n cn)) [12, 13] (by kernel_rfl) ?_
  (refine wpMix_take (i := 0) (v := ?_) rfl (by kernel_rfl) (fun _ _ _ h => h) (Or.inl ⟨by rfl, ?_⟩) hS0 ?_; rotate_left 1; (focus (intro w hSw; (try dsimp only at hSw); go_simp; try (with_reducible rfl))); (try simp only [Act.put, List.setIfInBounds_toArray, List.set_cons_zero, List.set_cons_succ]))
  (refine wpMix_take (i := 1) (v := ?_) rfl (by kernel_rfl) (fun _ _ _ h => h) (Or.inl ⟨by rfl, ?_⟩) hS0 ?_; rotate_left 1; (focus (intro w hSw; (try dsimp only at hSw); go_simp; try (with_reducible rfl))); (try simp only [Act.put, List.setIfInBounds_toArray, List.set_cons_zero, List.set_cons_succ]))
  (refine wpMix_take (i := 2) (v := ?_) rfl (by kernel_rfl) (fun _ _ _ h => h) (Or.inl ⟨by rfl, ?_⟩) hS0 ?_; rotate_left 1; (focus (intro w hSw; (try dsimp only at hSw); go_simp; try (with_reducible rfl))); (try simp only [Act.put, List.setIfInBounds_toArray, List.set_cons_zero, List.set_cons_succ]))
  (refine wpMix_take (i := 3) (v := ?_) rfl (by kernel_rfl) (fun _ _ _ h => h) (Or.inl ⟨by rfl, ?_⟩) hS0 ?_; rotate_left 1; (focus (intro w hSw; (try dsimp only at hSw); go_simp; try (with_reducible rfl))); (try simp only [Act.put, List.setIfInBounds_toArray, List.set_cons_zero, List.set_cons_succ]))
  (refine wpMix_take (i := 5) (v := ?_) rfl (by kernel_rfl) (fun _ _ _ h => h) (Or.inl ⟨by rfl, ?_⟩) hS0 ?_; rotate_left 1; (focus (intro w hSw; (try dsimp only at hSw); go_simp; try (with_reducible rfl))); (try simp only [Act.put, List.setIfInBounds_toArray, List.set_cons_zero, List.set_cons_succ]))
  (refine wpMix_take (i := 6) (v := ?_) rfl (by kernel_rfl) (fun _ _ _ h => h) (Or.inl ⟨by rfl, ?_⟩) hS0 ?_; rotate_left 1; (focus (intro w hSw; (try dsimp only at hSw); go_simp; try (with_reducible rfl))); (try simp only [Act.put, List.setIfInBounds_toArray, List.set_cons_zero, List.set_cons_succ]))
  (refine wpMix_take (i := 7) (v := ?_) rfl (by kernel_rfl) (fun _ _ _ h => h) (Or.inl ⟨by rfl, ?_⟩) hS0 ?_; rotate_left 1; (focus (intro w hSw; (try dsimp only at hSw); go_simp; try (with_reducible rfl))); (try simp only [Act.put, List.setIfInBounds_toArray, List.set_cons_zero, List.set_cons_succ]))
  (refine wpMix_take (i := 8) (v := ?_) rfl (by kernel_rfl) (fun _ _ _ h => h) (Or.inl ⟨by rfl, ?_⟩) hS0 ?_; rotate_left 1; (focus (intro w hSw; (try dsimp only at hSw); go_simp; try (with_reducible rfl))); (try simp only [Act.put, List.setIfInBounds_toArray, List.set_cons_zero, List.set_cons_succ]))
  (refine wpMix_take (i := 9) (v := ?_) rfl (by kernel_rfl) (fun _ _ _ h => h) (Or.inl ⟨by rfl, ?_⟩) hS0 ?_; rotate_left 1; (focus (intro w hSw; (try dsimp only at hSw); go_simp; try (with_reducible rfl))); (try simp only [Act.put, List.setIfInBounds_toArray, List.set_cons_zero, List.set_cons_succ]))
  (refine wpMix_take (i := 10) (v := ?_) rfl (by kernel_rfl) (fun _ _ _ h => h) (Or.inl ⟨by rfl, ?_⟩) hS0 ?_; rotate_left 1; (focus (intro w hSw; (try dsimp only at hSw); go_simp; try (with_reducible rfl))); (try simp only [Act.put, List.setIfInBounds_toArray, List.set_cons_zero, List.set_cons_succ]))
  (refine wpMix_take (i := 11) (v := ?_) rfl (by kernel_rfl) (fun _ _ _ h => h) (Or.inl ⟨by rfl, ?_⟩) hS0 ?_; rotate_left 1; (focus (intro w hSw; (try dsimp only at hSw); go_simp; try (with_reducible rfl))); (try simp only [Act.put, List.setIfInBounds_toArray, List.set_cons_zero, List.set_cons_succ]))
  refine wpMix_next (t := 4) (by kernel_rfl) ?_
  simp only [opsAt, List.flatMap_cons, List.flatMap_nil, List.take_succ_cons, List.take_zero, List.drop_succ_cons, List.drop_zero, List.append_nil, List.cons_append, List.nil_append]
  go_wp2_with (go_at_call 44; go_loud ((with_reducible refine (HV.out _ (by (repeat' (first | (with_reducible exact Below.refl _ _) | (with_reducible assumption) | (with_reducible refine Below.new ?_ _) | (with_reducible refine Below.alloc ?_ ?_ _) | (with_reducible refine Below.drew ?_) | (with_reducible refine Below.drewN ?_ _) | (with_reducible refine Below.setCell ?_ ?_ _) | (refine Below.step ?_ (by assumption)) | go_size)))).mono ?_); rintro e w1 ⟨v', rfl, hown, hb1⟩; obtain ⟨hc1, hf1, hk1, hz1⟩ := bcell3 hb1; (try simp only [World.size_alloc, World.size_drew] at hz1); have : w.heap.size < w1.heap.size := (by omega); have : w.heap.size + 1 < w1.heap.size := (by omega); have s0 := cell_step hS0.1 hb1; have s1 := cell_step hS0.2.1 hb1; have s2 := cell_step hS0.2.2 hb1))
  refine ⟨⟨s0, s1, s2⟩, ?_⟩
  refine wpMix_rest [12, 13] (by kernel_rfl) ?_
  simp only [opsAt, List.flatMap_cons, List.flatMap_nil, List.take_succ_cons, List.take_zero, List.drop_succ_cons, List.drop_zero, List.append_nil, List.cons_append, List.nil_append]
  obtain ⟨a1, c1, rfl⟩ : ∃ ao cap, v' = .slice ao N cap := by
    obtain ⟨ao, cap, h, _⟩ := SlAt.shape (SlAt.own hown)
    exact ⟨ao, cap, h⟩
  go_wp2
  ((show bodyPost _ _ _ _ _ _); refine bodyPost_ret (by simp only [results, Try.results15]; go_simp; try rfl) rfl ?_)
  refine ⟨_, rfl, ?_, by (repeat' (first | (with_reducible exact Below.refl _ _) | (with_reducible assumption) | (with_reducible refine Below.new ?_ _) | (with_reducible refine Below.alloc ?_ ?_ _) | (with_reducible refine Below.drew ?_) | (with_reducible refine Below.drewN ?_ _) | (with_reducible refine Below.setCell ?_ ?_ _) | (refine Below.step ?_ (by assumption)) | go_size))⟩
  repeat (refine row_far ?_ (by omega))
  exact hown.base_le (by simp)
/-- The first of some numbers. -/
theorem IntsSl.take {w : World} {an : Option Addr} {cn : Nat} {xs : List Int} (h : IntsSl w (.slice an xs.length cn) xs) (k : Nat) : IntsSl w (.slice an (min xs.length k) cn) (xs.take k) := by
  have h2 := SlAt.take h (k := min xs.length k) (Nat.min_le_left _ _)
  have e : (xs.take k).length = min xs.length k := by rw [List.length_take, Nat.min_comm]
  unfold IntsSl
  rw [e, List.map_take]
  rw [Nat.mul_one] at h2
  by_cases hk : k ≤ xs.length
  · rw [Nat.min_eq_right hk] at h2 ⊢
    exact h2
  · rw [Nat.min_eq_left (by omega)] at h2 ⊢
    rw [List.take_of_length_le (by simp)] at h2
    rw [List.take_of_length_le (by simp; omega)]
    exact h2
theorem fewRow_any (vd vn : Value) (t : Int) (l : List ValD) (xs : List Int) (w : World) (hv : ValsSl w vd l) (hl : ∀ v ∈ l, v.s.size ≤ 9223372036854775807) (hn : IntsSl w vn xs) :
    Calls Try.prog 15 #[.agg #[.int .i64 t, vd, vn]] w fun e w' => ∃ v1 v2, e = .returned (.agg #[.int .i64 t, v1, v2]) ∧ w'.ownsRow (w.heap.size + 1 + 1) 54 2 v1 (valsCut l).length ((valsCut l).flatMap ValD.cells) ∧ (∀ w0, IntsSl w0 vn xs → IntsSl w0 v2 (xs.take 10)) ∧ Below w.heap.size w w' := by
  obtain ⟨an, cn, rfl, h1, h2, h3⟩ := SlAt.shape hn
  exact (fewRow_some vd an xs.length cn t l w hv hl h1 h2 h3).mono fun e w' ⟨v', h1, h2, h3⟩ => ⟨v', _, h1, h2, fun w0 h0 => IntsSl.take h0 10, h3⟩

theorem txt5_snoc {ss : List ByteArray} {k : Nat} (hk : k < ss.length) : strsV ((ss.take (k + 1)).map (cutS 110)) = strsV ((ss.take k).map (cutS 110)) ++ [.string (cutS 110 ss[k])] := by
  rw [List.take_succ_eq_append_getElem hk, List.map_append]
  unfold strsV
  rw [List.map_append]
  rfl
set_option maxHeartbeats 2000000 in
theorem few5_any (vd : Value) (ss : List ByteArray) (n : Nat) (w : World) (hd : StrsSl w vd ss) (hn : n ≤ 1000000000) (td : ∀ s ∈ ss, s.size ≤ 9223372036854775807) :
    Calls Try.prog 16 #[vd, .int .i64 (n : Int)] w fun e w' => ∃ v1, e = .returned v1 ∧ w'.ownsRow w.heap.size 9 1 v1 (min ss.length n) (strsV ((ss.take n).map (cutS 110))) ∧ Below w.heap.size w w' := by
  obtain ⟨i0, hi, hiz0, hiz1, hiz2⟩ := info_parts info_string
  have HD := hid hd
  have HZD := hid (fun i (hi : i < ss.length) => td ss[i] (List.getElem_mem hi))
  obtain ⟨ad, cd, rfl, hcd, hcd2, _⟩ := SlAt.shape hd
  obtain ⟨LD, hLD⟩ : ∃ L, ss.length = L := ⟨_, rfl⟩
  have HLD := hid hLD
  obtain ⟨N, hN⟩ : ∃ N, min LD n = N := ⟨_, rfl⟩
  have HCN : Hid ((N = LD ∨ N = n) ∧ N ≤ LD ∧ N ≤ n) := by unfold Hid; omega
  obtain ⟨R, hR⟩ : ∃ R, strsV ((ss.take n).map (cutS 110)) = R := ⟨_, rfl⟩
  have HR : Hid (strsV ((ss.take N).map (cutS 110)) = R) := by
    unfold Hid
    rw [← hR, ← hN]
    by_cases h : LD ≤ n
    · rw [List.take_of_length_le (by omega), List.take_of_length_le (by omega)]
    · rw [Nat.min_eq_right (by omega)]
  rw [hR]
  rw [hLD] at hcd ⊢
  rw [hN]
  clear hd td hLD hN hR
  unfold maxLen at hcd2
  go_enter Try.func16, Try.ntmps16
  go_wp2
  go_loopw [5, 6] (fun o i wr => ∃ k, k ≤ N ∧ i = .int .i64 (k : Nat) ∧ wr.ownsRow w.heap.size 9 1 o k (strsV ((ss.take k).map (cutS 110))) ∧ Below w.heap.size w wr) (fun _ i _ => N - (intOf i).toNat)
  case atStart => exact ⟨0, Nat.zero_le _, rfl, World.ownsRow_nil _ _ _ _, Below.refl _ _⟩
  case round =>
    obtain ⟨k, hk, rfl, hown, hbel⟩ := hrel
    by_cases hkN : k < N
    · have hkL : k < LD := by have := HCN.out; omega
      have hkn : k < n := by have := HCN.out; omega
      have hlen : k < ss.length := by rw [HLD.out]; exact hkL
      obtain ⟨b, off, rfl, hcell⟩ := (SlAt.parts HD.out).2.2.2.2 (by simp; omega)
      have ck := hcell k (.string ss[k]) (by rw [List.getElem?_map, List.getElem?_eq_getElem hlen]; rfl)
      have dk := cell_step ck hbel
      have hz := HZD.out k hlen
      have HT := hid (txt5_snoc hlen)
      generalize ss[k] = s at *
      have z3 : b < wr.heap.size := World.block_lt_of_cell? _ _ dk
      have zW := hbel.size
      have HB := hid hbel; have HO := hid hown
      clear hcell ck hbel hown
      have g1 : (0 : Int) ≤ (k : Int) := Int.natCast_nonneg _
      have g2 : (k : Int) < (LD : Int) := by omega
      have im := ite_min
      have q1 : (0 : Int) ≤ min (s.size : Int) 110 := by omega
      have q2 : min (s.size : Int) 110 ≤ (s.size : Int) := by omega
      have q3 : s.extract 0 (min (s.size : Int) 110).toNat = cutS 110 s := cutS_is 110 s
      go_wp2
      have hS0 : (fun w' : World => w'.cell? ⟨b, off + k, none⟩ = some (.string s)) wr.drew := dk
      refine wp_region_some (fun w' : World => w'.cell? ⟨b, off + k, none⟩ = some (.string s)) [13, 14] (by kernel_rfl) ?_
      (refine wpMix_take (i := 0) (v := ?_) rfl (by kernel_rfl) (fun _ _ _ h => h) (Or.inl ⟨by rfl, ?_⟩) hS0 ?_; rotate_left 1; (focus (intro w hSw; (try dsimp only at hSw); go_simp; try (with_reducible rfl))); (try simp only [Act.put, List.setIfInBounds_toArray, List.set_cons_zero, List.set_cons_succ]))
      (refine wpMix_take (i := 1) (v := ?_) rfl (by kernel_rfl) (fun _ _ _ h => h) (Or.inl ⟨by rfl, ?_⟩) hS0 ?_; rotate_left 1; (focus (intro w hSw; (try dsimp only at hSw); go_simp; try (with_reducible rfl))); (try simp only [Act.put, List.setIfInBounds_toArray, List.set_cons_zero, List.set_cons_succ]))
      (refine wpMix_take (i := 2) (v := ?_) rfl (by kernel_rfl) (fun _ _ _ h => h) (Or.inl ⟨by rfl, ?_⟩) hS0 ?_; rotate_left 1; (focus (intro w hSw; (try dsimp only at hSw); go_simp; try (with_reducible rfl))); (try simp only [Act.put, List.setIfInBounds_toArray, List.set_cons_zero, List.set_cons_succ]))
      (refine wpMix_take (i := 3) (v := ?_) rfl (by kernel_rfl) (fun _ _ _ h => h) (Or.inl ⟨by rfl, ?_⟩) hS0 ?_; rotate_left 1; (focus (intro w hSw; (try dsimp only at hSw); go_simp; try (with_reducible rfl))); (try simp only [Act.put, List.setIfInBounds_toArray, List.set_cons_zero, List.set_cons_succ]))
      (refine wpMix_take (i := 4) (v := ?_) rfl (by kernel_rfl) (fun _ _ _ h => h) (Or.inl ⟨by rfl, ?_⟩) hS0 ?_; rotate_left 1; (focus (intro w hSw; (try dsimp only at hSw); go_simp; try (with_reducible rfl))); (try simp only [Act.put, List.setIfInBounds_toArray, List.set_cons_zero, List.set_cons_succ]))
      (refine wpMix_take (i := 5) (v := ?_) rfl (by kernel_rfl) (fun _ _ _ h => h) (Or.inl ⟨by rfl, ?_⟩) hS0 ?_; rotate_left 1; (focus (intro w hSw; (try dsimp only at hSw); go_simp; try (with_reducible rfl))); (try simp only [Act.put, List.setIfInBounds_toArray, List.set_cons_zero, List.set_cons_succ]))
      (refine wpMix_take (i := 6) (v := ?_) rfl (by kernel_rfl) (fun _ _ _ h => h) (Or.inl ⟨by rfl, ?_⟩) hS0 ?_; rotate_left 1; (focus (intro w hSw; (try dsimp only at hSw); go_simp; try (with_reducible rfl))); (try simp only [Act.put, List.setIfInBounds_toArray, List.set_cons_zero, List.set_cons_succ]))
      (refine wpMix_take (i := 7) (v := ?_) rfl (by kernel_rfl) (fun _ _ _ h => h) (Or.inl ⟨by rfl, ?_⟩) hS0 ?_; rotate_left 1; (focus (intro w hSw; (try dsimp only at hSw); go_simp; try (with_reducible rfl))); (try simp only [Act.put, List.setIfInBounds_toArray, List.set_cons_zero, List.set_cons_succ]))
      (refine wpMix_take (i := 8) (v := ?_) rfl (by kernel_rfl) (fun _ _ _ h => h) (Or.inl ⟨by rfl, ?_⟩) hS0 ?_; rotate_left 1; (focus (intro w hSw; (try dsimp only at hSw); go_simp; try (with_reducible rfl))); (try simp only [Act.put, List.setIfInBounds_toArray, List.set_cons_zero, List.set_cons_succ]))
      (refine wpMix_take (i := 9) (v := ?_) rfl (by kernel_rfl) (fun _ _ _ h => h) (Or.inl ⟨by rfl, ?_⟩) hS0 ?_; rotate_left 1; (focus (intro w hSw; (try dsimp only at hSw); go_simp; try (with_reducible rfl))); (try simp only [Act.put, List.setIfInBounds_toArray, List.set_cons_zero, List.set_cons_succ]))
      (refine wpMix_take (i := 10) (v := ?_) rfl (by kernel_rfl) (fun _ _ _ h => h) (Or.inl ⟨by rfl, ?_⟩) hS0 ?_; rotate_left 1; (focus (intro w hSw; (try dsimp only at hSw); go_simp; try (with_reducible rfl))); (try simp only [Act.put, List.setIfInBounds_toArray, List.set_cons_zero, List.set_cons_succ]))
      (refine wpMix_take (i := 11) (v := ?_) rfl (by kernel_rfl) (fun _ _ _ h => h) (Or.inl ⟨by rfl, ?_⟩) hS0 ?_; rotate_left 1; (focus (intro w hSw; (try dsimp only at hSw); go_simp; try (with_reducible rfl))); (try simp only [Act.put, List.setIfInBounds_toArray, List.set_cons_zero, List.set_cons_succ]))
      refine wpMix_next (t := 12) (by kernel_rfl) ?_
      simp only [opsAt, List.flatMap_cons, List.flatMap_nil, List.take_succ_cons, List.take_zero, List.drop_succ_cons, List.drop_zero, List.append_nil, List.cons_append, List.nil_append]
      go_wp2
      refine ⟨by go_simp, ?_⟩
      refine wpMix_rest [13, 14] (by kernel_rfl) ?_
      simp only [opsAt, List.flatMap_cons, List.flatMap_nil, List.take_succ_cons, List.take_zero, List.drop_succ_cons, List.drop_zero, List.append_nil, List.cons_append, List.nil_append]
      go_wp2_with (at_builtin; go_loud (refine wpList_append_sl _ rfl _ _ 22 rfl w.heap.size 9 i0 (.string { data := #[] }) 1 16 Try.underlying22 hi hiz0 hiz1 hiz2 rfl (by decide) _ k _ rfl ((HO.out.alloc _).drew) (.slice (some ⟨wr.heap.size, 0, none⟩) 1 1) 1 [.string (cutS 110 s)] rfl ((SlAt.new wr #[.string (cutS 110 s)] 9).drew) (by simp [Value.oneCell']) (by unfold maxLen; omega) (by omega) (by simp; omega) ?_); intro v1 w1 hown1 hgrow1 hb1)
      go_roundw
      case rel => exact ⟨k + 1, hkN, by go_num, by rw [HT.out]; exact hown1, own_below ((HO.out.alloc _).drew) hgrow1 (by have := HB.out; (repeat' (first | (with_reducible exact Below.refl _ _) | (with_reducible assumption) | (with_reducible refine Below.new ?_ _) | (with_reducible refine Below.alloc ?_ ?_ _) | (with_reducible refine Below.drew ?_) | (with_reducible refine Below.drewN ?_ _) | (with_reducible refine Below.setCell ?_ ?_ _) | (refine Below.step ?_ (by assumption)) | go_size))) (Nat.le_refl _)⟩
      case measure => simp [intOf]; omega
    · obtain rfl : k = N := by omega
      rw [HR.out] at hown
      have hex : LD = k ∨ (k < LD ∧ k = n) := by have := HCN.out; omega
      have HEX := hid hex; have HO := hid hown; have HB := hid hbel
      clear hex hown hbel
      rcases HEX.out with h | ⟨h, h10⟩
      all_goals
        first | subst h | skip
        first | subst h10 | skip
        go_wp2
        go_ret
        exact ⟨_, rfl, HO.out, HB.out⟩
end Go.Proofs.Ytdgeinipdphoeaa
