/- Varints: the program's 'Unpack'. -/
import Derived.Test.YtpgifmccajcgkaaDoorVarK
import Derived.Test.YtpgifmccajcgkaaDoorInfo
namespace Go.Proofs.YtpgifmccajcgkaaDoor
set_option linter.unusedVariables false
set_option linter.unusedSimpArgs false
open Go.ChangeShapes Go.WideShapes Go.ChangeAt Go.RowKit

/-- Numbers that stand already, and what comes behind. -/
def comb (xs : List Int) (u : Nat) (R : Nat × List Int × Nat) : Nat × List Int × Nat := if R.1 ≠ 0 then (R.1, [], 0) else (0, xs ++ R.2.1, u + R.2.2)
theorem comb_bad {xs : List Int} {u c : Nat} (hc : c ≠ 0) : comb xs u (c, [], 0) = (c, [], 0) := by simp [comb, hc]
theorem comb_comb (xs : List Int) (u : Nat) (x : Int) (j : Nat) (R : Nat × List Int × Nat) : comb xs u (comb [x] j R) = comb (xs ++ [x]) (u + j) R := by
  unfold comb
  by_cases h : R.1 = 0
  · simp [h, Nat.add_assoc]
  · simp [h]
theorem unF_fail {m c v j : Nat} {last : Int} {s : List UInt8} (h : nextV s = (c, v, j)) (hc : c ≠ 0) : unF (m + 1) last s = (c, [], 0) := by rw [unF, h]; simp [hc]
theorem unF_step {m v j : Nat} {last : Int} {s : List UInt8} (h : nextV s = (0, v, j)) : unF (m + 1) last s = comb [wrap64 (last + backV (v : Int))] j (unF m (wrap64 (last + backV (v : Int))) (s.drop j)) := by
  rw [unF, h, comb]; simp
theorem unV_fail {c v j : Nat} {s : List UInt8} (h : nextV s = (c, v, j)) (hc : c ≠ 0) : unV s = (c, [], 0) := by rw [unV, h]; simp [hc]
theorem unV_many {v j : Nat} {s : List UInt8} (h : nextV s = (0, v, j)) (hc : 1000 < v) : unV s = (20, [], 0) := by rw [unV, h]; simp [hc]
theorem unV_step {v j : Nat} {s : List UInt8} (h : nextV s = (0, v, j)) (hc : v ≤ 1000) : unV s = comb [] j (unF v 0 (s.drop j)) := by
  rw [unV, h, comb]; simp only [ne_eq, not_true_eq_false, if_false]; rw [if_neg (by omega)]; simp

theorem bytesOf_extract (s : ByteArray) (a : Nat) : bytesOf (s.extract a s.size) = (bytesOf s).drop a := by
  show (s.extract a s.size).data.toList = s.data.toList.drop a
  simp
  rw [List.take_of_length_le (by simp)]
theorem bytesOf_inj {s t : ByteArray} (h : bytesOf s = bytesOf t) : s = t := by
  cases s; cases t
  simp [bytesOf] at h
  simp [h]
theorem extract_extract_end (s : ByteArray) (a b : Nat) : (s.extract a s.size).extract b (s.extract a s.size).size = s.extract (a + b) s.size := by
  apply bytesOf_inj
  rw [bytesOf_extract, bytesOf_extract, bytesOf_extract, List.drop_drop]

theorem OnlyAt.grown {b : Nat} {w w' : World} (h : OnlyAt b w w') : w.grownBy w' (some b) := ⟨h.os, h.tape, h.output, h.size, fun k hk hne => h.block k hk (fun e => hne (by rw [e]))⟩
theorem OnlyAt.row {b base : Nat} {w w' : World} {e : TypeId} {size : Nat} {v : Value} {n : Nat} {xs : List Value} (h : OnlyAt b w w') (ho : w.ownsRow base e size v n xs) (hb : b < base) : w'.ownsRow base e size v n xs :=
  ho.kept h.grown (by
    cases hv : v.ownBlock with
    | none => exact .inl rfl
    | some g => refine .inr fun e => ?_; have := (ho.lt g hv).1; cases e; omega)
theorem below_row {base : Nat} {w w' : World} {e : TypeId} {size : Nat} {v : Value} {n : Nat} {xs : List Value} (h : Below w.heap.size w w') (ho : w.ownsRow base e size v n xs) : w'.ownsRow base e size v n xs :=
  ho.kept (row := none) ⟨h.os, h.tape, h.output, h.size, fun k hk _ => h.block k hk⟩ (by cases hv : v.ownBlock <;> simp)

/-- What the loop of 'Unpack' keeps. -/
def UnI (am an : Addr) (s : ByteArray) (V : Nat × List Int × Nat) (w : World) (n er out la : Value) (wr : World) : Prop :=
  ∃ (m u : Nat), n = .int .u64 (m : Int) ∧ m ≤ 1000 ∧ u ≤ s.size ∧ Below w.heap.size w wr ∧ w.heap.size < wr.heap.size ∧ wr.heap[w.heap.size]? = some (.cells #[.string (s.extract u s.size)] 76 (0, 0)) ∧
    ((∃ c a, c ≠ 0 ∧ er = errV a ∧ V = (c, [], 0) ∧ ∀ W, Sent am an W → Calls Tryd.prog 54 #[errV a] W fun e w' => e = .returned (.int .i64 (c : Int)) ∧ W = w') ∨
     (er = .nilIface ∧ ∃ (xs : List Int) (last : Int), la = .int .i64 last ∧ inI last ∧ V = comb xs u (unF m last ((bytesOf s).drop u)) ∧ xs.length + m ≤ 1000 ∧ wr.ownsRow (w.heap.size + 1) 2 1 out xs.length (xs.map (Value.int .i64)) ∧ (out = .slice none 0 0 ↔ xs = [])))

theorem errOf_bad {am an : Addr} {c : Nat} (hc : c ≠ 0) (hc2 : c = 0 ∨ c = 20 ∨ c = 21) : ∃ a, errOf am an c = errV a ∧ ∀ W, Sent am an W → Calls Tryd.prog 54 #[errV a] W fun e w' => e = .returned (.int .i64 (c : Int)) ∧ W = w' := by
  have h : ∃ a, errOf am an c = errV a := by
    unfold errOf
    rw [if_neg hc]
    split <;> exact ⟨_, rfl⟩
  obtain ⟨a, ha⟩ := h
  refine ⟨a, ha, fun W hW => ?_⟩
  rw [← ha]
  exact told_any am an c hc2 W hW

set_option maxRecDepth 100000 in
set_option maxHeartbeats 4000000 in
theorem unpack_is (am an : Addr) (s : ByteArray) (hs : s.size ≤ 9223372036854775807) {C T : Nat} {L : List Int} (hv : unV (bytesOf s) = (C, L, T)) (w : World) (hsent : Sent am an w) :
    Calls Tryd.prog 27 #[.string s] w fun e w' => ∃ v, e = .returned (.tuple #[v, .string (s.extract T s.size), .int .i64 (C : Int)]) ∧
      w'.ownsRow (w.heap.size + 1) 2 1 v L.length (L.map (Value.int .i64)) ∧ (v = .slice none 0 0 ↔ L = []) ∧ Below w.heap.size w w' := by
  obtain ⟨i0, hi, hiz0, hiz1, hiz2⟩ := info_parts info_i64
  obtain ⟨C0, N0, K0, h0⟩ : ∃ C N K, nextV (bytesOf s) = (C, N, K) := ⟨_, _, _, rfl⟩
  have HN := hid (fun b W h1 h2 => next_is am an s hs h0 b W h1 h2)
  have hK0 := (nextV_is (bytesOf s)).2
  rw [h0] at hK0
  simp only [bytesOf, Array.length_toList] at hK0
  have HK : Hid (K0 ≤ s.size) := hK0
  have hco := code_or h0
  have HS := hid hsent
  have HV := hid hv
  clear hv hsent hK0
  have cases3 : (C0 ≠ 0 ∧ unV (bytesOf s) = (C0, [], 0)) ∨ (C0 = 0 ∧ 1000 < N0 ∧ unV (bytesOf s) = (20, [], 0)) ∨ (C0 = 0 ∧ N0 ≤ 1000 ∧ unV (bytesOf s) = comb [] K0 (unF N0 0 ((bytesOf s).drop K0))) := by
    by_cases hc : C0 = 0
    · subst hc
      by_cases hn : N0 ≤ 1000
      · exact .inr (.inr ⟨rfl, hn, unV_step h0 hn⟩)
      · exact .inr (.inl ⟨rfl, by omega, unV_many h0 (by omega)⟩)
    · exact .inl ⟨hc, unV_fail h0 hc⟩
  clear h0
  rcases cases3 with ⟨hc, hV⟩ | ⟨rfl, hn, hV⟩ | ⟨rfl, hn, hV⟩
  · obtain ⟨a, ha, hta⟩ := errOf_bad (am := am) (an := an) hc hco
    rw [ha] at HN
    have HT := hid hta; have HC := hid hc; have HV2 := hid hV
    clear hta hc hV ha hco
    go_enter Tryd.func27, Tryd.ntmps27
    go_wp2_with (go_at_call 53; refine (HN.out _ _ (heap_at rfl) (HS.out.below (by (repeat' (first | (with_reducible exact Below.refl _ _) | (with_reducible assumption) | (with_reducible refine Below.new ?_ _) | (with_reducible refine Below.alloc ?_ ?_ _) | (with_reducible refine Below.drew ?_) | (with_reducible refine Below.setCell ?_ ?_ _) | (refine Below.step ?_ (by assumption)) | go_size))))).mono ?_; rintro e w1 ⟨rfl, hb1, ho1⟩)
    refine wp_loop_rounds 1 ?_
    rw [rounds_succ]
    have HB : Hid (Below w.heap.size w w1) := ho1.below (by (repeat' (first | (with_reducible exact Below.refl _ _) | (with_reducible assumption) | (with_reducible refine Below.new ?_ _) | (with_reducible refine Below.alloc ?_ ?_ _) | (with_reducible refine Below.drew ?_) | (with_reducible refine Below.setCell ?_ ?_ _) | (refine Below.step ?_ (by assumption)) | go_size))) (Nat.le_refl _) (by simp)
    have HS1 := hid (HS.out.below HB.out)
    clear hb1 ho1
    go_wp2_with (go_at_call 54; ((with_reducible refine (HT.out _ HS1.out).mono ?_); rintro e w2 ⟨rfl, rfl⟩))
    have e1 := HV.out.symm.trans HV2.out
    simp only [Prod.mk.injEq] at e1
    obtain ⟨rfl, rfl, rfl⟩ := e1
    go_ret3
    exact ⟨_, by rw [extract_whole]; rfl, World.ownsRow_nil _ _ _ _, by simp, HB.out⟩
  · have HV2 := hid hV
    have HN2 := hid (fun b W h1 h2 => (HN.out b W h1 h2).mono fun e w' (h : _ ∧ _) => (⟨h.1.trans rfl, h.2⟩ : e = .returned (.tuple #[.int .u64 (N0 : Int), .nilIface]) ∧ _))
    have HT := hid (fun W h => told_any am an 20 (by omega) W h)
    clear hV hco HN
    simp only [errOf, Nat.reduceEqDiff, if_false, if_true] at HT
    go_enter Tryd.func27, Tryd.ntmps27
    go_wp2_with (go_at_call 53; refine (HN2.out _ _ (heap_at rfl) (HS.out.below (by (repeat' (first | (with_reducible exact Below.refl _ _) | (with_reducible assumption) | (with_reducible refine Below.new ?_ _) | (with_reducible refine Below.alloc ?_ ?_ _) | (with_reducible refine Below.drew ?_) | (with_reducible refine Below.setCell ?_ ?_ _) | (refine Below.step ?_ (by assumption)) | go_size))))).mono ?_; rintro e w1 ⟨rfl, hb1, ho1⟩; have HB : Hid (Below w.heap.size w w1) := ho1.below (by (repeat' (first | (with_reducible exact Below.refl _ _) | (with_reducible assumption) | (with_reducible refine Below.new ?_ _) | (with_reducible refine Below.alloc ?_ ?_ _) | (with_reducible refine Below.drew ?_) | (with_reducible refine Below.setCell ?_ ?_ _) | (refine Below.step ?_ (by assumption)) | go_size))) (Nat.le_refl _) (by simp); have HS1 := hid (HS.out.below HB.out); clear hb1 ho1; have g1 := HS1.out.none_)
    refine wp_loop_rounds 1 ?_
    rw [rounds_succ]
    go_wp2_with (go_at_call 54; ((with_reducible refine (HT.out _ HS1.out).mono ?_); rintro e w2 ⟨rfl, rfl⟩))
    have e1 := HV.out.symm.trans HV2.out
    simp only [Prod.mk.injEq] at e1
    obtain ⟨rfl, rfl, rfl⟩ := e1
    go_ret3
    exact ⟨_, by rw [extract_whole]; rfl, World.ownsRow_nil _ _ _ _, by simp, HB.out⟩
  · have HV2 := hid (HV.out.symm.trans hV)
    have HN2 := hid (fun b W h1 h2 => (HN.out b W h1 h2).mono fun e w' (h : _ ∧ _) => (⟨h.1.trans rfl, h.2⟩ : e = .returned (.tuple #[.int .u64 (N0 : Int), .nilIface]) ∧ _))
    clear hV hco HN HV
    go_enter Tryd.func27, Tryd.ntmps27
    go_wp2_with (go_at_call 53; refine (HN2.out _ _ (heap_at rfl) (HS.out.below (by (repeat' (first | (with_reducible exact Below.refl _ _) | (with_reducible assumption) | (with_reducible refine Below.new ?_ _) | (with_reducible refine Below.alloc ?_ ?_ _) | (with_reducible refine Below.drew ?_) | (with_reducible refine Below.setCell ?_ ?_ _) | (refine Below.step ?_ (by assumption)) | go_size))))).mono ?_; rintro e w1 ⟨rfl, hb1, ho1⟩; have HB : Hid (Below w.heap.size w w1) := ho1.below (by (repeat' (first | (with_reducible exact Below.refl _ _) | (with_reducible assumption) | (with_reducible refine Below.new ?_ _) | (with_reducible refine Below.alloc ?_ ?_ _) | (with_reducible refine Below.drew ?_) | (with_reducible refine Below.setCell ?_ ?_ _) | (refine Below.step ?_ (by assumption)) | go_size))) (Nat.le_refl _) (by simp); have HZ : Hid (w.heap.size < w1.heap.size) := (by have := ho1.size; simp at this; exact this); have HB1 := hid hb1; clear hb1 ho1)
    go_loopw [6, 7, 8, 9] (fun n er out la wr => UnI am an s (C, L, T) w n er out la wr) (fun n _ _ _ _ => (intOf n).toNat)
    case atStart =>
      exact ⟨N0, K0, rfl, hn, HK.out, HB.out, HZ.out, HB1.out, .inr ⟨rfl, [], 0, rfl, by unfold inI; omega, HV2.out, by simpa using hn, World.ownsRow_nil _ _ _ _, by simp⟩⟩
    case round =>
      clear HB HZ HB1 HV2
      obtain ⟨m, u, rfl, hm, hu, hB, hz, hbox, hmode⟩ := hrel
      have HB := hid hB
      rcases hmode with ⟨c, a, hc, rfl, hV, hT⟩ | ⟨rfl, xs, last, rfl, hin, hV, hlen, hown, hnil⟩
      · have HT := hid hT; have HV := hid hV; have HS1 := hid (HS.out.below hB)
        clear hT hV hc hB hbox hz
        go_wp2_with (go_at_call 54; ((with_reducible refine (HT.out _ HS1.out).mono ?_); rintro e w2 ⟨rfl, rfl⟩))
        have e1 := HV.out
        simp only [Prod.mk.injEq] at e1
        obtain ⟨rfl, rfl, rfl⟩ := e1
        go_ret3
        exact ⟨_, by rw [extract_whole]; rfl, World.ownsRow_nil _ _ _ _, by simp, HB.out⟩
      · by_cases hm0 : m = 0
        · subst hm0
          have HV := hid hV
          have hc1 := cell_of_one hbox
          have HR := hid hown
          have HNL := hid hnil
          clear hV hnil hbox hown hB
          go_wp2
          go_quiet (fail)
          go_wp2
          go_ret3
          have e1 := HV.out
          simp only [comb, unF, ne_eq, not_true_eq_false, if_false, Prod.mk.injEq, List.append_nil, Nat.add_zero] at e1
          obtain ⟨rfl, rfl, rfl⟩ := e1
          exact ⟨_, rfl, HR.out, HNL.out, HB.out.drewN _⟩
        · obtain ⟨m1, rfl⟩ : ∃ m1, m = m1 + 1 := ⟨m - 1, by omega⟩
          obtain ⟨c, v, j, h1⟩ : ∃ c v j, nextV ((bytesOf s).drop u) = (c, v, j) := ⟨_, _, _, rfl⟩
          have hjl := (nextV_is ((bytesOf s).drop u)).2
          have hvl := (nextV_is ((bytesOf s).drop u)).1
          rw [h1] at hjl hvl
          simp only [bytesOf, List.length_drop, Array.length_toList] at hjl
          have hj : Hid (u + j ≤ s.size) := by
            have : s.data.size = s.size := rfl
            have : u + j ≤ s.size := by omega
            exact this
          have hvl' : v ≤ 18446744073709551615 := hvl
          have hrs : (s.extract u s.size).size ≤ 9223372036854775807 := by simp; omega
          have HN3 := next_is am an (s.extract u s.size) hrs (show nextV (bytesOf (s.extract u s.size)) = (c, v, j) by rw [bytesOf_extract]; exact h1) w.heap.size wr hbox (HS.out.below hB)
          rw [extract_extract_end] at HN3
          have hcc := code_or h1
          clear hjl hvl hrs hm0 HN2
          by_cases hc : c = 0
          · subst hc
            have HV := hid (show (C, L, T) = comb (xs ++ [wrap64 (last + backV (v : Int))]) (u + j) (unF m1 (wrap64 (last + backV (v : Int))) ((bytesOf s).drop (u + j))) by
              rw [hV, unF_step h1, comb_comb, List.drop_drop])
            have hbi : inI (backV (v : Int)) := backV_is (by omega)
            have hXi := wrap64_is (last + backV (v : Int))
            obtain ⟨Y, hY⟩ : ∃ Y, backV (v : Int) = Y := ⟨_, rfl⟩
            rw [hY] at HV hbi hXi
            obtain ⟨X, hX⟩ : ∃ X, wrap64 (last + Y) = X := ⟨_, rfl⟩
            rw [hX] at HV hXi
            have HN4 := hid HN3
            simp only [errOf, if_true] at HN4
            have HBK := hid (fun W => back_any (v : Int) (by omega) W)
            rw [hY] at HBK
            have HNL := hid hnil
            clear hV h1 hbox hB hcc HN3 hnil hY
            go_wp2_with (first
              | (go_at_call 53; refine (HN4.out).mono ?_; rintro e w2 ⟨rfl, hb2, ho2⟩)
              | (go_at_call 24; ((with_reducible refine (HBK.out _).mono ?_); rintro e w3 ⟨rfl, hb3⟩; have hown3 := below_row hb3 (ho2.row hown (Nat.lt_succ_self _)); have hz2 := ho2.size; have hz3 := hb3.size))
              | (at_builtin; go_loud (refine wpList_append_own _ rfl _ _ 33 rfl (w.heap.size + 1) 2 i0 (.int .i64 0) 1 8 Tryd.underlying33 hi hiz0 hiz1 hiz2 rfl (by decide) _ _ _ rfl (hown3.alloc _) ⟨w3.heap.size, 0, none⟩ 1 1 [.int .i64 (X)] rfl rfl (one_new _ _ _) (one_int _ _) (by unfold maxLen; omega) (by omega) (by simp; omega) ?_); intro v' w1' hown' hgrow' hnil'))
            have hB3 : Below w.heap.size w w3 := (ho2.below HB.out (Nat.le_refl _) (by omega)).step hb3
            have hB4 : Below w.heap.size w w1' := (hB3.alloc (by omega) _).grown hgrow' (by simp; omega) (fun r e => by have := (hown3.lt r e).1; omega)
            have hbox4 := (hgrow'.block w.heap.size (by simp; omega) (fun e => by have := (hown3.lt _ e.symm).1; omega)).trans ((heap_past (by omega)).trans ((hb3.block w.heap.size (by omega)).trans hb2))
            have hown4 : w1'.ownsRow (w.heap.size + 1) 2 1 v' (xs ++ [X]).length ((xs ++ [X]).map (Value.int .i64)) := by rw [List.length_append, List.map_append]; exact hown'
            have hne : ¬ v' = .slice none 0 0 := fun h => by have := hnil'.1 h; simp at this
            have hz4 := hgrow'.size
            simp only [World.size_alloc] at hz4
            go_roundw
            case rel => exact ⟨m1, u + j, by go_num, by omega, hj.out, hB4, by omega, hbox4, .inr ⟨rfl, xs ++ [X], X, rfl, hXi, HV.out, by simp; omega, hown4, by simp [hne]⟩⟩
            case measure => simp [intOf]
          · obtain ⟨a, ha, hta⟩ := errOf_bad (am := am) (an := an) hc hcc
            have HV := hid (show (C, L, T) = (c, [], 0) by rw [hV, unF_fail h1 hc, comb_bad hc])
            rw [ha] at HN3
            have HN4 := hid HN3
            have HTA := hid hta
            have HCC := hid hc
            clear hV h1 hbox hB hcc HN3 hnil ha hta hc
            go_wp2_with (go_at_call 53; refine (HN4.out).mono ?_; rintro e w2 ⟨rfl, hb2, ho2⟩)
            have hB3 : Below w.heap.size w w2 := ho2.below HB.out (Nat.le_refl _) (by omega)
            have hz2 := ho2.size
            go_roundw
            case rel => exact ⟨m1, u + j, by go_num, by omega, hj.out, hB3, by omega, hb2, .inl ⟨c, a, HCC.out, rfl, HV.out, HTA.out⟩⟩
            case measure => simp [intOf]
end Go.Proofs.YtpgifmccajcgkaaDoor
