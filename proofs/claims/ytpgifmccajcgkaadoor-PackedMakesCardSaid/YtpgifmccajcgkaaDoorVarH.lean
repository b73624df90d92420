/- Varints, plain: lists' bytes, and lists of bytes; how many bytes numbers have. -/
import Derived.Test.YtpgifmccajcgkaaDoorVarG
import Derived.Test.YtpgifmccajcgkaaDoorVarD
namespace Go.Proofs.YtpgifmccajcgkaaDoor
set_option linter.unusedVariables false
open Go.RowKit (wrap64)

/-- The numbers of a list, each less the one ahead of it, turned. -/
def diffs : Int → List Int → List Nat
  | _, [] => []
  | last, n :: l => (turnV (wrap64 (n - last))).toNat :: diffs n l
/-- Numbers back: the code, the numbers, how many bytes these have. -/
def unF : Nat → Int → List UInt8 → Nat × List Int × Nat
  | 0, _, _ => (0, [], 0)
  | k + 1, last, s =>
    if (nextV s).1 ≠ 0 then ((nextV s).1, [], 0)
    else if (unF k (wrap64 (last + backV (nextV s).2.1)) (s.drop (nextV s).2.2)).1 ≠ 0 then ((unF k (wrap64 (last + backV (nextV s).2.1)) (s.drop (nextV s).2.2)).1, [], 0)
    else (0, wrap64 (last + backV (nextV s).2.1) :: (unF k (wrap64 (last + backV (nextV s).2.1)) (s.drop (nextV s).2.2)).2.1,
      (nextV s).2.2 + (unF k (wrap64 (last + backV (nextV s).2.1)) (s.drop (nextV s).2.2)).2.2)
/-- A list of bytes. -/
def packB (l : List Int) : List UInt8 := putsB (l.length :: diffs 0 l)
def packV (l : List Int) : Nat × List UInt8 := if 1000 < l.length then (20, []) else (0, packB l)
def unV (s : List UInt8) : Nat × List Int × Nat :=
  if (nextV s).1 ≠ 0 then ((nextV s).1, [], 0)
  else if 1000 < (nextV s).2.1 then (20, [], 0)
  else if (unF (nextV s).2.1 0 (s.drop (nextV s).2.2)).1 ≠ 0 then ((unF (nextV s).2.1 0 (s.drop (nextV s).2.2)).1, [], 0)
  else (0, (unF (nextV s).2.1 0 (s.drop (nextV s).2.2)).2.1, (nextV s).2.2 + (unF (nextV s).2.1 0 (s.drop (nextV s).2.2)).2.2)

abbrev inI (n : Int) : Prop := -9223372036854775808 ≤ n ∧ n ≤ 9223372036854775807
theorem wrap64_is (n : Int) : inI (wrap64 n) := by unfold wrap64 inI; omega
theorem wrap64_add_sub {n last : Int} (h : inI n) : wrap64 (last + wrap64 (n - last)) = n := by unfold wrap64 inI at *; omega
theorem wrap64_sub_add {k last : Int} (h : inI k) : wrap64 (wrap64 (last + k) - last) = k := by unfold wrap64 inI at *; omega
theorem turnV_w (n : Int) : 0 ≤ turnV (wrap64 n) ∧ turnV (wrap64 n) ≤ 18446744073709551615 := turnV_is (wrap64_is n)

theorem diffs_length (l : List Int) : ∀ last, (diffs last l).length = l.length := by
  induction l with
  | nil => intro _; rfl
  | cons a l ih => intro _; simp [diffs, ih]
theorem diffs_is (l : List Int) : ∀ last, ∀ n ∈ diffs last l, n ≤ 18446744073709551615 := by
  induction l with
  | nil => intro _ n h; cases h
  | cons a l ih =>
    intro last n h
    rcases List.mem_cons.1 h with rfl | h
    · have := turnV_w (a - last); omega
    · exact ih _ _ h

/-- Numbers packed come back, whatever stands behind. -/
theorem unF_diffs (l : List Int) : ∀ last r, (∀ n ∈ l, inI n) → unF l.length last (putsB (diffs last l) ++ r) = (0, l, (putsB (diffs last l)).length) := by
  induction l with
  | nil => intro _ _ _; rfl
  | cons a l ih =>
    intro last r h
    have h1 := turnV_w (a - last)
    have h2 := nextV_putB (n := (turnV (wrap64 (a - last))).toNat) (by omega) (putsB (diffs a l) ++ r)
    have h3 : wrap64 (last + backV ((turnV (wrap64 (a - last))).toNat : Int)) = a := by
      rw [Int.toNat_of_nonneg h1.1, backV_turnV, wrap64_add_sub (h a (by simp))]
    have h4 := ih a r fun n hn => h n (by simp [hn])
    simp only [List.length_cons, diffs, putsB, unF, List.append_assoc, h2]
    rw [h3, List.drop_left, h4]
    simp
/-- What comes back of bytes has these bytes. -/
theorem unF_ok : ∀ (k : Nat) (last : Int) (s : List UInt8) (xs : List Int) (t : Nat), unF k last s = (0, xs, t) → s = putsB (diffs last xs) ++ s.drop t ∧ xs.length = k ∧ (∀ n ∈ xs, inI n) ∧ t = (putsB (diffs last xs)).length
  | 0, last, s, xs, t, h => by
    simp only [unF, Prod.mk.injEq] at h
    obtain ⟨_, rfl, rfl⟩ := h
    simp [diffs, putsB]
  | k + 1, last, s, xs, t, h => by
    rw [unF] at h
    split at h
    · rename_i hc; simp only [Prod.mk.injEq] at h; exact absurd h.1 hc
    split at h
    · rename_i hc; simp only [Prod.mk.injEq] at h; exact absurd h.1 hc
    rename_i hc1 hc2
    simp only [Prod.mk.injEq, true_and] at h
    obtain ⟨rfl, rfl⟩ := h
    have hc1 : (nextV s).1 = 0 := by omega
    obtain ⟨e1, e2, e3⟩ := nextV_ok (l := s) (n := (nextV s).2.1) (s := (nextV s).2.2) (by rw [← hc1])
    obtain ⟨M, hM⟩ : ∃ M, (nextV s).2.1 = M := ⟨_, rfl⟩
    obtain ⟨J, hJ⟩ : ∃ J, (nextV s).2.2 = J := ⟨_, rfl⟩
    rw [hM] at e1 e2 e3
    rw [hJ] at e1 e3
    rw [hM, hJ] at hc2 ⊢
    have hb : inI (backV (M : Int)) := backV_is (by omega)
    obtain ⟨X, hX⟩ : ∃ X, wrap64 (last + backV (M : Int)) = X := ⟨_, rfl⟩
    have hturn : (turnV (wrap64 (X - last))).toNat = M := by
      rw [← hX, wrap64_sub_add hb, turnV_backV (by omega)]; omega
    have hXi : inI X := hX ▸ wrap64_is _
    rw [hX] at hc2 ⊢
    obtain ⟨i1, i2, i3, i4⟩ := unF_ok k X (s.drop J) (unF k X (s.drop J)).2.1 (unF k X (s.drop J)).2.2 (by
      have : (unF k X (s.drop J)).1 = 0 := by omega
      rw [← this])
    refine ⟨?_, by simp [i2], fun n hn => ?_, ?_⟩
    · simp only [diffs, putsB, hturn, List.append_assoc]
      rw [← List.drop_drop, ← i1, ← e1]
    · rcases List.mem_cons.1 hn with rfl | hn
      · exact hXi
      · exact i3 n hn
    · simp only [diffs, putsB, hturn, List.length_append, ← e3, ← i4]
theorem unF_code : ∀ (k : Nat) (last : Int) (s : List UInt8), (unF k last s).1 = 0 ∨ (unF k last s).1 = 20 ∨ (unF k last s).1 = 21
  | 0, _, _ => by simp [unF]
  | k + 1, last, s => by
    rw [unF]
    split
    · exact nextV_code s
    · split
      · exact unF_code _ _ _
      · simp
theorem unF_bad : ∀ {k : Nat} {last : Int} {s : List UInt8}, (unF k last s).1 ≠ 0 → unF k last s = ((unF k last s).1, [], 0)
  | 0, _, _, h => by simp [unF] at h
  | k + 1, last, s, h => by
    rw [unF] at h ⊢
    split
    · rfl
    · split
      · rfl
      · simp_all
theorem take_short {α : Type} {a b : List α} {t : Nat} (h : t < (a ++ b).length) : (t < a.length ∧ (a ++ b).take t = a.take t) ∨ (a.length ≤ t ∧ t - a.length < b.length ∧ (a ++ b).take t = a ++ b.take (t - a.length)) := by
  rcases Nat.lt_or_ge t a.length with h1 | h1
  · exact .inl ⟨h1, by rw [List.take_append_of_le_length (by omega)]⟩
  · exact .inr ⟨h1, by simp at h; omega, by rw [List.take_append, List.take_of_length_le h1]⟩
/-- Fewer bytes ask for more. -/
theorem unF_short (l : List Int) : ∀ last t, (∀ n ∈ l, inI n) → t < (putsB (diffs last l)).length → unF l.length last ((putsB (diffs last l)).take t) = (21, [], 0) := by
  induction l with
  | nil => intro _ t _ h; simp [diffs, putsB] at h
  | cons a l ih =>
    intro last t h ht
    have h1 := turnV_w (a - last)
    simp only [diffs, putsB] at ht ⊢
    rcases take_short ht with ⟨k1, k2⟩ | ⟨k1, k2, k3⟩
    · rw [k2, List.length_cons, unF, nextV_short (by omega) k1]
      simp
    · have h2 := nextV_putB (n := (turnV (wrap64 (a - last))).toNat) (by omega) ((putsB (diffs a l)).take (t - (putB (turnV (wrap64 (a - last))).toNat).length))
      have h3 : wrap64 (last + backV ((turnV (wrap64 (a - last))).toNat : Int)) = a := by
        rw [Int.toNat_of_nonneg h1.1, backV_turnV, wrap64_add_sub (h a (by simp))]
      rw [k3, List.length_cons, unF, h2]
      simp only [List.drop_left, h3]
      rw [ih a _ (fun n hn => h n (by simp [hn])) k2]
      simp

theorem unV_pack {l : List Int} (hl : l.length ≤ 1000) (h : ∀ n ∈ l, inI n) (r : List UInt8) : unV (packB l ++ r) = (0, l, (packB l).length) := by
  have h2 := nextV_putB (n := l.length) (by omega) (putsB (diffs 0 l) ++ r)
  simp only [packB, putsB, List.append_assoc, unV, h2]
  rw [List.drop_left, unF_diffs l 0 r h]
  simp
  omega
theorem unV_ok {s : List UInt8} {xs : List Int} {t : Nat} (h : unV s = (0, xs, t)) : s = packB xs ++ s.drop t ∧ xs.length ≤ 1000 ∧ (∀ n ∈ xs, inI n) ∧ t = (packB xs).length := by
  rw [unV] at h
  split at h
  · rename_i hc; simp only [Prod.mk.injEq] at h; exact absurd h.1 hc
  split at h
  · simp at h
  split at h
  · rename_i hc; simp only [Prod.mk.injEq] at h; exact absurd h.1 hc
  rename_i hc1 hc2 hc3
  simp only [Prod.mk.injEq, true_and] at h
  obtain ⟨rfl, rfl⟩ := h
  have hc1 : (nextV s).1 = 0 := by omega
  obtain ⟨e1, e2, e3⟩ := nextV_ok (l := s) (n := (nextV s).2.1) (s := (nextV s).2.2) (by rw [← hc1])
  obtain ⟨M, hM⟩ : ∃ M, (nextV s).2.1 = M := ⟨_, rfl⟩
  obtain ⟨J, hJ⟩ : ∃ J, (nextV s).2.2 = J := ⟨_, rfl⟩
  rw [hM] at e1 e2 e3 hc2 hc3 ⊢
  rw [hJ] at e1 e3 hc3 ⊢
  obtain ⟨i1, i2, i3, i4⟩ := unF_ok M 0 (s.drop J) (unF M 0 (s.drop J)).2.1 (unF M 0 (s.drop J)).2.2 (by
    have : (unF M 0 (s.drop J)).1 = 0 := by omega
    rw [← this])
  refine ⟨?_, by omega, i3, ?_⟩
  · simp only [packB, putsB, i2, List.append_assoc]
    rw [← List.drop_drop, ← i1, ← e1]
  · simp only [packB, putsB, i2, List.length_append, ← e3, ← i4]
theorem unV_code (s : List UInt8) : (unV s).1 = 0 ∨ (unV s).1 = 20 ∨ (unV s).1 = 21 := by
  unfold unV
  split
  · exact nextV_code s
  · split
    · simp
    · split
      · exact unF_code _ _ _
      · simp
theorem unV_bad {s : List UInt8} (h : (unV s).1 ≠ 0) : unV s = ((unV s).1, [], 0) := by
  unfold unV at h ⊢
  split
  · rfl
  · split
    · rfl
    · split
      · rfl
      · simp_all
theorem unV_short {l : List Int} (hl : l.length ≤ 1000) (h : ∀ n ∈ l, inI n) {t : Nat} (ht : t < (packB l).length) : unV ((packB l).take t) = (21, [], 0) := by
  simp only [packB, putsB] at ht ⊢
  rcases take_short ht with ⟨k1, k2⟩ | ⟨k1, k2, k3⟩
  · rw [k2, unV, nextV_short (by omega) k1]
    simp
  · have h2 := nextV_putB (n := l.length) (by omega) ((putsB (diffs 0 l)).take (t - (putB l.length).length))
    rw [k3, unV, h2]
    simp only [List.drop_left]
    rw [unF_short l 0 _ h k2]
    simp
    omega
theorem packB_length (l : List Int) (hl : l.length ≤ 1000) : (packB l).length ≤ 10 * (l.length + 1) := by
  have := putsB_length (l := l.length :: diffs 0 l) (fun n hn => by
    rcases List.mem_cons.1 hn with rfl | hn
    · omega
    · exact diffs_is l 0 n hn)
  simp only [List.length_cons, diffs_length] at this
  exact this
/-- How many bytes a number has. -/
theorem putB_mono {m : Nat} : ∀ {n : Nat}, n ≤ m → (putB n).length ≤ (putB m).length := by
  induction m using Nat.strongRecOn with
  | _ m ih =>
    intro n h
    by_cases hm : m < 128
    · rw [putB, if_pos (by omega), putB, if_pos hm]; simp
    · by_cases hn : n < 128
      · rw [putB, if_pos hn, putB, if_neg hm]; simp
      · rw [putB, if_neg hn, putB.eq_1 m, if_neg hm]
        have := ih (m / 128) (by omega) (n := n / 128) (by omega)
        simpa using this
end Go.Proofs.YtpgifmccajcgkaaDoor
