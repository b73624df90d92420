/- Varints, plain: where a number's bytes end, what they say, and when they are right. -/
import Derived.Test.YtpgifmccajcgkaaDoorVarP
namespace Go.Proofs.YtpgifmccajcgkaaDoor
set_option linter.unusedVariables false

/-- How many bytes a number has that stands ahead: up to the first one without a mark, of at most k; 0: there is none. -/
def sizeF : Nat → List UInt8 → Nat
  | 0, _ => 0
  | _ + 1, [] => 0
  | k + 1, c :: l => if c.toNat < 128 then 1 else match sizeF k l with | 0 => 0 | s + 1 => s + 2
def sizeB (l : List UInt8) : Nat := sizeF 10 l
/-- The code, the number, how many bytes it has. -/
def nextV (l : List UInt8) : Nat × Nat × Nat :=
  if sizeB l = 0 ∧ l.length < 10 then (21, 0, 0)
  else if sizeB l = 0 ∨ (1 < sizeB l ∧ (l[sizeB l - 1]?.getD 0).toNat = 0) ∨ (sizeB l = 10 ∧ 1 < (l[sizeB l - 1]?.getD 0).toNat) then (20, 0, 0)
  else (0, valB (l.take (sizeB l)), sizeB l)

theorem sizeF_none : ∀ (k : Nat) (l : List UInt8), (∀ c ∈ l.take k, 128 ≤ c.toNat) → sizeF k l = 0
  | 0, _, _ => rfl
  | _ + 1, [], _ => rfl
  | k + 1, c :: l, h => by
    have h1 := h c (by simp)
    have h2 := sizeF_none k l fun x hx => h x (by simp [hx])
    rw [sizeF, if_neg (by omega), h2]
theorem sizeF_at : ∀ (k : Nat) (p : List UInt8) (b : UInt8) (r : List UInt8), p.length < k → b.toNat < 128 → (∀ c ∈ p, 128 ≤ c.toNat) → sizeF k (p ++ b :: r) = p.length + 1
  | 0, _, _, _, h, _, _ => by omega
  | k + 1, [], b, r, _, h, _ => by simp [sizeF, h]
  | k + 1, c :: p, b, r, h1, h2, h3 => by
    have h4 := h3 c (by simp)
    have h5 := sizeF_at k p b r (by simpa using h1) h2 fun x hx => h3 x (by simp [hx])
    rw [List.cons_append, sizeF, if_neg (by omega), h5]
    rfl
theorem sizeF_cases : ∀ (k : Nat) (l : List UInt8), (∀ c ∈ l.take k, 128 ≤ c.toNat) ∨ ∃ p b r, l = p ++ b :: r ∧ p.length < k ∧ b.toNat < 128 ∧ ∀ c ∈ p, 128 ≤ c.toNat
  | 0, _ => .inl (by simp)
  | _ + 1, [] => .inl (by simp)
  | k + 1, c :: l => by
    by_cases hc : c.toNat < 128
    · exact .inr ⟨[], c, l, rfl, by simp, hc, by simp⟩
    · rcases sizeF_cases k l with h | ⟨p, b, r, rfl, h1, h2, h3⟩
      · refine .inl fun x hx => ?_
        simp at hx
        rcases hx with rfl | hx
        · omega
        · exact h x hx
      · refine .inr ⟨c :: p, b, r, rfl, by simpa using h1, h2, fun x hx => ?_⟩
        rcases List.mem_cons.1 hx with rfl | hx
        · omega
        · exact h3 x hx

theorem valB_append (p q : List UInt8) : valB (p ++ q) = valB p + 128 ^ p.length * valB q := by
  induction p with
  | nil => simp [valB]
  | cons c p ih => rw [List.cons_append, valB, valB, ih, List.length_cons, Nat.pow_succ, Nat.mul_add, Nat.mul_comm (128 ^ p.length) 128, Nat.mul_assoc]; omega
theorem valB_lt (p : List UInt8) : valB p < 128 ^ p.length := by
  induction p with
  | nil => simp [valB]
  | cons c p ih => rw [valB, List.length_cons, Nat.pow_succ]; omega

/-- The bytes of what right bytes say are these. -/
theorem putB_valB : ∀ (p : List UInt8) (b : UInt8), (∀ c ∈ p, 128 ≤ c.toNat) → b.toNat < 128 → (p ≠ [] → b.toNat ≠ 0) → putB (valB (p ++ [b])) = p ++ [b]
  | [], b, _, h, _ => by
    rw [List.nil_append, valB, valB, putB, if_pos (by omega), Nat.mod_eq_of_lt h]
    simp
  | c :: p, b, h1, h2, h3 => by
    have hc := h1 c (by simp)
    have hb := h3 (by simp)
    have ih := putB_valB p b (fun x hx => h1 x (by simp [hx])) h2 (fun _ => hb)
    have hpos : 0 < valB (p ++ [b]) := by
      rw [valB_append]
      have : 0 < valB [b] := by simp [valB]; omega
      have := Nat.mul_pos (Nat.pow_pos (n := p.length) (show 0 < 128 by decide)) this
      omega
    have hc2 := c.toNat_lt
    rw [List.cons_append, valB, putB, if_neg (by omega), show (c.toNat % 128 + 128 * valB (p ++ [b])) / 128 = valB (p ++ [b]) by omega, ih, show 128 + (c.toNat % 128 + 128 * valB (p ++ [b])) % 128 = c.toNat by omega]
    simp

theorem nextV_none {l : List UInt8} (h : ∀ c ∈ l.take 10, 128 ≤ c.toNat) : nextV l = (if l.length < 10 then 21 else 20, 0, 0) := by
  have e : sizeB l = 0 := sizeF_none 10 l h
  unfold nextV
  by_cases hl : l.length < 10 <;> simp [e, hl]
theorem nextV_at {p : List UInt8} {b : UInt8} {r : List UInt8} (h1 : p.length < 10) (h2 : b.toNat < 128) (h3 : ∀ c ∈ p, 128 ≤ c.toNat) :
    nextV (p ++ b :: r) = if (p ≠ [] ∧ b.toNat = 0) ∨ (p.length = 9 ∧ 1 < b.toNat) then (20, 0, 0) else (0, valB (p ++ [b]), p.length + 1) := by
  have e : sizeB (p ++ b :: r) = p.length + 1 := sizeF_at 10 p b r h1 h2 h3
  unfold nextV
  rw [e, if_neg (by omega)]
  have e2 : ((p ++ b :: r)[p.length + 1 - 1]?.getD 0) = b := by simp
  have e3 : (p ++ b :: r).take (p.length + 1) = p ++ [b] := by
    rw [List.take_append, List.take_of_length_le (by omega), show p.length + 1 - p.length = 1 by omega]
    rfl
  rw [e2, e3]
  have e4 : (1 < p.length + 1) = (p ≠ []) := by
    rw [eq_iff_iff, ← List.length_pos_iff]; omega
  simp only [e4, show (p.length + 1 = 10) = (p.length = 9) by rw [eq_iff_iff]; omega, Nat.add_eq_zero_iff, Nat.one_ne_zero, and_false, false_or]

/-- A number's bytes, whatever stands behind, are that number's. -/
theorem nextV_putB {n : Nat} (hn : n ≤ 18446744073709551615) (r : List UInt8) : nextV (putB n ++ r) = (0, n, (putB n).length) := by
  obtain ⟨p, b, e, h1, h2, h3⟩ := putB_marks n
  have hl := putB_ten hn
  have hv := valB_putB n
  rw [e] at hl hv
  simp at hl
  rw [e, List.append_assoc, List.singleton_append, nextV_at (by omega) h1 h2, if_neg, hv]
  · simp
  · rintro (⟨h, h'⟩ | ⟨h, h'⟩)
    · exact h3 h h'
    · have h4 := valB_append p [b]
      rw [hv, h] at h4
      simp only [valB, Nat.mul_zero, Nat.add_zero] at h4
      have : (128 : Nat) ^ 9 = 9223372036854775808 := by decide
      rw [this] at h4
      omega
/-- Bytes that are told to be a number's are that number's bytes, and others behind. -/
theorem nextV_ok {l : List UInt8} {n s : Nat} (h : nextV l = (0, n, s)) : l = putB n ++ l.drop s ∧ n ≤ 18446744073709551615 ∧ s = (putB n).length := by
  rcases sizeF_cases 10 l with h0 | ⟨p, b, r, rfl, h1, h2, h3⟩
  · rw [nextV_none h0] at h
    split at h <;> simp at h
  · rw [nextV_at h1 h2 h3] at h
    split at h
    · simp at h
    · rename_i hc
      simp only [Prod.mk.injEq, true_and] at h
      obtain ⟨rfl, rfl⟩ := h
      have e := putB_valB p b h3 h2 (fun hp hb => hc (.inl ⟨hp, hb⟩))
      refine ⟨?_, ?_, ?_⟩
      · rw [e]
        have : (p ++ b :: r).drop (p.length + 1) = r := by
          rw [List.drop_append, List.drop_of_length_le (by omega), show p.length + 1 - p.length = 1 by omega]
          rfl
        rw [this]
        simp
      · have h5 := valB_append p [b]
        have h6 := valB_lt p
        have h7 : valB [b] = b.toNat := by simp [valB, Nat.mod_eq_of_lt h2]
        rw [h7] at h5
        by_cases h9 : p.length = 9
        · have hb : b.toNat ≤ 1 := by
            rcases Nat.lt_or_ge 1 b.toNat with hb | hb
            · exact absurd (.inr ⟨h9, hb⟩) hc
            · exact hb
          have : (128 : Nat) ^ 9 = 9223372036854775808 := by decide
          rw [h9, this] at h5 h6
          omega
        · have h10 : (p ++ [b]).length ≤ 9 := by simp; omega
          have h11 := valB_lt (p ++ [b])
          have h12 : (128 : Nat) ^ (p ++ [b]).length ≤ 128 ^ 9 := Nat.pow_le_pow_right (by decide) h10
          have : (128 : Nat) ^ 9 = 9223372036854775808 := by decide
          omega
      · rw [e]; simp
theorem nextV_code (l : List UInt8) : (nextV l).1 = 0 ∨ (nextV l).1 = 20 ∨ (nextV l).1 = 21 := by
  unfold nextV
  split
  · simp
  · split <;> simp
theorem nextV_bad {l : List UInt8} (h : (nextV l).1 ≠ 0) : nextV l = ((nextV l).1, 0, 0) := by
  unfold nextV at h ⊢
  split
  · rfl
  · split
    · rfl
    · simp_all
theorem nextV_is (l : List UInt8) : (nextV l).2.1 ≤ 18446744073709551615 ∧ (nextV l).2.2 ≤ l.length := by
  by_cases h : (nextV l).1 = 0
  · obtain ⟨h1, h2, h3⟩ := nextV_ok (l := l) (n := (nextV l).2.1) (s := (nextV l).2.2) (by rw [← h])
    refine ⟨h2, ?_⟩
    have := congrArg List.length h1
    simp only [List.length_append] at this
    omega
  · rw [nextV_bad h]; simp
/-- What a number's bytes lack of the last asks for more. -/
theorem nextV_short {n : Nat} (hn : n ≤ 18446744073709551615) {k : Nat} (hk : k < (putB n).length) : nextV ((putB n).take k) = (21, 0, 0) := by
  obtain ⟨p, b, e, h1, h2, h3⟩ := putB_marks n
  have hl := putB_ten hn
  rw [e] at hl hk ⊢
  simp at hl hk
  have e2 : (p ++ [b]).take k = p.take k := by rw [List.take_append_of_le_length (by omega)]
  rw [e2, nextV_none, if_pos (by simp; omega)]
  intro c hc
  exact h2 c (List.mem_of_mem_take (List.mem_of_mem_take hc))
end Go.Proofs.YtpgifmccajcgkaaDoor
