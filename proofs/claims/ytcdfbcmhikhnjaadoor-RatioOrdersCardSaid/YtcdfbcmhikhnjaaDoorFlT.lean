/- Floating numbers, plainly: their texts, one to one. -/
import Derived.Test.YtcdfbcmhikhnjaaDoorFlB
import Derived.Lib.ItoaNum
import Derived.Lib.ItoaMem
namespace Go.Fl
open Ieee Go.Lib

/-- How often 2 divides a number. -/
def tz (m : Nat) : Nat := if h : m = 0 ∨ m % 2 = 1 then 0 else tz (m / 2) + 1
termination_by m
decreasing_by omega
theorem tz_odd {m : Nat} (h : m % 2 = 1) : tz m = 0 := by rw [tz, dif_pos (.inr h)]
theorem tz_even {m : Nat} (h0 : 0 < m) (h : m % 2 = 0) : tz m = tz (m / 2) + 1 := by rw [tz, dif_neg (by omega)]
theorem tz_spec : ∀ (m : Nat), 0 < m → m = m / 2 ^ tz m * 2 ^ tz m ∧ m / 2 ^ tz m % 2 = 1 := by
  intro m
  induction m using Nat.strongRecOn with
  | _ m ih =>
    intro h0
    by_cases h : m % 2 = 1
    · rw [tz_odd h]; simp; exact h
    · obtain ⟨h1, h2⟩ := ih (m / 2) (by omega) (by omega)
      rw [tz_even h0 (by omega)]
      have e : m / 2 ^ (tz (m / 2) + 1) = m / 2 / 2 ^ tz (m / 2) := by rw [Nat.pow_succ, Nat.mul_comm, Nat.div_div_eq_div_mul]
      rw [e]
      refine ⟨?_, h2⟩
      rw [Nat.pow_succ, ← Nat.mul_assoc, ← h1]
      omega
def oddM (m : Nat) : Nat := m / 2 ^ tz m
theorem oddM_le (m : Nat) : oddM m ≤ m := Nat.div_le_self _ _
/-- A finite word's text, without its sign. -/
def finT (r : Nat) : List UInt8 := decDigits (oddM (fM r)) ++ 112 :: itoa ((fK r : Int) - 1074 + tz (fM r))
def bodyT (r : Nat) : List UInt8 := if r = 2047 * 2 ^ 52 then [105, 110, 102] else if r = 0 then [48] else finT r
/-- A floating number's text. -/
def textB (b : Nat) : List UInt8 := if isNan b then [110, 97, 110] else if sgn b then 45 :: bodyT (b % 2 ^ 63) else bodyT (b % 2 ^ 63)

theorem dec_digit : ∀ (n : Nat), ∀ c ∈ decDigits n, 48 ≤ c.toNat ∧ c.toNat ≤ 57 := by
  intro n
  induction n using Nat.strongRecOn with
  | _ n ih =>
    intro c hc
    rw [decDigits] at hc
    by_cases h : n < 10
    · rw [dif_pos h] at hc
      rw [List.mem_singleton] at hc; subst hc
      rw [UInt8.toNat_ofNat']; omega
    · rw [dif_neg h] at hc
      rcases List.mem_append.1 hc with hc | hc
      · exact ih (n / 10) (by omega) c hc
      · rw [List.mem_singleton] at hc; subst hc
        rw [UInt8.toNat_ofNat']; omega
/-- The number of digits. -/
def decV (l : List UInt8) : Nat := l.foldl (fun a c => 10 * a + (c.toNat - 48)) 0
theorem decV_snoc (l : List UInt8) (c : UInt8) : decV (l ++ [c]) = 10 * decV l + (c.toNat - 48) := by unfold decV; rw [List.foldl_append]; rfl
theorem decV_dec : ∀ n : Nat, decV (decDigits n) = n := by
  intro n
  induction n using Nat.strongRecOn with
  | _ n ih =>
    rw [decDigits]
    by_cases h : n < 10
    · rw [dif_pos h]
      show 10 * 0 + ((UInt8.ofNat (48 + n)).toNat - 48) = n
      rw [UInt8.toNat_ofNat']; omega
    · rw [dif_neg h, decV_snoc, ih (n / 10) (by omega), UInt8.toNat_ofNat']; omega
theorem dec_ne (n : Nat) : decDigits n ≠ [] := by rw [decDigits]; split <;> simp
theorem dec_head {n : Nat} (h : 0 < n) : ∃ c l, decDigits n = c :: l ∧ c ≠ 48 := by
  induction n using Nat.strongRecOn with
  | _ n ih =>
    rw [decDigits]
    by_cases h1 : n < 10
    · rw [dif_pos h1]
      refine ⟨_, _, rfl, fun e => ?_⟩
      have := congrArg UInt8.toNat e
      rw [UInt8.toNat_ofNat'] at this
      simp at this
      omega
    · rw [dif_neg h1]
      obtain ⟨c, l, e, hc⟩ := ih (n / 10) (by omega) (by omega)
      exact ⟨c, l ++ _, by rw [e]; rfl, hc⟩
theorem dec_inj {m n : Nat} (h : decDigits m = decDigits n) : m = n := by rw [← decV_dec m, h, decV_dec]
theorem itoa_inj {m n : Int} (h : itoa m = itoa n) : m = n := by
  unfold itoa at h
  have hd : ∀ k, decDigits k ≠ [] := dec_ne
  have h45 : ∀ k l, decDigits k = 45 :: l → False := fun k l e => by
    have := dec_digit k 45 (by rw [e]; simp)
    revert this; decide
  by_cases h1 : m < 0
  · by_cases h2 : n < 0
    · rw [if_pos h1, if_pos h2] at h
      have := dec_inj (List.cons.inj h).2
      omega
    · rw [if_pos h1, if_neg h2] at h
      exact (h45 _ _ h.symm).elim
  · by_cases h2 : n < 0
    · rw [if_neg h1, if_pos h2] at h
      exact (h45 _ _ h).elim
    · rw [if_neg h1, if_neg h2] at h
      have := dec_inj h
      omega
/-- Two lists that part at the first such mark. -/
theorem split_at {x y u v : List UInt8} {c : UInt8} (h : x ++ c :: u = y ++ c :: v) (hx : c ∉ x) (hy : c ∉ y) : x = y ∧ u = v := by
  induction x generalizing y with
  | nil =>
    cases y with
    | nil => exact ⟨rfl, (List.cons.inj h).2⟩
    | cons d y => simp at h hy; exact absurd h.1 hy.1
  | cons a x ih =>
    cases y with
    | nil => simp at h hx; exact absurd h.1.symm hx.1
    | cons d y =>
      simp at h hx hy
      obtain ⟨e1, e2⟩ := ih h.2 hx.2 hy.2
      exact ⟨by rw [h.1, e1], e2⟩
theorem dec_p (n : Nat) : (112 : UInt8) ∉ decDigits n := fun h => by have := dec_digit n 112 h; revert this; decide
/-- A finite word's magnitude by its text's two numbers. -/
theorem val_text {r : Nat} (h : 0 < r) : val r = oddM (fM r) * 2 ^ (fK r + tz (fM r)) := by
  have hM : 0 < fM r := by
    have := val_pos h
    unfold val at this
    exact Nat.pos_of_mul_pos_right this
  have := (tz_spec (fM r) hM).1
  unfold val oddM
  rw [Nat.add_comm, Nat.pow_add, ← Nat.mul_assoc, ← this]
theorem finT_inj {r q : Nat} (hr : 0 < r) (hq : 0 < q) (h : finT r = finT q) : r = q := by
  unfold finT at h
  obtain ⟨h1, h2⟩ := split_at h (dec_p _) (dec_p _)
  have e1 := dec_inj h1
  have e2 := itoa_inj h2
  refine val_inj ?_
  rw [val_text hr, val_text hq, e1]
  congr 2
  omega
theorem finT_head {r : Nat} (hr : 0 < r) : ∃ c l, finT r = c :: l ∧ 49 ≤ c.toNat ∧ c.toNat ≤ 57 := by
  have hM : 0 < fM r := by
    have := val_pos hr
    unfold val at this
    exact Nat.pos_of_mul_pos_right this
  have ho : 0 < oddM (fM r) := Nat.pos_of_ne_zero fun e => by
    have h2 := (tz_spec (fM r) hM).2
    unfold oddM at e
    rw [e] at h2
    exact absurd h2 (by decide)
  obtain ⟨c, l, e, hc⟩ := dec_head ho
  have hd := dec_digit (oddM (fM r)) c (by rw [e]; simp)
  refine ⟨c, l ++ 112 :: itoa ((fK r : Int) - 1074 + tz (fM r)), by unfold finT; rw [e]; rfl, ?_, hd.2⟩
  rcases Nat.lt_or_ge 48 c.toNat with h | h
  · omega
  · exact absurd (UInt8.toNat_inj.1 (show c.toNat = (48 : UInt8).toNat from by show c.toNat = 48; omega)) hc
theorem bodyT_inj {r q : Nat} (h : bodyT r = bodyT q) : r = q := by
  have no1 : ∀ {r}, 0 < r → finT r ≠ [105, 110, 102] := fun hr e => by
    obtain ⟨c, l, e2, _, h2⟩ := finT_head hr
    rw [e] at e2
    have := (List.cons.inj e2).1
    subst this
    revert h2; decide
  have no2 : ∀ {r}, 0 < r → finT r ≠ [48] := fun hr e => by
    obtain ⟨c, l, e2, h1, _⟩ := finT_head hr
    rw [e] at e2
    have := (List.cons.inj e2).1
    subst this
    revert h1; decide
  unfold bodyT at h
  by_cases r1 : r = 2047 * 2 ^ 52
  · rw [if_pos r1] at h
    by_cases q1 : q = 2047 * 2 ^ 52
    · omega
    · rw [if_neg q1] at h
      by_cases q2 : q = 0
      · rw [if_pos q2] at h; cases h
      · rw [if_neg q2] at h; exact absurd h.symm (no1 (by omega))
  · rw [if_neg r1] at h
    by_cases r2 : r = 0
    · rw [if_pos r2] at h
      by_cases q1 : q = 2047 * 2 ^ 52
      · rw [if_pos q1] at h; cases h
      · rw [if_neg q1] at h
        by_cases q2 : q = 0
        · omega
        · rw [if_neg q2] at h; exact absurd h.symm (no2 (by omega))
    · rw [if_neg r2] at h
      by_cases q1 : q = 2047 * 2 ^ 52
      · rw [if_pos q1] at h; exact absurd h (no1 (by omega))
      · rw [if_neg q1] at h
        by_cases q2 : q = 0
        · rw [if_pos q2] at h; exact absurd h (no2 (by omega))
        · rw [if_neg q2] at h; exact finT_inj (by omega) (by omega) h
theorem bodyT_head (r : Nat) : ∃ c l, bodyT r = c :: l ∧ c ≠ 45 ∧ c ≠ 110 := by
  unfold bodyT
  split
  · exact ⟨_, _, rfl, by decide, by decide⟩
  · split
    · exact ⟨_, _, rfl, by decide, by decide⟩
    · rename_i h
      obtain ⟨c, l, e, h1, h2⟩ := finT_head (r := r) (by omega)
      refine ⟨c, l, e, fun x => ?_, fun x => ?_⟩ <;> (subst x; revert h1 h2; decide)
/-- Texts and numbers are one to one. -/
theorem textB_inj {b c : Nat} (hb : b < 2 ^ 64) (hc : c < 2 ^ 64) (h : textB b = textB c) : b = c ∨ (isNan b = true ∧ isNan c = true) := by
  obtain ⟨x1, l1, e1, a1, a2⟩ := bodyT_head (b % 2 ^ 63)
  obtain ⟨x2, l2, e2, b1, b2⟩ := bodyT_head (c % 2 ^ 63)
  unfold textB at h
  cases n1 : isNan b with
  | true =>
    cases n2 : isNan c with
    | true => exact .inr ⟨rfl, rfl⟩
    | false =>
      rw [n1, n2] at h
      simp only [if_true, Bool.false_eq_true, if_false] at h
      cases s2 : sgn c <;> rw [s2] at h <;> simp only [if_true, Bool.false_eq_true, if_false] at h
      · rw [e2] at h; exact absurd (List.cons.inj h).1.symm b2
      · cases h
  | false =>
    cases n2 : isNan c with
    | true =>
      rw [n1, n2] at h
      simp only [if_true, Bool.false_eq_true, if_false] at h
      cases s1 : sgn b <;> rw [s1] at h <;> simp only [if_true, Bool.false_eq_true, if_false] at h
      · rw [e1] at h; exact absurd (List.cons.inj h).1 a2
      · cases h
    | false =>
      refine .inl ?_
      rw [n1, n2] at h
      simp only [Bool.false_eq_true, if_false] at h
      have w1 := word_parts hb
      have w2 := word_parts hc
      cases s1 : sgn b <;> cases s2 : sgn c <;> rw [s1, s2] at h <;> simp only [if_true, Bool.false_eq_true, if_false] at h
      · rw [← w1, ← w2, s1, s2, bodyT_inj h]
      · rw [e1] at h; exact absurd (List.cons.inj h).1 a1
      · rw [e2] at h; exact absurd (List.cons.inj h).1.symm b1
      · rw [← w1, ← w2, s1, s2, bodyT_inj (List.cons.inj h).2]
end Go.Fl
