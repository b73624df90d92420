/- Floating numbers, plainly: the one next to a ratio. -/
import Derived.Test.YtcdfbcmhikhnjaaDoorFlB
namespace Go.Fl
open Ieee

/-- The first i binary digits of A / n, A being of 128 digits. -/
def quo (A n i : Nat) : Nat := A * 2 ^ i / (n * 2 ^ 128)
def stepI (A n : Nat) : Nat → Nat → Nat
  | 0, i => i
  | f + 1, i => if 2 ^ 52 ≤ quo A n i then i else stepI A n f (i + 1)
/-- How many digits there are up to the 53rd behind the zeros. -/
def theI (A n : Nat) : Nat := stepI A n 300 0
theorem stepI_spec (A n : Nat) : ∀ (f i : Nat), (∀ j, j < i → quo A n j < 2 ^ 52) → (∃ j, j < i + f ∧ 2 ^ 52 ≤ quo A n j) → 2 ^ 52 ≤ quo A n (stepI A n f i) ∧ ∀ j, j < stepI A n f i → quo A n j < 2 ^ 52
  | 0, i, h, ⟨j, hj, hq⟩ => by have := h j (by omega); omega
  | f + 1, i, h, ⟨j, hj, hq⟩ => by
    unfold stepI
    by_cases hi : 2 ^ 52 ≤ quo A n i
    · rw [if_pos hi]; exact ⟨hi, h⟩
    · rw [if_neg hi]
      exact stepI_spec A n f (i + 1) (fun k hk => by
        by_cases e : k = i
        · subst e; omega
        · exact h k (by omega)) ⟨j, by omega, hq⟩
theorem theI_spec {A n : Nat} (hA : 0 < A) (hA2 : A < 2 ^ 128) (hn : 0 < n) (hn2 : n < 2 ^ 35) : 2 ^ 52 ≤ quo A n (theI A n) ∧ (∀ j, j < theI A n → quo A n j < 2 ^ 52) ∧ 52 ≤ theI A n ∧ theI A n ≤ 215 := by
  have hp : 0 < n * 2 ^ 128 := Nat.mul_pos hn (by decide)
  have h215 : 2 ^ 52 ≤ quo A n 215 := by
    unfold quo
    rw [Nat.le_div_iff_mul_le hp]
    have e : (2 : Nat) ^ 215 = 2 ^ 52 * 2 ^ 35 * 2 ^ 128 := by decide
    have h1 : n * 2 ^ 128 ≤ 2 ^ 35 * 2 ^ 128 := Nat.mul_le_mul_right _ (by omega)
    calc 2 ^ 52 * (n * 2 ^ 128) ≤ 2 ^ 52 * (2 ^ 35 * 2 ^ 128) := Nat.mul_le_mul_left _ h1
      _ = 2 ^ 215 := by decide
      _ ≤ A * 2 ^ 215 := Nat.le_mul_of_pos_left _ hA
  obtain ⟨h1, h2⟩ := stepI_spec A n 300 0 (fun j hj => absurd hj (Nat.not_lt_zero _)) ⟨215, by omega, h215⟩
  refine ⟨h1, h2, ?_, ?_⟩
  · rcases Nat.lt_or_ge (theI A n) 52 with h | h
    · exfalso
      have h3 : quo A n (theI A n) ≤ 2 ^ 51 := by
        unfold quo
        have h4 : A * 2 ^ theI A n ≤ 2 ^ 128 * 2 ^ 51 := Nat.mul_le_mul (by omega) (Nat.pow_le_pow_right (by decide) (by omega))
        have h5 : (A * 2 ^ theI A n) / (n * 2 ^ 128) ≤ (2 ^ 51 * (n * 2 ^ 128)) / (n * 2 ^ 128) := Nat.div_le_div_right (by
          have : 2 ^ 128 ≤ n * 2 ^ 128 := Nat.le_mul_of_pos_left _ hn
          omega)
        rw [Nat.mul_div_cancel _ hp] at h5
        exact h5
      have h6 : 2 ^ 52 ≤ quo A n (theI A n) := h1
      omega
    · exact h
  · rcases Nat.lt_or_ge 215 (theI A n) with h | h
    · have := h2 215 h; omega
    · exact h
theorem quo_succ (A n i : Nat) (hn : 0 < n) : quo A n (i + 1) = 2 * quo A n i + quo A n (i + 1) % 2 := by
  have h : quo A n i = quo A n (i + 1) / 2 := by
    unfold quo
    have e : A * 2 ^ (i + 1) = A * 2 ^ i * 2 := by rw [Nat.pow_succ 2 i, Nat.mul_assoc]
    rw [e, Nat.div_div_eq_div_mul, Nat.mul_div_mul_right _ _ (by decide : 0 < 2)]
  omega
theorem quo_top {A n : Nat} (hA : 0 < A) (hA2 : A < 2 ^ 128) (hn : 0 < n) (hn2 : n < 2 ^ 35) : quo A n (theI A n) < 2 ^ 53 := by
  obtain ⟨h1, h2, h3, h4⟩ := theI_spec hA hA2 hn hn2
  obtain ⟨i, hi⟩ : ∃ i, theI A n = i + 1 := ⟨theI A n - 1, by omega⟩
  rw [hi] at h2 ⊢
  have := h2 i (by omega)
  have := quo_succ A n i hn
  omega
/-- Is what is left behind these digits more than half of the last one, or half and the last one odd? -/
def upB (A n i : Nat) : Bool := (quo A n (i + 1) % 2 == 1) && ((A * 2 ^ (i + 1) % (n * 2 ^ 128) != 0) || (quo A n i % 2 == 1))
/-- The rung of the floating number next to A / n. -/
def ofR (A n : Nat) : Nat := (1202 - theI A n) * 2 ^ 52 + (quo A n (theI A n) + (upB A n (theI A n)).toNat)
theorem quo_mono {A n B k : Nat} (hn : 0 < n) (hk : 0 < k) (h : A * k ≤ B * n) (i : Nat) : quo A n i ≤ quo B k i := by
  unfold quo
  rw [Nat.le_div_iff_mul_le (Nat.mul_pos hk (by decide))]
  have h1 : A * 2 ^ i / (n * 2 ^ 128) * (n * 2 ^ 128) ≤ A * 2 ^ i := Nat.div_mul_le_self _ _
  generalize A * 2 ^ i / (n * 2 ^ 128) = q at *
  have h2 : q * (n * 2 ^ 128) * k ≤ A * 2 ^ i * k := Nat.mul_le_mul_right _ h1
  have h3 : A * k * 2 ^ i ≤ B * n * 2 ^ i := Nat.mul_le_mul_right _ h
  have h4 : q * (k * 2 ^ 128) * n ≤ B * 2 ^ i * n := by
    calc q * (k * 2 ^ 128) * n = q * (n * 2 ^ 128) * k := by ac_rfl
      _ ≤ A * 2 ^ i * k := h2
      _ = A * k * 2 ^ i := by ac_rfl
      _ ≤ B * n * 2 ^ i := h3
      _ = B * 2 ^ i * n := by ac_rfl
  exact Nat.le_of_mul_le_mul_right h4 hn
theorem rest_mono {A n B k : Nat} (hn : 0 < n) (hk : 0 < k) (h : A * k ≤ B * n) {i : Nat} (he : quo A n i = quo B k i) (hr : A * 2 ^ i % (n * 2 ^ 128) ≠ 0) : B * 2 ^ i % (k * 2 ^ 128) ≠ 0 := by
  intro h0
  have e1 : B * 2 ^ i = quo B k i * (k * 2 ^ 128) := by
    have := Nat.div_add_mod (B * 2 ^ i) (k * 2 ^ 128)
    rw [h0, Nat.add_zero, Nat.mul_comm] at this
    exact this.symm
  have e2 := Nat.div_add_mod (A * 2 ^ i) (n * 2 ^ 128)
  have e3 : quo A n i = A * 2 ^ i / (n * 2 ^ 128) := rfl
  rw [← e3, he] at e2
  generalize quo B k i = q at *
  have h3 : A * k * 2 ^ i ≤ B * n * 2 ^ i := Nat.mul_le_mul_right _ h
  have h4 : A * 2 ^ i * k ≤ q * (k * 2 ^ 128) * n := by
    calc A * 2 ^ i * k = A * k * 2 ^ i := by ac_rfl
      _ ≤ B * n * 2 ^ i := h3
      _ = B * 2 ^ i * n := by ac_rfl
      _ = q * (k * 2 ^ 128) * n := by rw [e1]
  have h5 : q * (k * 2 ^ 128) * n = n * 2 ^ 128 * q * k := by ac_rfl
  rw [h5] at h4
  have h6 : A * 2 ^ i ≤ n * 2 ^ 128 * q := Nat.le_of_mul_le_mul_right h4 hk
  omega
theorem ofR_mono {A n B k : Nat} (hA : 0 < A) (hA2 : A < 2 ^ 128) (hn : 0 < n) (hn2 : n < 2 ^ 35) (hB : 0 < B) (hB2 : B < 2 ^ 128) (hk : 0 < k) (hk2 : k < 2 ^ 35) (h : A * k ≤ B * n) : ofR A n ≤ ofR B k := by
  obtain ⟨a1, a2, a3, a4⟩ := theI_spec hA hA2 hn hn2
  obtain ⟨b1, b2, b3, b4⟩ := theI_spec hB hB2 hk hk2
  have at_ := quo_top hA hA2 hn hn2
  have hm := quo_mono hn hk h
  have hji : theI B k ≤ theI A n := by
    rcases Nat.lt_or_ge (theI A n) (theI B k) with h1 | h1
    · have := b2 _ h1; have := hm (theI A n); omega
    · exact h1
  have hu : (upB A n (theI A n)).toNat ≤ 1 := by cases upB A n (theI A n) <;> simp
  unfold ofR
  by_cases he : theI B k = theI A n
  · rw [he] at b1 b2 ⊢
    have m1 := hm (theI A n)
    have m2 := hm (theI A n + 1)
    have s1 := quo_succ A n (theI A n) hn
    have s2 := quo_succ B k (theI A n) hk
    by_cases hq : quo A n (theI A n) = quo B k (theI A n)
    · have hup : upB A n (theI A n) = true → upB B k (theI A n) = true := fun hu => by
        unfold upB at hu ⊢
        simp only [Bool.and_eq_true, Bool.or_eq_true, beq_iff_eq, bne_iff_ne] at hu ⊢
        have hd : quo B k (theI A n + 1) % 2 = 1 := by omega
        refine ⟨hd, ?_⟩
        rcases hu.2 with h1 | h1
        · exact .inl (rest_mono hn hk h (by omega) h1)
        · exact .inr (by omega)
      have : (upB A n (theI A n)).toNat ≤ (upB B k (theI A n)).toNat := by
        cases h1 : upB A n (theI A n) with
        | false => simp
        | true => rw [hup h1]; simp
      omega
    · omega
  · omega
theorem ofR_eq {A n B k : Nat} (hA : 0 < A) (hA2 : A < 2 ^ 128) (hn : 0 < n) (hn2 : n < 2 ^ 35) (hB : 0 < B) (hB2 : B < 2 ^ 128) (hk : 0 < k) (hk2 : k < 2 ^ 35) (h : A * k = B * n) : ofR A n = ofR B k :=
  Nat.le_antisymm (ofR_mono hA hA2 hn hn2 hB hB2 hk hk2 (Nat.le_of_eq h)) (ofR_mono hB hB2 hk hk2 hA hA2 hn hn2 (Nat.le_of_eq h.symm))
set_option linter.unusedVariables false
theorem ofR_lt {A n : Nat} (hA : 0 < A) (hA2 : A < 2 ^ 128) (hn : 0 < n) (hn2 : n < 2 ^ 35) : 0 < ofR A n ∧ ofR A n < 2047 * 2 ^ 52 := by
  obtain ⟨a1, a2, a3, a4⟩ := theI_spec hA hA2 hn hn2
  have at_ := quo_top hA hA2 hn hn2
  have hu : (upB A n (theI A n)).toNat ≤ 1 := by cases upB A n (theI A n) <;> simp
  unfold ofR
  omega
end Go.Fl
