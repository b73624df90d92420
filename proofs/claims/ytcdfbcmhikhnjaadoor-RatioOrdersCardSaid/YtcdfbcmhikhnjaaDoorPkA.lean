/- Packed lists, plain: numbers digit by digit. -/
import Derived.Test.YtcdfbcmhikhnjaaDoorBase
namespace Go.Proofs.YtcdfbcmhikhnjaaDoor
set_option linter.unusedVariables false

/-- The w binary digits of a number, the greatest first. -/
def dig : Nat → Nat → List Nat
  | 0, _ => []
  | w + 1, v => v / 2 ^ w % 2 :: dig w v
/-- What digits say. -/
def valD : List Nat → Nat
  | [] => 0
  | d :: l => d * 2 ^ l.length + valD l
def isD (l : List Nat) : Prop := ∀ d ∈ l, d < 2
theorem dig_length (w v : Nat) : (dig w v).length = w := by
  induction w with
  | zero => rfl
  | succ w ih => simp [dig, ih]
theorem dig_is (w v : Nat) : isD (dig w v) := by
  induction w with
  | zero => intro d h; cases h
  | succ w ih =>
    intro d h
    rcases List.mem_cons.1 h with rfl | h
    · omega
    · exact ih d h
theorem isD_append {a b : List Nat} (ha : isD a) (hb : isD b) : isD (a ++ b) := fun d h => by
  rcases List.mem_append.1 h with h | h
  · exact ha d h
  · exact hb d h
theorem isD_left {a b : List Nat} (h : isD (a ++ b)) : isD a := fun d hd => h d (by simp [hd])
theorem isD_right {a b : List Nat} (h : isD (a ++ b)) : isD b := fun d hd => h d (by simp [hd])
theorem valD_append (a b : List Nat) : valD (a ++ b) = valD a * 2 ^ b.length + valD b := by
  induction a with
  | nil => simp [valD]
  | cons d a ih => simp only [List.cons_append, valD, ih, List.length_append, Nat.pow_add, Nat.add_mul, Nat.mul_assoc, Nat.add_assoc]
theorem valD_lt {l : List Nat} (h : isD l) : valD l < 2 ^ l.length := by
  induction l with
  | nil => simp [valD]
  | cons d l ih =>
    have h1 := h d (by simp)
    have h2 := ih fun x hx => h x (by simp [hx])
    rw [valD, List.length_cons, Nat.pow_succ]
    have : d * 2 ^ l.length ≤ 1 * 2 ^ l.length := Nat.mul_le_mul_right _ (by omega)
    omega
theorem valD_dig (w v : Nat) : valD (dig w v) = v % 2 ^ w := by
  induction w with
  | zero => simp [dig, valD, Nat.mod_one]
  | succ w ih => rw [dig, valD, ih, dig_length, Nat.mod_pow_succ]; rw [Nat.mul_comm, Nat.add_comm]
theorem dig_add (w v k : Nat) : dig w (v + k * 2 ^ w) = dig w v := by
  induction w generalizing k with
  | zero => rfl
  | succ w ih =>
    have h2 : v + k * 2 ^ (w + 1) = v + (k * 2) * 2 ^ w := by rw [Nat.pow_succ, Nat.mul_assoc, Nat.mul_comm 2]
    rw [dig, dig, h2, ih (k * 2), Nat.add_mul_div_right _ _ (Nat.two_pow_pos w)]
    congr 1
    omega
theorem dig_mod (w v : Nat) : dig w (v % 2 ^ w) = dig w v := by
  have h := dig_add w (v % 2 ^ w) (v / 2 ^ w)
  rw [Nat.mul_comm, Nat.mod_add_div] at h
  exact h.symm
theorem dig_valD {l : List Nat} (h : isD l) : dig l.length (valD l) = l := by
  induction l with
  | nil => rfl
  | cons d l ih =>
    have h1 := h d (by simp)
    have h2 : isD l := fun x hx => h x (by simp [hx])
    have h3 := valD_lt h2
    rw [List.length_cons, dig, valD]
    have e1 : (d * 2 ^ l.length + valD l) / 2 ^ l.length % 2 = d := by
      rw [Nat.add_comm, Nat.add_mul_div_right _ _ (Nat.two_pow_pos _), Nat.div_eq_of_lt h3]; omega
    rw [e1, Nat.add_comm, dig_add, ih h2]
/-- Digits taken off the front of a number. -/
theorem dig_split (a b v : Nat) : dig (a + b) v = dig a (v / 2 ^ b) ++ dig b v := by
  induction a with
  | zero => simp [dig]
  | succ a ih =>
    rw [show a + 1 + b = (a + b) + 1 by omega, dig, ih, dig, List.cons_append, Nat.div_div_eq_div_mul, ← Nat.pow_add, Nat.add_comm b a]
theorem valD_zero {l : List Nat} (h : isD l) (h0 : valD l = 0) : l = List.replicate l.length 0 := by
  have := dig_valD h
  rw [h0] at this
  rw [← this, dig_length]
  generalize l.length = n
  induction n with
  | zero => rfl
  | succ n ih => rw [dig, ih, List.replicate_succ]; simp
theorem valD_replicate (n : Nat) : valD (List.replicate n 0) = 0 := by
  induction n with
  | zero => rfl
  | succ n ih => rw [List.replicate_succ, valD, ih]; simp

/-- Whole bytes of digits. -/
def bytesD (l : List Nat) : List UInt8 := if h : l.length < 8 then [] else UInt8.ofNat (valD (l.take 8)) :: bytesD (l.drop 8)
termination_by l.length
decreasing_by simp; omega
def digsB (b : List UInt8) : List Nat := b.flatMap fun c => dig 8 c.toNat
theorem digsB_length (b : List UInt8) : (digsB b).length = 8 * b.length := by
  induction b with
  | nil => rfl
  | cons c b ih => rw [digsB, List.flatMap_cons, List.length_append, dig_length]; unfold digsB at ih; rw [ih, List.length_cons]; omega
theorem digsB_append (a b : List UInt8) : digsB (a ++ b) = digsB a ++ digsB b := by simp [digsB]
theorem digsB_is (b : List UInt8) : isD (digsB b) := fun d h => by
  obtain ⟨c, _, hc⟩ := List.mem_flatMap.1 h
  exact dig_is 8 _ d hc
theorem bytesD_small {l : List Nat} (h : l.length < 8) : bytesD l = [] := by rw [bytesD, dif_pos h]
theorem bytesD_cons {a b : List Nat} (h : a.length = 8) : bytesD (a ++ b) = UInt8.ofNat (valD a) :: bytesD b := by
  rw [bytesD, dif_neg (by simp; omega)]
  have e1 : (a ++ b).take 8 = a := by rw [← h, List.take_left]
  have e2 : (a ++ b).drop 8 = b := by rw [← h, List.drop_left]
  rw [e1, e2]
theorem bytesD_digsB (b : List UInt8) : bytesD (digsB b) = b := by
  induction b with
  | nil => rw [digsB, List.flatMap_nil, bytesD_small (by simp)]
  | cons c b ih =>
    have e : digsB (c :: b) = dig 8 c.toNat ++ digsB b := by simp [digsB]
    rw [e, bytesD_cons (dig_length _ _), ih, valD_dig]
    congr 1
    have := c.toNat_lt
    rw [Nat.mod_eq_of_lt (by simpa using this)]
    simp
theorem digsB_bytesD (l : List Nat) (h : isD l) (h8 : l.length % 8 = 0) : digsB (bytesD l) = l := by
  match hl : l.length with
  | 0 =>
    have : l = [] := List.length_eq_zero_iff.1 hl
    subst this
    rw [bytesD_small (by simp)]; rfl
  | n + 1 =>
    have h3 : 8 ≤ l.length := by omega
    have e : l = l.take 8 ++ l.drop 8 := (List.take_append_drop 8 l).symm
    have hlt : (l.take 8).length = 8 := by simp; omega
    have hd : isD (l.take 8) := by rw [e] at h; exact isD_left h
    have hd2 : isD (l.drop 8) := by rw [e] at h; exact isD_right h
    have hv := valD_lt hd
    rw [hlt] at hv
    have ih := digsB_bytesD (l.drop 8) hd2 (by simp; omega)
    conv => lhs; rw [e]
    rw [bytesD_cons hlt]
    have e3 : digsB (UInt8.ofNat (valD (l.take 8)) :: bytesD (l.drop 8)) = dig 8 (UInt8.ofNat (valD (l.take 8))).toNat ++ digsB (bytesD (l.drop 8)) := by simp [digsB]
    have e4 : (UInt8.ofNat (valD (l.take 8))).toNat = valD (l.take 8) := by simp at hv ⊢; omega
    have e5 := dig_valD hd
    rw [hlt] at e5
    rw [e3, e4, e5, ih]
    exact e.symm
termination_by l.length
decreasing_by simp; omega
theorem bytesD_append {a b : List Nat} (h : a.length % 8 = 0) : bytesD (a ++ b) = bytesD a ++ bytesD b := by
  match hl : a.length with
  | 0 =>
    have : a = [] := List.length_eq_zero_iff.1 hl
    subst this
    rw [bytesD_small (l := []) (by simp)]; simp
  | n + 1 =>
    have h3 : 8 ≤ a.length := by omega
    have e : a = a.take 8 ++ a.drop 8 := (List.take_append_drop 8 a).symm
    have hlt : (a.take 8).length = 8 := by simp; omega
    have ih := bytesD_append (a := a.drop 8) (b := b) (by simp; omega)
    conv => lhs; rw [e, List.append_assoc, bytesD_cons hlt, ih]
    conv => rhs; rw [e, bytesD_cons hlt]
    rfl
termination_by a.length
decreasing_by simp; omega
theorem bytesD_length (l : List Nat) : (bytesD l).length = l.length / 8 := by
  by_cases h : l.length < 8
  · rw [bytesD_small h]; simp; omega
  · have e : l = l.take 8 ++ l.drop 8 := (List.take_append_drop 8 l).symm
    have hlt : (l.take 8).length = 8 := by simp; omega
    have ih := bytesD_length (l.drop 8)
    conv => lhs; rw [e]
    rw [bytesD_cons hlt, List.length_cons, ih]
    simp; omega
termination_by l.length
decreasing_by simp; omega

/-- Zeros behind digits, up to whole bytes. -/
def padN (n : Nat) : Nat := (8 - n % 8) % 8
def padD (l : List Nat) : List Nat := l ++ List.replicate (padN l.length) 0
theorem padD_length (l : List Nat) : (padD l).length % 8 = 0 ∧ (padD l).length / 8 = (l.length + 7) / 8 := by
  unfold padD padN; simp; omega
theorem isD_zeros (n : Nat) : isD (List.replicate n 0) := fun d h => by have := List.eq_of_mem_replicate h; omega
theorem padD_is {l : List Nat} (h : isD l) : isD (padD l) := isD_append h (isD_zeros _)
/-- All digits of numbers of a width. -/
def flatD (w : Nat) (xs : List Nat) : List Nat := xs.flatMap (dig w)
theorem flatD_length (w : Nat) (xs : List Nat) : (flatD w xs).length = xs.length * w := by
  induction xs with
  | nil => simp [flatD]
  | cons x xs ih => rw [flatD, List.flatMap_cons, List.length_append, dig_length]; unfold flatD at ih; rw [ih, List.length_cons, Nat.add_mul]; omega
theorem flatD_is (w : Nat) (xs : List Nat) : isD (flatD w xs) := fun d h => by
  obtain ⟨c, _, hc⟩ := List.mem_flatMap.1 h
  exact dig_is w _ d hc
theorem flatD_snoc (w : Nat) (xs : List Nat) (x : Nat) : flatD w (xs ++ [x]) = flatD w xs ++ dig w x := by simp [flatD]
def packD (w : Nat) (xs : List Nat) : List UInt8 := bytesD (padD (flatD w xs))
theorem packD_length (w : Nat) (xs : List Nat) : (packD w xs).length = (xs.length * w + 7) / 8 := by
  rw [packD, bytesD_length, (padD_length _).2, flatD_length]
/-- Numbers of a width out of digits. -/
def getN (w : Nat) : Nat → List Nat → List Nat
  | 0, _ => []
  | n + 1, l => valD (l.take w) :: getN w n (l.drop w)
theorem getN_length (w n : Nat) (l : List Nat) : (getN w n l).length = n := by
  induction n generalizing l with
  | zero => rfl
  | succ n ih => simp [getN, ih]
theorem getN_flatD {w : Nat} (xs : List Nat) (r : List Nat) (h : ∀ x ∈ xs, x < 2 ^ w) : getN w xs.length (flatD w xs ++ r) = xs := by
  induction xs with
  | nil => rfl
  | cons x xs ih =>
    have e : flatD w (x :: xs) ++ r = dig w x ++ (flatD w xs ++ r) := by simp [flatD]
    have e1 : (dig w x ++ (flatD w xs ++ r)).take w = dig w x := by
      have := List.take_left (l₁ := dig w x) (l₂ := flatD w xs ++ r); rw [dig_length] at this; exact this
    have e2 : (dig w x ++ (flatD w xs ++ r)).drop w = flatD w xs ++ r := by
      have := List.drop_left (l₁ := dig w x) (l₂ := flatD w xs ++ r); rw [dig_length] at this; exact this
    rw [e, List.length_cons, getN, e1, e2, ih fun y hy => h y (by simp [hy]), valD_dig, Nat.mod_eq_of_lt (h x (by simp))]
theorem flatD_getN {w : Nat} (n : Nat) (l : List Nat) (h : isD l) (hl : n * w ≤ l.length) : flatD w (getN w n l) = l.take (n * w) := by
  induction n generalizing l with
  | zero => simp [getN, flatD]
  | succ n ih =>
    have e : l = l.take w ++ l.drop w := (List.take_append_drop w l).symm
    have h1 : isD (l.take w) := by rw [e] at h; exact isD_left h
    have h2 : isD (l.drop w) := by rw [e] at h; exact isD_right h
    have hw : (n + 1) * w = w + n * w := by rw [Nat.add_mul]; omega
    have hlt : (l.take w).length = w := by simp; omega
    have e5 := dig_valD h1
    rw [hlt] at e5
    have e6 : flatD w (valD (l.take w) :: getN w n (l.drop w)) = dig w (valD (l.take w)) ++ flatD w (getN w n (l.drop w)) := by simp [flatD]
    rw [getN, e6, e5, ih _ h2 (by simp; omega), hw, List.take_add]
theorem getN_lt {w : Nat} (n : Nat) (l : List Nat) (h : isD l) (hl : n * w ≤ l.length) : ∀ x ∈ getN w n l, x < 2 ^ w := by
  induction n generalizing l with
  | zero => intro x hx; cases hx
  | succ n ih =>
    intro x hx
    have e : l = l.take w ++ l.drop w := (List.take_append_drop w l).symm
    have h1 : isD (l.take w) := by rw [e] at h; exact isD_left h
    have h2 : isD (l.drop w) := by rw [e] at h; exact isD_right h
    have hw : (n + 1) * w = w + n * w := by rw [Nat.add_mul]; omega
    rcases List.mem_cons.1 hx with rfl | hx
    · have := valD_lt h1
      rw [show (l.take w).length = w by simp; omega] at this
      exact this
    · exact ih _ h2 (by simp; omega) x hx

/-- Bytes are a list's just if the digits behind the last number are 0. -/
theorem packD_getN {w n : Nat} (b : List UInt8) (hb : b.length = (n * w + 7) / 8) : packD w (getN w n (digsB b)) = b ↔ valD ((digsB b).drop (n * w)) = 0 := by
  have hl : n * w ≤ (digsB b).length := by rw [digsB_length]; omega
  have hf := flatD_getN n (digsB b) (digsB_is b) hl
  have e : digsB b = (digsB b).take (n * w) ++ (digsB b).drop (n * w) := (List.take_append_drop _ _).symm
  have hrest : isD ((digsB b).drop (n * w)) := by have h := digsB_is b; rw [e] at h; exact isD_right h
  have hlen : ((digsB b).drop (n * w)).length = padN (n * w) := by
    rw [List.length_drop, digsB_length, hb]; unfold padN; omega
  have hpad : padD (flatD w (getN w n (digsB b))) = (digsB b).take (n * w) ++ List.replicate (padN (n * w)) 0 := by
    unfold padD; rw [flatD_length, getN_length, hf]
  constructor
  · intro h
    have h2 : digsB (packD w (getN w n (digsB b))) = digsB b := by rw [h]
    unfold packD at h2
    rw [digsB_bytesD _ (padD_is (flatD_is _ _)) (padD_length _).1, hpad] at h2
    have h3 := congrArg (List.drop (n * w)) h2
    rw [← h3, List.drop_append, List.drop_of_length_le (by rw [List.length_take]; exact Nat.min_le_left _ _), show (n * w) - (List.take (n * w) (digsB b)).length = 0 by simp; omega]
    simp [valD_replicate]
  · intro h
    have h2 := valD_zero hrest h
    rw [hlen] at h2
    unfold packD
    rw [hpad, ← h2, ← e, bytesD_digsB]

/-- How many binary digits a number has. -/
def blen (m : Nat) : Nat := if m = 0 then 0 else blen (m / 2) + 1
decreasing_by omega
theorem blen_lt (m : Nat) : m < 2 ^ blen m := by
  induction m using Nat.strongRecOn with
  | _ m ih =>
    rw [blen]
    split
    · omega
    · have := ih (m / 2) (by omega)
      rw [Nat.pow_succ]; omega
theorem blen_le {m w : Nat} (h : m < 2 ^ w) : blen m ≤ w := by
  induction w generalizing m with
  | zero => rw [blen, if_pos (by simpa using h)]; exact Nat.le_refl _
  | succ w ih =>
    rw [blen]
    split
    · omega
    · have := ih (m := m / 2) (by rw [Nat.pow_succ] at h; omega)
      omega
theorem blen_top {m : Nat} (h : m ≠ 0) : m / 2 ^ (blen m - 1) = 1 := by
  induction m using Nat.strongRecOn with
  | _ m ih =>
    rw [blen, if_neg h, Nat.add_sub_cancel]
    by_cases h2 : m / 2 = 0
    · rw [h2, blen, if_pos rfl]; simp; omega
    · have := ih (m / 2) (by omega) h2
      have h3 : blen (m / 2) = (blen (m / 2) - 1) + 1 := by
        have : blen (m / 2) ≠ 0 := by rw [blen, if_neg h2]; omega
        omega
      rw [h3, Nat.pow_succ, Nat.mul_comm, ← Nat.div_div_eq_div_mul]
      exact this
def maxL (xs : List Nat) : Nat := xs.foldl max 0
theorem foldl_max (xs : List Nat) (a : Nat) : a ≤ xs.foldl max a ∧ (∀ x ∈ xs, x ≤ xs.foldl max a) ∧ (xs.foldl max a = a ∨ xs.foldl max a ∈ xs) := by
  induction xs generalizing a with
  | nil => simp
  | cons x xs ih =>
    obtain ⟨h1, h2, h3⟩ := ih (max a x)
    rw [List.foldl_cons]
    refine ⟨by omega, fun y hy => ?_, ?_⟩
    · rcases List.mem_cons.1 hy with rfl | hy
      · omega
      · exact h2 y hy
    · rcases h3 with h3 | h3
      · rcases Nat.le_total a x with h | h
        · right; rw [h3, Nat.max_eq_right h]; simp
        · left; rw [h3, Nat.max_eq_left h]
      · right; simp [h3]
theorem maxL_le {xs : List Nat} {x : Nat} (h : x ∈ xs) : x ≤ maxL xs := (foldl_max xs 0).2.1 x h
theorem maxL_mem (xs : List Nat) : maxL xs = 0 ∨ maxL xs ∈ xs := (foldl_max xs 0).2.2
theorem maxL_lt {xs : List Nat} {w : Nat} (h : ∀ x ∈ xs, x < 2 ^ w) : maxL xs < 2 ^ w := by
  rcases maxL_mem xs with h0 | h0
  · rw [h0]; exact Nat.two_pow_pos w
  · exact h _ h0
end Go.Proofs.YtcdfbcmhikhnjaaDoor
