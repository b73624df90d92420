/- Texts joined: PkA, RtF, RtG, FlR, RtH, RtI, RtJ, RtK, RtL. -/
import Derived.Test.YtejleplhmkmegaaGreatDoorOa
import Derived.Test.YtejleplhmkmegaaGreatDoorOf
import Derived.Deep.DeepCutAuto
import Derived.Deep.RegionWith
import Derived.Test.YtejleplhmkmegaaGreatDoorOe
/- Packed lists, plain: numbers digit by digit. -/
namespace Go.Proofs.YtejleplhmkmegaaGreatDoor
set_option linter.unusedVariables false

/-- The w binary digits of a number, the greatest first. -/
def dig : Nat → Nat → List Nat
  | 0, _ => []
  | w + 1, v => v / 2 ^ w % 2 :: dig w v
/-- What digits say. -/
def valD : List Nat → Nat
  | [] => 0
  | d :: l => d * 2 ^ l.length + valD l
def isD (l : List Nat) : Prop := ∀ d ∈ l, d < 2
theorem dig_length (w v : Nat) : (dig w v).length = w := by
  induction w with
  | zero => rfl
  | succ w ih => simp [dig, ih]
theorem dig_is (w v : Nat) : isD (dig w v) := by
  induction w with
  | zero => intro d h; cases h
  | succ w ih =>
    intro d h
    rcases List.mem_cons.1 h with rfl | h
    · omega
    · exact ih d h
theorem isD_append {a b : List Nat} (ha : isD a) (hb : isD b) : isD (a ++ b) := fun d h => by
  rcases List.mem_append.1 h with h | h
  · exact ha d h
  · exact hb d h
theorem isD_left {a b : List Nat} (h : isD (a ++ b)) : isD a := fun d hd => h d (by simp [hd])
theorem isD_right {a b : List Nat} (h : isD (a ++ b)) : isD b := fun d hd => h d (by simp [hd])
theorem valD_append (a b : List Nat) : valD (a ++ b) = valD a * 2 ^ b.length + valD b := by
  induction a with
  | nil => simp [valD]
  | cons d a ih => simp only [List.cons_append, valD, ih, List.length_append, Nat.pow_add, Nat.add_mul, Nat.mul_assoc, Nat.add_assoc]
theorem valD_lt {l : List Nat} (h : isD l) : valD l < 2 ^ l.length := by
  induction l with
  | nil => simp [valD]
  | cons d l ih =>
    have h1 := h d (by simp)
    have h2 := ih fun x hx => h x (by simp [hx])
    rw [valD, List.length_cons, Nat.pow_succ]
    have : d * 2 ^ l.length ≤ 1 * 2 ^ l.length := Nat.mul_le_mul_right _ (by omega)
    omega
theorem valD_dig (w v : Nat) : valD (dig w v) = v % 2 ^ w := by
  induction w with
  | zero => simp [dig, valD, Nat.mod_one]
  | succ w ih => rw [dig, valD, ih, dig_length, Nat.mod_pow_succ]; rw [Nat.mul_comm, Nat.add_comm]
theorem dig_add (w v k : Nat) : dig w (v + k * 2 ^ w) = dig w v := by
  induction w generalizing k with
  | zero => rfl
  | succ w ih =>
    have h2 : v + k * 2 ^ (w + 1) = v + (k * 2) * 2 ^ w := by rw [Nat.pow_succ, Nat.mul_assoc, Nat.mul_comm 2]
    rw [dig, dig, h2, ih (k * 2), Nat.add_mul_div_right _ _ (Nat.two_pow_pos w)]
    congr 1
    omega
theorem dig_mod (w v : Nat) : dig w (v % 2 ^ w) = dig w v := by
  have h := dig_add w (v % 2 ^ w) (v / 2 ^ w)
  rw [Nat.mul_comm, Nat.mod_add_div] at h
  exact h.symm
theorem dig_valD {l : List Nat} (h : isD l) : dig l.length (valD l) = l := by
  induction l with
  | nil => rfl
  | cons d l ih =>
    have h1 := h d (by simp)
    have h2 : isD l := fun x hx => h x (by simp [hx])
    have h3 := valD_lt h2
    rw [List.length_cons, dig, valD]
    have e1 : (d * 2 ^ l.length + valD l) / 2 ^ l.length % 2 = d := by
      rw [Nat.add_comm, Nat.add_mul_div_right _ _ (Nat.two_pow_pos _), Nat.div_eq_of_lt h3]; omega
    rw [e1, Nat.add_comm, dig_add, ih h2]
/-- Digits taken off the front of a number. -/
theorem dig_split (a b v : Nat) : dig (a + b) v = dig a (v / 2 ^ b) ++ dig b v := by
  induction a with
  | zero => simp [dig]
  | succ a ih =>
    rw [show a + 1 + b = (a + b) + 1 by omega, dig, ih, dig, List.cons_append, Nat.div_div_eq_div_mul, ← Nat.pow_add, Nat.add_comm b a]
theorem valD_zero {l : List Nat} (h : isD l) (h0 : valD l = 0) : l = List.replicate l.length 0 := by
  have := dig_valD h
  rw [h0] at this
  rw [← this, dig_length]
  generalize l.length = n
  induction n with
  | zero => rfl
  | succ n ih => rw [dig, ih, List.replicate_succ]; simp
theorem valD_replicate (n : Nat) : valD (List.replicate n 0) = 0 := by
  induction n with
  | zero => rfl
  | succ n ih => rw [List.replicate_succ, valD, ih]; simp

/-- Whole bytes of digits. -/
def bytesD (l : List Nat) : List UInt8 := if h : l.length < 8 then [] else UInt8.ofNat (valD (l.take 8)) :: bytesD (l.drop 8)
termination_by l.length
decreasing_by simp; omega
def digsB (b : List UInt8) : List Nat := b.flatMap fun c => dig 8 c.toNat
theorem digsB_length (b : List UInt8) : (digsB b).length = 8 * b.length := by
  induction b with
  | nil => rfl
  | cons c b ih => rw [digsB, List.flatMap_cons, List.length_append, dig_length]; unfold digsB at ih; rw [ih, List.length_cons]; omega
theorem digsB_append (a b : List UInt8) : digsB (a ++ b) = digsB a ++ digsB b := by simp [digsB]
theorem digsB_is (b : List UInt8) : isD (digsB b) := fun d h => by
  obtain ⟨c, _, hc⟩ := List.mem_flatMap.1 h
  exact dig_is 8 _ d hc
theorem bytesD_small {l : List Nat} (h : l.length < 8) : bytesD l = [] := by rw [bytesD, dif_pos h]
theorem bytesD_cons {a b : List Nat} (h : a.length = 8) : bytesD (a ++ b) = UInt8.ofNat (valD a) :: bytesD b := by
  rw [bytesD, dif_neg (by simp; omega)]
  have e1 : (a ++ b).take 8 = a := by rw [← h, List.take_left]
  have e2 : (a ++ b).drop 8 = b := by rw [← h, List.drop_left]
  rw [e1, e2]
theorem bytesD_digsB (b : List UInt8) : bytesD (digsB b) = b := by
  induction b with
  | nil => rw [digsB, List.flatMap_nil, bytesD_small (by simp)]
  | cons c b ih =>
    have e : digsB (c :: b) = dig 8 c.toNat ++ digsB b := by simp [digsB]
    rw [e, bytesD_cons (dig_length _ _), ih, valD_dig]
    congr 1
    have := c.toNat_lt
    rw [Nat.mod_eq_of_lt (by simpa using this)]
    simp
theorem digsB_bytesD (l : List Nat) (h : isD l) (h8 : l.length % 8 = 0) : digsB (bytesD l) = l := by
  match hl : l.length with
  | 0 =>
    have : l = [] := List.length_eq_zero_iff.1 hl
    subst this
    rw [bytesD_small (by simp)]; rfl
  | n + 1 =>
    have h3 : 8 ≤ l.length := by omega
    have e : l = l.take 8 ++ l.drop 8 := (List.take_append_drop 8 l).symm
    have hlt : (l.take 8).length = 8 := by simp; omega
    have hd : isD (l.take 8) := by rw [e] at h; exact isD_left h
    have hd2 : isD (l.drop 8) := by rw [e] at h; exact isD_right h
    have hv := valD_lt hd
    rw [hlt] at hv
    have ih := digsB_bytesD (l.drop 8) hd2 (by simp; omega)
    conv => lhs; rw [e]
    rw [bytesD_cons hlt]
    have e3 : digsB (UInt8.ofNat (valD (l.take 8)) :: bytesD (l.drop 8)) = dig 8 (UInt8.ofNat (valD (l.take 8))).toNat ++ digsB (bytesD (l.drop 8)) := by simp [digsB]
    have e4 : (UInt8.ofNat (valD (l.take 8))).toNat = valD (l.take 8) := by simp at hv ⊢; omega
    have e5 := dig_valD hd
    rw [hlt] at e5
    rw [e3, e4, e5, ih]
    exact e.symm
termination_by l.length
decreasing_by simp; omega
theorem bytesD_append {a b : List Nat} (h : a.length % 8 = 0) : bytesD (a ++ b) = bytesD a ++ bytesD b := by
  match hl : a.length with
  | 0 =>
    have : a = [] := List.length_eq_zero_iff.1 hl
    subst this
    rw [bytesD_small (l := []) (by simp)]; simp
  | n + 1 =>
    have h3 : 8 ≤ a.length := by omega
    have e : a = a.take 8 ++ a.drop 8 := (List.take_append_drop 8 a).symm
    have hlt : (a.take 8).length = 8 := by simp; omega
    have ih := bytesD_append (a := a.drop 8) (b := b) (by simp; omega)
    conv => lhs; rw [e, List.append_assoc, bytesD_cons hlt, ih]
    conv => rhs; rw [e, bytesD_cons hlt]
    rfl
termination_by a.length
decreasing_by simp; omega
theorem bytesD_length (l : List Nat) : (bytesD l).length = l.length / 8 := by
  by_cases h : l.length < 8
  · rw [bytesD_small h]; simp; omega
  · have e : l = l.take 8 ++ l.drop 8 := (List.take_append_drop 8 l).symm
    have hlt : (l.take 8).length = 8 := by simp; omega
    have ih := bytesD_length (l.drop 8)
    conv => lhs; rw [e]
    rw [bytesD_cons hlt, List.length_cons, ih]
    simp; omega
termination_by l.length
decreasing_by simp; omega

/-- Zeros behind digits, up to whole bytes. -/
def padN (n : Nat) : Nat := (8 - n % 8) % 8
def padD (l : List Nat) : List Nat := l ++ List.replicate (padN l.length) 0
theorem padD_length (l : List Nat) : (padD l).length % 8 = 0 ∧ (padD l).length / 8 = (l.length + 7) / 8 := by
  unfold padD padN; simp; omega
theorem isD_zeros (n : Nat) : isD (List.replicate n 0) := fun d h => by have := List.eq_of_mem_replicate h; omega
theorem padD_is {l : List Nat} (h : isD l) : isD (padD l) := isD_append h (isD_zeros _)
/-- All digits of numbers of a width. -/
def flatD (w : Nat) (xs : List Nat) : List Nat := xs.flatMap (dig w)
theorem flatD_length (w : Nat) (xs : List Nat) : (flatD w xs).length = xs.length * w := by
  induction xs with
  | nil => simp [flatD]
  | cons x xs ih => rw [flatD, List.flatMap_cons, List.length_append, dig_length]; unfold flatD at ih; rw [ih, List.length_cons, Nat.add_mul]; omega
theorem flatD_is (w : Nat) (xs : List Nat) : isD (flatD w xs) := fun d h => by
  obtain ⟨c, _, hc⟩ := List.mem_flatMap.1 h
  exact dig_is w _ d hc
theorem flatD_snoc (w : Nat) (xs : List Nat) (x : Nat) : flatD w (xs ++ [x]) = flatD w xs ++ dig w x := by simp [flatD]
def packD (w : Nat) (xs : List Nat) : List UInt8 := bytesD (padD (flatD w xs))
theorem packD_length (w : Nat) (xs : List Nat) : (packD w xs).length = (xs.length * w + 7) / 8 := by
  rw [packD, bytesD_length, (padD_length _).2, flatD_length]
/-- Numbers of a width out of digits. -/
def getN (w : Nat) : Nat → List Nat → List Nat
  | 0, _ => []
  | n + 1, l => valD (l.take w) :: getN w n (l.drop w)
theorem getN_length (w n : Nat) (l : List Nat) : (getN w n l).length = n := by
  induction n generalizing l with
  | zero => rfl
  | succ n ih => simp [getN, ih]
theorem getN_flatD {w : Nat} (xs : List Nat) (r : List Nat) (h : ∀ x ∈ xs, x < 2 ^ w) : getN w xs.length (flatD w xs ++ r) = xs := by
  induction xs with
  | nil => rfl
  | cons x xs ih =>
    have e : flatD w (x :: xs) ++ r = dig w x ++ (flatD w xs ++ r) := by simp [flatD]
    have e1 : (dig w x ++ (flatD w xs ++ r)).take w = dig w x := by
      have := List.take_left (l₁ := dig w x) (l₂ := flatD w xs ++ r); rw [dig_length] at this; exact this
    have e2 : (dig w x ++ (flatD w xs ++ r)).drop w = flatD w xs ++ r := by
      have := List.drop_left (l₁ := dig w x) (l₂ := flatD w xs ++ r); rw [dig_length] at this; exact this
    rw [e, List.length_cons, getN, e1, e2, ih fun y hy => h y (by simp [hy]), valD_dig, Nat.mod_eq_of_lt (h x (by simp))]
theorem flatD_getN {w : Nat} (n : Nat) (l : List Nat) (h : isD l) (hl : n * w ≤ l.length) : flatD w (getN w n l) = l.take (n * w) := by
  induction n generalizing l with
  | zero => simp [getN, flatD]
  | succ n ih =>
    have e : l = l.take w ++ l.drop w := (List.take_append_drop w l).symm
    have h1 : isD (l.take w) := by rw [e] at h; exact isD_left h
    have h2 : isD (l.drop w) := by rw [e] at h; exact isD_right h
    have hw : (n + 1) * w = w + n * w := by rw [Nat.add_mul]; omega
    have hlt : (l.take w).length = w := by simp; omega
    have e5 := dig_valD h1
    rw [hlt] at e5
    have e6 : flatD w (valD (l.take w) :: getN w n (l.drop w)) = dig w (valD (l.take w)) ++ flatD w (getN w n (l.drop w)) := by simp [flatD]
    rw [getN, e6, e5, ih _ h2 (by simp; omega), hw, List.take_add]
theorem getN_lt {w : Nat} (n : Nat) (l : List Nat) (h : isD l) (hl : n * w ≤ l.length) : ∀ x ∈ getN w n l, x < 2 ^ w := by
  induction n generalizing l with
  | zero => intro x hx; cases hx
  | succ n ih =>
    intro x hx
    have e : l = l.take w ++ l.drop w := (List.take_append_drop w l).symm
    have h1 : isD (l.take w) := by rw [e] at h; exact isD_left h
    have h2 : isD (l.drop w) := by rw [e] at h; exact isD_right h
    have hw : (n + 1) * w = w + n * w := by rw [Nat.add_mul]; omega
    rcases List.mem_cons.1 hx with rfl | hx
    · have := valD_lt h1
      rw [show (l.take w).length = w by simp; omega] at this
      exact this
    · exact ih _ h2 (by simp; omega) x hx

/-- Bytes are a list's just if the digits behind the last number are 0. -/
theorem packD_getN {w n : Nat} (b : List UInt8) (hb : b.length = (n * w + 7) / 8) : packD w (getN w n (digsB b)) = b ↔ valD ((digsB b).drop (n * w)) = 0 := by
  have hl : n * w ≤ (digsB b).length := by rw [digsB_length]; omega
  have hf := flatD_getN n (digsB b) (digsB_is b) hl
  have e : digsB b = (digsB b).take (n * w) ++ (digsB b).drop (n * w) := (List.take_append_drop _ _).symm
  have hrest : isD ((digsB b).drop (n * w)) := by have h := digsB_is b; rw [e] at h; exact isD_right h
  have hlen : ((digsB b).drop (n * w)).length = padN (n * w) := by
    rw [List.length_drop, digsB_length, hb]; unfold padN; omega
  have hpad : padD (flatD w (getN w n (digsB b))) = (digsB b).take (n * w) ++ List.replicate (padN (n * w)) 0 := by
    unfold padD; rw [flatD_length, getN_length, hf]
  constructor
  · intro h
    have h2 : digsB (packD w (getN w n (digsB b))) = digsB b := by rw [h]
    unfold packD at h2
    rw [digsB_bytesD _ (padD_is (flatD_is _ _)) (padD_length _).1, hpad] at h2
    have h3 := congrArg (List.drop (n * w)) h2
    rw [← h3, List.drop_append, List.drop_of_length_le (by rw [List.length_take]; exact Nat.min_le_left _ _), show (n * w) - (List.take (n * w) (digsB b)).length = 0 by simp; omega]
    simp [valD_replicate]
  · intro h
    have h2 := valD_zero hrest h
    rw [hlen] at h2
    unfold packD
    rw [hpad, ← h2, ← e, bytesD_digsB]

/-- How many binary digits a number has. -/
def blen (m : Nat) : Nat := if m = 0 then 0 else blen (m / 2) + 1
decreasing_by omega
theorem blen_lt (m : Nat) : m < 2 ^ blen m := by
  induction m using Nat.strongRecOn with
  | _ m ih =>
    rw [blen]
    split
    · omega
    · have := ih (m / 2) (by omega)
      rw [Nat.pow_succ]; omega
theorem blen_le {m w : Nat} (h : m < 2 ^ w) : blen m ≤ w := by
  induction w generalizing m with
  | zero => rw [blen, if_pos (by simpa using h)]; exact Nat.le_refl _
  | succ w ih =>
    rw [blen]
    split
    · omega
    · have := ih (m := m / 2) (by rw [Nat.pow_succ] at h; omega)
      omega
theorem blen_top {m : Nat} (h : m ≠ 0) : m / 2 ^ (blen m - 1) = 1 := by
  induction m using Nat.strongRecOn with
  | _ m ih =>
    rw [blen, if_neg h, Nat.add_sub_cancel]
    by_cases h2 : m / 2 = 0
    · rw [h2, blen, if_pos rfl]; simp; omega
    · have := ih (m / 2) (by omega) h2
      have h3 : blen (m / 2) = (blen (m / 2) - 1) + 1 := by
        have : blen (m / 2) ≠ 0 := by rw [blen, if_neg h2]; omega
        omega
      rw [h3, Nat.pow_succ, Nat.mul_comm, ← Nat.div_div_eq_div_mul]
      exact this
def maxL (xs : List Nat) : Nat := xs.foldl max 0
theorem foldl_max (xs : List Nat) (a : Nat) : a ≤ xs.foldl max a ∧ (∀ x ∈ xs, x ≤ xs.foldl max a) ∧ (xs.foldl max a = a ∨ xs.foldl max a ∈ xs) := by
  induction xs generalizing a with
  | nil => simp
  | cons x xs ih =>
    obtain ⟨h1, h2, h3⟩ := ih (max a x)
    rw [List.foldl_cons]
    refine ⟨by omega, fun y hy => ?_, ?_⟩
    · rcases List.mem_cons.1 hy with rfl | hy
      · omega
      · exact h2 y hy
    · rcases h3 with h3 | h3
      · rcases Nat.le_total a x with h | h
        · right; rw [h3, Nat.max_eq_right h]; simp
        · left; rw [h3, Nat.max_eq_left h]
      · right; simp [h3]
theorem maxL_le {xs : List Nat} {x : Nat} (h : x ∈ xs) : x ≤ maxL xs := (foldl_max xs 0).2.1 x h
theorem maxL_mem (xs : List Nat) : maxL xs = 0 ∨ maxL xs ∈ xs := (foldl_max xs 0).2.2
theorem maxL_lt {xs : List Nat} {w : Nat} (h : ∀ x ∈ xs, x < 2 ^ w) : maxL xs < 2 ^ w := by
  rcases maxL_mem xs with h0 | h0
  · rw [h0]; exact Nat.two_pow_pos w
  · exact h _ h0
end Go.Proofs.YtejleplhmkmegaaGreatDoor
/- Ratio: the reference's 'neg', 'digits', 'bits'. -/
namespace Go.Proofs.YtejleplhmkmegaaGreatDoor
set_option linter.unusedVariables false
set_option linter.unusedSimpArgs false
set_option maxRecDepth 100000
open Go.ChangeShapes Go.WideShapes Go.ChangeAt Go.RowKit Go.Fl

theorem rNeg_any (n : Int) (w : World) : Calls Tryz.prog 195 #[(Value.agg #[.int .i64 (hiW (n)), .int .u64 (loW (n))])] w fun e w' => e = .returned ((Value.agg #[.int .i64 (hiW (-n)), .int .u64 (loW (-n))])) ∧ Below w.heap.size w w' := by
  have h := refNeg_words (hiW n) (loW n) (hiW_is n) (loW_is n) w
  rw [wv_eq (n := -(hiW n * 18446744073709551616 + loW n)) (m := -n) (by have := words n; omega)] at h
  exact h
theorem rneg_any (H L : Int) (w : World) : Calls Tryz.prog 145 #[.agg #[.int .i64 H, .int .u64 L]] w fun e w' => e = .returned (.bool (decide (H < 0))) ∧ Below w.heap.size w w' := by
  go_enter Tryz.func145, Tryz.ntmps145
  go_wp2
  go_ret
  exact ⟨rfl, by (repeat' (first | (with_reducible exact Below.refl _ _) | (with_reducible assumption) | (with_reducible refine Below.new ?_ _) | (with_reducible refine Below.alloc ?_ ?_ _) | (with_reducible refine Below.drew ?_) | (with_reducible refine Below.drewN ?_ _) | (with_reducible refine Below.setCell ?_ ?_ _) | (refine Below.step ?_ (by assumption)) | go_size))⟩
theorem hi_neg {a : Int} (ha : I128 a) : decide (hiW a < 0) = decide (a < 0) := by
  rw [Bool.eq_iff_iff]
  unfold hiW
  simp
  omega
theorem dig_get : ∀ (w v j : Nat), j < w → (dig w v)[j]? = some (v / 2 ^ (w - 1 - j) % 2)
  | w + 1, v, 0, _ => by simp [dig]
  | w + 1, v, j + 1, h => by
    rw [dig, List.getElem?_cons_succ, dig_get w v j (by omega)]
    congr 4
    omega
theorem half_lo (A : Nat) {j : Nat} (hj : j < 64) : A % 2 ^ 64 / 2 ^ (j % 64) % 2 = A / 2 ^ j % 2 := by
  rw [Nat.mod_eq_of_lt hj]
  have h : (2 : Nat) ^ 64 = 2 ^ j * 2 ^ (64 - j) := by rw [← Nat.pow_add]; congr 1; omega
  rw [h, Nat.mod_mul_right_div_self, Nat.mod_mod_of_dvd _ ⟨2 ^ (64 - j - 1), by rw [← Nat.pow_succ', Nat.succ_eq_add_one, show 64 - j - 1 + 1 = 64 - j by omega]⟩]
theorem half_hi (A : Nat) {j : Nat} (h1 : 64 ≤ j) (h2 : j < 128) : A / 2 ^ 64 / 2 ^ (j % 64) % 2 = A / 2 ^ j % 2 := by
  rw [Nat.div_div_eq_div_mul, ← Nat.pow_add, show 64 + j % 64 = j by omega]
/-- Digits as values. -/
def digI (l : List Nat) : List Value := l.map fun d : Nat => Value.int .i64 (d : Int)
theorem digI_app (l : List Nat) (d : Nat) : digI l ++ [Value.int .i64 (d : Int)] = digI (l ++ [d]) := by simp [digI]
set_option maxHeartbeats 2000000 in
theorem rdigits_any (a : Int) (ha : I128 a) (w : World) :
    Calls Tryz.prog 142 #[(Value.agg #[.int .i64 (hiW (a)), .int .u64 (loW (a))])] w fun e w' => ∃ v, e = .returned v ∧ w'.ownsRow (w.heap.size + 1) 3 1 v 128 (digI (dig 128 a.natAbs)) ∧ Below w.heap.size w w' := by
  obtain ⟨i0, hi, hiz0, hiz1, hiz2⟩ := info_parts info_int
  obtain ⟨A, hA⟩ : ∃ A, a.natAbs = A := ⟨_, rfl⟩
  have hA2 : A < 2 ^ 128 := by omega
  have HN := hid (fun W => rneg_any (hiW a) (loW a) W)
  rw [hi_neg ha] at HN
  have hpos : ¬ a < 0 → (Value.agg #[.int .i64 (hiW (a)), .int .u64 (loW (a))]) = (Value.agg #[.int .i64 (hiW ((A : Int))), .int .u64 (loW ((A : Int)))]) := fun h => by rw [show (A : Int) = a by omega]
  have HM : a < 0 → ∀ W, Calls Tryz.prog 195 #[(Value.agg #[.int .i64 (hiW (a)), .int .u64 (loW (a))])] W fun e w' => e = .returned ((Value.agg #[.int .i64 (hiW ((A : Int))), .int .u64 (loW ((A : Int)))])) ∧ Below W.heap.size W w' := fun h W => by
    have := rNeg_any a W
    rw [show -a = (A : Int) by omega] at this
    exact this
  rw [hA]
  obtain ⟨n1, n2⟩ := nat_words hA2
  generalize hiW a = H at *; generalize loW a = L at *
  generalize hiW (A : Int) = H2 at *
  rw [n1] at hpos HM
  have HP := hid hpos; replace HM := hid HM
  have N2 := hid n2
  have HA := hid hA2
  clear hpos hA ha n1 n2 hA2
  obtain ⟨LO, hLO⟩ : ∃ LO, A % 2 ^ 64 = LO := ⟨_, rfl⟩
  rw [hLO] at HP HM
  have HLO := hid hLO
  clear hLO
  go_enter Tryz.func142, Tryz.ntmps142
  go_upto_if 7 with (go_at_call 145; go_loud ((with_reducible refine (HN.out _).mono ?_); rintro e w1 ⟨rfl, hw1⟩))
  go_cut [1] (fun s1 wx => s1 = .pointer (some ⟨w.heap.size, 0, none⟩) ∧ wx.heap[w.heap.size]? = some (.cells #[.int .i64 H2, .int .u64 (LO : Int)] 126 (0, 0)) ∧ Below w.heap.size w wx)
  case first =>
    have s0 : (w.alloc (.cells #[.int .i64 H, .int .u64 L] 126)).cell? ⟨w.heap.size, 0, none⟩ = some (.int .i64 H) := by go_simp
    have s1 : (w.alloc (.cells #[.int .i64 H, .int .u64 L] 126)).cell? ⟨w.heap.size, 1, none⟩ = some (.int .u64 L) := by go_simp
    have e0 := cell_step s0 hw1; have e1 := cell_step s1 hw1
    by_cases h : a < 0
    · have hd : decide (a < 0) = true := by simp [h]
      have HM2 := hid (HM.out h)
      rw [hd]
      clear HM HP HN hd
      go_wp2_with (go_at_call 195; go_loud ((with_reducible refine (HM2.out _).mono ?_); rintro e w2 ⟨rfl, hw2⟩; have hA2 := (hw2.block w.heap.size (by have := hw1.size; simp at this; omega)).trans ((hw1.block w.heap.size (by simp)).trans (heap_at rfl)); obtain ⟨c0, c1, g0, g1, b1⟩ := two_is hA2)) 
      go_meet
      case rel => exact ⟨rfl, two_set hA2, by (repeat' (first | (with_reducible exact Below.refl _ _) | (with_reducible assumption) | (with_reducible refine Below.new ?_ _) | (with_reducible refine Below.alloc ?_ ?_ _) | (with_reducible refine Below.drew ?_) | (with_reducible refine Below.drewN ?_ _) | (with_reducible refine Below.setCell ?_ ?_ _) | (refine Below.step ?_ (by assumption)) | go_size))⟩
    · have hd : decide (a < 0) = false := by simp [h]
      have hp := HP.out (by omega)
      simp only [Value.agg.injEq, Array.mk.injEq, List.cons.injEq, Value.int.injEq, true_and, and_true] at hp
      obtain ⟨rfl, rfl⟩ := hp
      have hA1 := (hw1.block w.heap.size (by simp)).trans (heap_at (w := w) (o := .cells #[.int .i64 H, .int .u64 (LO : Int)] 126) rfl)
      rw [hd]
      clear HM HP HN hd
      go_wp2_with fail
      go_meet
      case rel => exact ⟨rfl, hA1, by (repeat' (first | (with_reducible exact Below.refl _ _) | (with_reducible assumption) | (with_reducible refine Below.new ?_ _) | (with_reducible refine Below.alloc ?_ ?_ _) | (with_reducible refine Below.drew ?_) | (with_reducible refine Below.drewN ?_ _) | (with_reducible refine Below.setCell ?_ ?_ _) | (refine Below.step ?_ (by assumption)) | go_size))⟩
  case rest =>
    obtain ⟨rfl, hbox, hcb⟩ := hcut
    clear hw1 HN HP HM
    obtain ⟨V, rfl⟩ : ∃ V, V = wc := ⟨_, rfl⟩
    have hVs := hcb.size
    have hbl := lt_of_block hbox
    go_wp2
    go_loopw [3, 4] (fun v i wr => ∃ (r : Nat) (P : List Nat), P.length + r = 128 ∧ i = .int .i64 ((r : Int) - 1) ∧ P ++ dig r A = dig 128 A ∧ wr.ownsRow (w.heap.size + 1) 3 1 v P.length (digI P) ∧ wr.heap[w.heap.size]? = some (.cells #[.int .i64 H2, .int .u64 (LO : Int)] 126 (0, 0)) ∧ Below w.heap.size w wr) (fun _ i _ => (intOf i + 1).toNat)
    case atStart => exact ⟨128, [], by simp, by go_num, rfl, World.ownsRow_nil _ _ _ _, hbox, hcb⟩
    case round =>
      obtain ⟨r, P, hl, rfl, hP, hown, hbx, hbel⟩ := hrel
      obtain ⟨N, hN⟩ : ∃ N, P.length = N := ⟨_, rfl⟩
      rw [hN] at hl hown
      have hsz := hbel.size
      obtain ⟨c0, c1, g0, g1, b1⟩ := two_is hbx
      cases r with
      | succ j =>
        rw [show ((j + 1 : Nat) : Int) - 1 = (j : Int) by omega]
        have hj : j < 128 := by omega
        obtain ⟨h, hh⟩ : ∃ h : Nat, h = if 64 ≤ j then A / 2 ^ 64 else LO := ⟨_, rfl⟩
        have hdd : h / 2 ^ (j % 64) % 2 = A / 2 ^ j % 2 := by
          rw [hh]
          split
          · exact half_hi A (by omega) hj
          · rw [← HLO.out]; exact half_lo A (by omega)
        obtain ⟨s, hs⟩ : ∃ s, j % 64 = s := ⟨_, rfl⟩
        have hs2 : s < 64 := by omega
        have htj : (j : Int).tmod 64 = (s : Int) := by rw [← hs]; rfl
        have htj2 : (j : Int) % 64 = (s : Int) := by omega
        rw [hs] at hdd
        obtain ⟨q, hq⟩ : ∃ q, h / 2 ^ s = q := ⟨_, rfl⟩
        have hsh : (h : Int) / 2 ^ s = (q : Int) := by
          have : ((h : Int) / 2 ^ s) = ((h / 2 ^ s : Nat) : Int) := by simp
          rw [this, hq]
        have htm : (q : Int).tmod 2 = ((q % 2 : Nat) : Int) := rfl
        have htm2 : (q : Int) % 2 = ((q % 2 : Nat) : Int) := rfl
        obtain ⟨d, hd⟩ : ∃ d, q % 2 = d := ⟨_, rfl⟩
        rw [hd] at htm htm2
        have hd2 : d < 2 := by omega
        have hP2 : (P ++ [d]) ++ dig j A = dig 128 A := by rw [← hP, dig, ← hdd, hq, hd]; simp
        have HP := hid hP2; have HN := hid hN; have HH := hid hh
        clear hP hdd hq hd hP2 hN hs hh
        rcases Nat.lt_or_ge j 64 with h64 | h64
        · have eh : h = LO := by rw [HH.out, if_neg (by omega)]
          subst eh
          clear HH
          go_wp2_with (at_builtin; go_loud (refine wpList_append_own _ rfl _ _ 189 rfl (w.heap.size + 1) 3 i0 (.int .i64 0) 1 8 Tryz.underlying189 hi hiz0 hiz1 hiz2 rfl (by decide) _ _ _ rfl (hown.alloc _) ⟨wr.heap.size, 0, none⟩ 1 1 [.int .i64 ((d : Int))] rfl rfl (one_new _ _ _) (one_int _ _) (by unfold maxLen; omega) (by omega) (by simp; omega) ?_); intro v' w1' hown' hgrow' hnil')
          have hown2 : w1'.ownsRow (w.heap.size + 1) 3 1 v' (P ++ [d]).length (digI (P ++ [d])) := by
            rw [List.length_append, HN.out, ← digI_app]
            exact hown'
          have hb2 : Below w.heap.size w w1' := (hbel.alloc hsz _).grown hgrow' (by simp; omega) (fun r e => by have := (hown.lt r e).1; omega)
          have hl2 : (P ++ [d]).length = N + 1 := by rw [List.length_append, HN.out]; rfl
          have hbx2 := (hgrow'.block w.heap.size (by simp; omega) (fun e => by have := (hown.lt _ e.symm).1; omega)).trans ((heap_past (by omega)).trans hbx)
          go_roundw
          case rel => exact ⟨j, P ++ [d], by omega, by go_num, HP.out, hown2, hbx2, hb2⟩
          case measure => simp [intOf]
        · have eh : IntKind.u64.wrap H2 = (h : Int) := by rw [N2.out, HH.out, if_pos h64]
          have h64' : 64 ≤ (j : Int) := by omega
          clear HH
          go_wp2_with (at_builtin; go_loud (refine wpList_append_own _ rfl _ _ 189 rfl (w.heap.size + 1) 3 i0 (.int .i64 0) 1 8 Tryz.underlying189 hi hiz0 hiz1 hiz2 rfl (by decide) _ _ _ rfl (hown.alloc _) ⟨wr.heap.size, 0, none⟩ 1 1 [.int .i64 ((d : Int))] rfl rfl (one_new _ _ _) (one_int _ _) (by unfold maxLen; omega) (by omega) (by simp; omega) ?_); intro v' w1' hown' hgrow' hnil')
          have hown2 : w1'.ownsRow (w.heap.size + 1) 3 1 v' (P ++ [d]).length (digI (P ++ [d])) := by
            rw [List.length_append, HN.out, ← digI_app]
            exact hown'
          have hb2 : Below w.heap.size w w1' := (hbel.alloc hsz _).grown hgrow' (by simp; omega) (fun r e => by have := (hown.lt r e).1; omega)
          have hl2 : (P ++ [d]).length = N + 1 := by rw [List.length_append, HN.out]; rfl
          have hbx2 := (hgrow'.block w.heap.size (by simp; omega) (fun e => by have := (hown.lt _ e.symm).1; omega)).trans ((heap_past (by omega)).trans hbx)
          go_roundw
          case rel => exact ⟨j, P ++ [d], by omega, by go_num, HP.out, hown2, hbx2, hb2⟩
          case measure => simp [intOf]
      | zero =>
        obtain rfl : N = 128 := by omega
        have hPe : P = dig 128 A := by simpa [dig] using hP
        obtain ⟨ao, cap, rfl⟩ := hown.shape
        have HO := hid hown; have HPE := hid hPe
        clear hown hP hPe hN
        go_wp2
        go_ret
        exact ⟨_, rfl, HPE.out ▸ HO.out, hbel⟩
end Go.Proofs.YtejleplhmkmegaaGreatDoor
/- Ratio: the reference's 'bits' and 'Of'. -/
namespace Go.Proofs.YtejleplhmkmegaaGreatDoor
set_option linter.unusedVariables false
set_option linter.unusedSimpArgs false
set_option maxRecDepth 100000
open Go.ChangeShapes Go.WideShapes Go.ChangeAt Go.RowKit Go.Fl
attribute [local go_sem] frombits_lit Int.toNat_natCast

theorem bits_mask (m : Nat) (h : m < 2 ^ 64) : bits .and .u64 (m : Int) 4503599627370495 = ((m % 2 ^ 52 : Nat) : Int) := by
  have := bits_and m 4503599627370495 h (by decide)
  rw [show (4503599627370495 : Nat) = 2 ^ 52 - 1 by decide, Nat.and_two_pow_sub_one_eq_mod] at this
  exact this
theorem bits_join (F m : Nat) (hF : F < 2048) : bits .or .u64 ((F * 2 ^ 52 : Nat) : Int) ((m % 2 ^ 52 : Nat) : Int) = ((F * 2 ^ 52 + m % 2 ^ 52 : Nat) : Int) := by
  have hm : m % 2 ^ 52 < 2 ^ 52 := Nat.mod_lt _ (by decide)
  rw [bits_or _ _ (by omega) (by omega), Nat.mul_comm F, ← Nat.two_pow_add_eq_or_of_lt hm]
theorem bits_sign {r : Nat} (h : r < 2 ^ 63) : bits .or .u64 (r : Int) 9223372036854775808 = ((Ieee.double.word true r : Nat) : Int) := by
  have := bits_or r 9223372036854775808 (by omega) (by decide)
  rw [show (9223372036854775808 : Nat) = (if true then 2 ^ 63 else 0) by decide, or_sign h] at this
  exact this
theorem rbits_any (neg : Bool) (F m : Nat) (h1 : 1 ≤ F) (h2 : F < 2047) (h3 : 2 ^ 52 ≤ m) (h4 : m < 2 ^ 53) (w : World) :
    Calls Tryz.prog 144 #[.bool neg, .int .u64 (m : Int), .int .i64 ((F : Int) - 1075)] w fun e w' => e = .returned (.int .u64 ((Ieee.double.word neg ((F - 1) * 2 ^ 52 + m) : Nat) : Int)) ∧ w' = w := by
  have q1 := bits_mask m (by omega)
  have q2 := bits_join F m (by omega)
  have er : F * 2 ^ 52 + m % 2 ^ 52 = (F - 1) * 2 ^ 52 + m := by omega
  rw [er] at q2
  have q3 := bits_sign (show (F - 1) * 2 ^ 52 + m < 2 ^ 63 by omega)
  obtain ⟨R, hR⟩ : ∃ R, (F - 1) * 2 ^ 52 + m = R := ⟨_, rfl⟩
  rw [hR] at q2 q3 ⊢
  obtain ⟨Z, hZ⟩ : ∃ Z : Int, ((F * 2 ^ 52 : Nat) : Int) = Z := ⟨_, rfl⟩
  have s1 : IntKind.u64.wrap ((F : Int) * 4503599627370496) = Z := by rw [← hZ, IntKind.wrap_u64]; omega
  have s2 : IntKind.i64.wrap ((F : Int) - 1075 + 52) = (F : Int) - 1023 := by simp only [IntKind.wrap_i64];  omega
  have s3 : IntKind.i64.wrap ((F : Int) - 1023 + 1023) = (F : Int) := by simp only [IntKind.wrap_i64];  omega
  have s4 : IntKind.u64.wrap (F : Int) = (F : Int) := by rw [IntKind.wrap_u64]; omega
  rw [hZ, show ((m % 2 ^ 52 : Nat) : Int) = (m : Int) % 4503599627370496 by omega] at q2
  rw [show ((m % 2 ^ 52 : Nat) : Int) = (m : Int) % 4503599627370496 by omega] at q1
  cases neg
  · rw [word_false]
    clear er hR hZ h3 h4 q3
    go_enter Tryz.func144, Tryz.ntmps144
    go_wp2
    go_ret
    exact ⟨rfl, rfl⟩
  · clear er hR hZ h3 h4
    go_enter Tryz.func144, Tryz.ntmps144
    go_wp2
    go_ret
    exact ⟨rfl, rfl⟩
end Go.Proofs.YtejleplhmkmegaaGreatDoor
/- Floating numbers, plainly: the reference's division, digit by digit, rounds as the program's does. -/
namespace Go.Fl

def topA (A i : Nat) : Nat := A * 2 ^ i / 2 ^ 128
def bitAt (A i : Nat) : Nat := if i < 128 then A / 2 ^ (127 - i) % 2 else 0
def sumD (A : Nat) : Nat → Nat
  | 0 => 0
  | k + 1 => A / 2 ^ k % 2 + sumD A k
def leftA (A i : Nat) : Nat := if i < 128 then sumD A (127 - i) else 0
theorem topA_eq (A i : Nat) : topA A i = A * 2 ^ i / 2 ^ 128 := rfl
theorem quo_topA (A n i : Nat) : quo A n i = topA A i / n := by
  unfold quo topA
  rw [Nat.div_div_eq_div_mul, Nat.mul_comm n]
theorem topA_low {A i : Nat} (h : i ≤ 128) : topA A i = A / 2 ^ (128 - i) := by
  unfold topA
  have e : (2 : Nat) ^ 128 = 2 ^ (128 - i) * 2 ^ i := by rw [← Nat.pow_add]; congr 1; omega
  rw [e, Nat.mul_div_mul_right _ _ (Nat.pow_pos (by decide))]
theorem topA_high {A i : Nat} (h : 128 ≤ i) : topA A i = A * 2 ^ (i - 128) := by
  unfold topA
  have e : (2 : Nat) ^ i = 2 ^ (i - 128) * 2 ^ 128 := by rw [← Nat.pow_add]; congr 1; omega
  rw [e, ← Nat.mul_assoc, Nat.mul_div_cancel _ (Nat.pow_pos (by decide))]
theorem topA_succ (A i : Nat) : topA A (i + 1) = 2 * topA A i + bitAt A i := by
  unfold bitAt
  by_cases h : i < 128
  · rw [if_pos h, topA_low (by omega), topA_low (by omega), show 128 - (i + 1) = 127 - i by omega, show 128 - i = 127 - i + 1 by omega, Nat.pow_succ, ← Nat.div_div_eq_div_mul]
    omega
  · rw [if_neg h, topA_high (by omega), topA_high (by omega), show i + 1 - 128 = i - 128 + 1 by omega, Nat.pow_succ]
    generalize 2 ^ (i - 128) = p
    rw [← Nat.mul_assoc]
    omega
theorem topA_zero {A : Nat} (h : A < 2 ^ 128) : topA A 0 = 0 := by
  unfold topA
  rw [Nat.pow_zero, Nat.mul_one, Nat.div_eq_of_lt h]
theorem bitAt_lt (A i : Nat) : bitAt A i < 2 := by unfold bitAt; split <;> omega
theorem sumD_le (A : Nat) : ∀ k, sumD A k ≤ k
  | 0 => Nat.le_refl _
  | k + 1 => by
    have := sumD_le A k
    unfold sumD
    omega
theorem sumD_zero (A : Nat) : ∀ k, sumD A k = 0 ↔ A % 2 ^ k = 0
  | 0 => by simp [sumD, Nat.mod_one]
  | k + 1 => by
    have := sumD_zero A k
    unfold sumD
    rw [Nat.pow_succ, Nat.mod_mul]
    have hp : 0 < 2 ^ k := Nat.pow_pos (by decide)
    constructor
    · intro h
      rw [this.1 (by omega), show A / 2 ^ k % 2 = 0 by omega]
      simp
    · intro h
      have h1 : A % 2 ^ k = 0 := by omega
      have h2 : 2 ^ k * (A / 2 ^ k % 2) = 0 := by omega
      rcases Nat.mul_eq_zero.1 h2 with h3 | h3
      · omega
      · have := this.2 h1; omega
theorem low_left {A i : Nat} : A * 2 ^ (i + 1) % 2 ^ 128 ≠ 0 ↔ 0 < leftA A i := by
  unfold leftA
  by_cases h : i < 128
  · rw [if_pos h, Nat.pos_iff_ne_zero, ne_eq, ne_eq]
    refine not_congr ?_
    rw [sumD_zero]
    have e : (2 : Nat) ^ 128 = 2 ^ (127 - i) * 2 ^ (i + 1) := by rw [← Nat.pow_add]; congr 1; omega
    rw [e, Nat.mul_mod_mul_right]
    have hp : 0 < 2 ^ (i + 1) := Nat.pow_pos (by decide)
    constructor
    · intro h
      rcases Nat.mul_eq_zero.1 h with h3 | h3
      · exact h3
      · omega
    · intro h; rw [h, Nat.zero_mul]
  · rw [if_neg h]
    have e : (2 : Nat) ^ (i + 1) = 2 ^ (i + 1 - 128) * 2 ^ 128 := by rw [← Nat.pow_add]; congr 1; omega
    rw [e, ← Nat.mul_assoc, Nat.mul_mod_left]
    simp
/-- What is left of a division at a place, twice, and the next digit. -/
def lastA (A n i : Nat) : Nat := 2 * (topA A i % n) + bitAt A i
theorem lastA_lt {A n i : Nat} (hn : 0 < n) : lastA A n i < 2 * n := by
  unfold lastA
  have := Nat.mod_lt (topA A i) hn
  have := bitAt_lt A i
  omega
theorem quo_last {A n : Nat} (hn : 0 < n) (i : Nat) : quo A n (i + 1) = 2 * quo A n i + lastA A n i / n ∧ topA A (i + 1) % n = lastA A n i % n := by
  have e : topA A (i + 1) = lastA A n i + n * (2 * (topA A i / n)) := by
    rw [topA_succ]
    unfold lastA
    have h1 := Nat.div_add_mod (topA A i) n
    have h2 : n * (2 * (topA A i / n)) = 2 * (n * (topA A i / n)) := by rw [Nat.mul_left_comm]
    omega
  rw [quo_topA, quo_topA, e, Nat.add_mul_div_left _ _ hn, Nat.add_mul_mod_self_left]
  exact ⟨Nat.add_comm _ _, rfl⟩
theorem upB_is {A n : Nat} (hn : 0 < n) (i : Nat) : upB A n i = (decide (n < lastA A n i) || (decide (lastA A n i = n) && (decide (0 < leftA A i) || decide (quo A n i % 2 = 1)))) := by
  unfold upB
  obtain ⟨h1, h2⟩ := quo_last (A := A) hn i
  have h3 := lastA_lt (A := A) (i := i) hn
  have h4 : A * 2 ^ (i + 1) % (n * 2 ^ 128) = A * 2 ^ (i + 1) % 2 ^ 128 + 2 ^ 128 * (lastA A n i % n) := by
    rw [Nat.mul_comm n, Nat.mod_mul, ← topA_eq, h2]
  rw [h4, h1]
  have h5 := @low_left A i
  generalize A * 2 ^ (i + 1) % 2 ^ 128 = low at *
  generalize leftA A i = L at *
  generalize quo A n i = q at *
  generalize lastA A n i = X at *
  rw [Bool.eq_iff_iff]
  rcases Nat.lt_trichotomy X n with h | h | h
  · have e1 : (2 * q + 0) % 2 = 0 := by omega
    have e2 : ¬ n < X := by omega
    have e3 : ¬ X = n := by omega
    rw [Nat.div_eq_of_lt h, e1]
    simp [e2, e3]
  · subst h
    have e1 : (2 * q + 1) % 2 = 1 := by omega
    rw [Nat.div_self hn, Nat.mod_self, e1]
    simp [h5]
  · have hX : X / n = 1 := Nat.div_eq_of_lt_le (k := 1) (by omega) (by omega)
    have hY : X % n = X - n := by rw [Nat.mod_eq_sub_mod (by omega), Nat.mod_eq_of_lt (by omega)]
    have hZ : (low + 2 ^ 128 * (X - n) != 0) = true := by simp; omega
    rw [hX, hY, hZ]
    simp [h]
end Go.Fl
/- Ratio: the reference's 'Of' and 'Float'. -/
namespace Go.Proofs.YtejleplhmkmegaaGreatDoor
set_option linter.unusedVariables false
set_option linter.unusedSimpArgs false
set_option maxRecDepth 100000
open Go.ChangeShapes Go.WideShapes Go.ChangeAt Go.RowKit Go.Fl
attribute [local go_sem] frombits_lit Int.toNat_natCast

theorem row_at {w : World} {base : Nat} {e : TypeId} {v : Value} {n : Nat} {xs : List Value} (h : w.ownsRow base e 1 v n xs) (h0 : 0 < n) :
    ∃ b o cap, v = .slice (some ⟨b, o, none⟩) n cap ∧ n ≤ cap ∧ ∀ j u, xs[j]? = some u → w.cell? ⟨b, o + j, none⟩ = some u := by
  have hk := h
  rcases h.2 with ⟨rfl, h0'⟩ | ⟨g, cap, cur, rfl, _, _, h3, h4, _, _⟩
  · omega
  · refine ⟨g, 0, cap, rfl, h3, fun j u hj => ?_⟩
    have hjl : j < xs.length := (List.getElem?_eq_some_iff.1 hj).1
    rw [show 0 + j = j from Nat.zero_add j, hk.cellAt j (by rw [← h.1]; exact hjl), hj]
theorem digI_get {A j : Nat} (hj : j < 128) : (digI (dig 128 A))[j]? = some (.int .i64 ((bitAt A j : Nat) : Int)) := by
  unfold digI bitAt
  rw [List.getElem?_map, dig_get 128 A j hj, if_pos hj]
  rfl
set_option maxHeartbeats 2000000 in
theorem rof_zero (n : Nat) (hn : 0 < n) (hn2 : n ≤ 20000000000) (w : World) :
    Calls Tryz.prog 75 #[(Value.agg #[.int .i64 (hiW (0)), .int .u64 (loW (0))]), .int .i64 (n : Int)] w fun e w' => e = .returned (.tuple #[.float .f64 0, .int .i64 0]) ∧ Below w.heap.size w w' := by
  have HD := hid (fun W => rdigits_any 0 (by decide) W)
  rw [show hiW 0 = 0 by decide, show loW 0 = 0 by decide] at HD ⊢
  have HG := hid (fun j (hj : j < 128) => (show (digI (dig 128 (Int.natAbs 0)))[j]? = some (.int .i64 0) by
    rw [digI_get hj]
    unfold bitAt
    simp))
  generalize digI (dig 128 (Int.natAbs 0)) = DD at *
  have t1 : (0 : Int).tdiv (n : Int) = 0 := by simp
  have t2 : (0 : Int).tmod (n : Int) = 0 := by simp
  have hn' : ¬ (n : Int) = 0 := by omega
  go_enter Tryz.func75, Tryz.ntmps75
  go_wp2_with (go_at_call 142; go_loud ((with_reducible refine (HD.out _).mono ?_); rintro e w1 ⟨v, rfl, hown, hw1⟩; obtain ⟨b, o, cap, rfl, hcap, hc⟩ := row_at hown (by decide)))
  have HC := hid (fun j hj => hc j _ (HG.out j hj))
  clear hc hown HG HD
  go_loopw [7, 8, 9, 10] (fun m r e i wr => ∃ k : Nat, k ≤ 401 ∧ m = .int .u64 0 ∧ r = .int .i64 0 ∧ i = .int .i64 (k : Int) ∧ wr = w1) (fun _ _ _ i _ => 402 - (intOf i).toNat)
  case atStart => exact ⟨0, by omega, rfl, rfl, rfl, rfl⟩
  case round =>
    obtain ⟨k, hk, rfl, rfl, rfl, rfl⟩ := hrel
    rcases Nat.lt_or_ge k 128 with h1 | h1
    · have e0 := HC.out k h1
      go_wp2
      go_roundw
      case rel => exact ⟨k + 1, by omega, rfl, rfl, by go_num, trivial⟩
      case measure => simp [intOf]; omega
    · have h1' : 128 ≤ (k : Int) := by omega
      by_cases h2 : k = 401
      · subst h2
        go_wp2
        ((show bodyPost _ _ _ _ _ _); refine bodyPost_ret (by simp only [results, Tryz.results75]; go_simp; try rfl) rfl ?_)
        exact ⟨rfl, by (repeat' (first | (with_reducible exact Below.refl _ _) | (with_reducible assumption) | (with_reducible refine Below.new ?_ _) | (with_reducible refine Below.alloc ?_ ?_ _) | (with_reducible refine Below.drew ?_) | (with_reducible refine Below.drewN ?_ _) | (with_reducible refine Below.setCell ?_ ?_ _) | (refine Below.step ?_ (by assumption)) | go_size))⟩
      · have h2' : k < 401 := by omega
        go_wp2
        go_roundw
        case rel => exact ⟨k + 1, by omega, rfl, rfl, by go_num, trivial⟩
        case measure => simp [intOf]; omega
set_option maxHeartbeats 4000000 in
theorem rof_main (a : Int) (ha : I128 a) (ha0 : a ≠ 0) (n : Nat) (hn : 0 < n) (hn2 : n ≤ 20000000000) (w : World) :
    Calls Tryz.prog 75 #[(Value.agg #[.int .i64 (hiW (a)), .int .u64 (loW (a))]), .int .i64 (n : Int)] w fun e w' => e = .returned (.tuple #[.float .f64 (Ieee.double.word (decide (a < 0)) (ofR a.natAbs n)), .int .i64 0]) ∧ Below w.heap.size w w' := by
  obtain ⟨A, hA⟩ : ∃ A, a.natAbs = A := ⟨_, rfl⟩
  have hA0 : 0 < A := by omega
  have hA2 : A < 2 ^ 128 := by omega
  have HD := hid (fun W => rdigits_any a ha W)
  have HN := hid (fun W => rneg_any (hiW a) (loW a) W)
  rw [hi_neg ha] at HN
  rw [hA] at HD ⊢
  clear hA ha ha0
  generalize decide (a < 0) = neg at *
  generalize hiW a = H at *; generalize loW a = L at *
  obtain ⟨s1, s2, s3, s4⟩ := theI_spec hA0 hA2 hn (show n < 2 ^ 35 by omega)
  have s5 := quo_top hA0 hA2 hn (show n < 2 ^ 35 by omega)
  obtain ⟨I, hI⟩ : ∃ I, theI A n = I := ⟨_, rfl⟩
  have hof : ofR A n = (1202 - I) * 2 ^ 52 + (quo A n I + (upB A n I).toNat) := by unfold ofR; rw [hI]
  rw [hI] at s1 s2 s3 s4 s5
  rw [hof]
  obtain ⟨Z, hZ⟩ : ∃ Z, Ieee.double.word neg ((1202 - I) * 2 ^ 52 + (quo A n I + (upB A n I).toNat)) = Z := ⟨_, rfl⟩
  rw [hZ]
  have HZ := hid hZ
  clear hZ
  have HG := hid (fun j (hj : j < 128) => digI_get (A := A) hj)
  have HQ0 : Hid (quo A n 0 = 0 ∧ topA A 0 % n = 0) := by
    unfold Hid
    rw [quo_topA, topA_zero hA2]
    simp
  have HQS := hid (fun k => quo_last (A := A) hn k)
  have HUP := hid (upB_is (A := A) hn I)
  have HBT := hid (fun k => bitAt_lt A k)
  have HLL := hid (fun k => lastA_lt (A := A) (i := k) hn)
  have HLE : Hid (leftA A I ≤ 128) := by
    unfold Hid leftA
    have := sumD_le A (127 - I)
    split <;> omega
  have HS1 := hid s1; have HS2 := hid s2; have HS5 := hid s5
  clear hI hof hA0 hA2 s1 s2 s5
  generalize digI (dig 128 A) = DD at *
  have hn' : ¬ (n : Int) = 0 := by omega
  go_enter Tryz.func75, Tryz.ntmps75
  go_wp2_with (go_at_call 142; go_loud ((with_reducible refine (HD.out _).mono ?_); rintro e w1 ⟨v, rfl, hown, hw1⟩; obtain ⟨b, o, cap, rfl, hcap, hc⟩ := row_at hown (by decide)))
  have HC := hid (fun j hj => hc j _ (HG.out j hj))
  have s0 : (w.alloc (.cells #[.int .i64 H, .int .u64 L] 126)).cell? ⟨w.heap.size, 0, none⟩ = some (.int .i64 H) := by go_simp
  have s1 : (w.alloc (.cells #[.int .i64 H, .int .u64 L] 126)).cell? ⟨w.heap.size, 1, none⟩ = some (.int .u64 L) := by go_simp
  have e0 := cell_step s0 hw1; have e1 := cell_step s1 hw1
  clear hc hown HG HD s0 s1
  go_loopw [7, 8, 9, 10] (fun m r e i wr => ∃ k : Nat, k ≤ I ∧ m = .int .u64 (quo A n k : Nat) ∧ r = .int .i64 (topA A k % n : Nat) ∧ (0 < k → e = .int .i64 (128 - (k : Int))) ∧ i = .int .i64 (k : Int) ∧ wr = w1) (fun _ _ _ i _ => I - (intOf i).toNat)
  case atStart => exact ⟨0, by omega, by rw [HQ0.out.1]; rfl, by rw [HQ0.out.2]; rfl, fun h => absurd h (by omega), rfl, rfl⟩
  case round =>
    obtain ⟨k, hk, rfl, rfl, he, rfl, rfl⟩ := hrel
    have hmod : topA A k % n < n := Nat.mod_lt _ hn
    obtain ⟨q1, q2⟩ := HQS.out k
    have q3 := HBT.out k
    have q4 : lastA A n k = 2 * (topA A k % n) + bitAt A k := rfl
    have q5 := HLL.out k
    obtain ⟨X, hX⟩ : ∃ X, lastA A n k = X := ⟨_, rfl⟩
    rw [hX] at q1 q2 q4 q5
    have HX := hid hX
    obtain ⟨r, hr⟩ : ∃ r, topA A k % n = r := ⟨_, rfl⟩
    have HR := hid hr
    rw [hr] at hmod q4 ⊢
    by_cases hlt : k < I
    · have hm : quo A n k < 4503599627370496 := HS2.out k hlt
      obtain ⟨m, hM⟩ : ∃ m, quo A n k = m := ⟨_, rfl⟩
      rw [hM] at hm q1 ⊢
      obtain ⟨c, hc⟩ : ∃ c, X / n = c := ⟨_, rfl⟩
      have hc2 : c < 2 := by rw [← hc]; exact Nat.div_lt_of_lt_mul (by omega)
      obtain ⟨t, ht⟩ : ∃ t, X % n = t := ⟨_, rfl⟩
      rw [hc] at q1; rw [ht] at q2
      obtain ⟨mi, hmi⟩ : ∃ mi : Int, (m : Int) = mi := ⟨_, rfl⟩
      have hm1 : 0 ≤ mi := by omega
      have hm2 : mi < 4503599627370496 := by omega
      have Q1 : Hid (((quo A n (k + 1) : Nat) : Int) = 2 * mi + (c : Int)) := by unfold Hid; omega
      rw [hmi]
      have t1 : (X : Int).tdiv (n : Int) = (c : Int) := by rw [← hc]; rfl
      have t2 : (X : Int).tmod (n : Int) = (t : Int) := by rw [← ht]; rfl
      have t3 : (X : Int) / (n : Int) = (c : Int) := by rw [← hc]; rfl
      have t4 : (X : Int) % (n : Int) = (t : Int) := by rw [← ht]; rfl
      have Q2 := hid q2
      have hk2 : k < 215 := by omega
      clear he hX hr hM hc ht q1 q2 hk hm hmi
      rcases Nat.lt_or_ge k 128 with h1 | h1
      · have ec := HC.out k h1
        obtain ⟨d, hd⟩ : ∃ d, bitAt A k = d := ⟨_, rfl⟩
        rw [hd] at ec q3 q4
        clear hd
        have p1 : 2 * (r : Int) + (d : Int) = (X : Int) := by omega
        clear q4
        go_wp2
        go_roundw
        case rel => exact ⟨k + 1, by omega, by rw [Q1.out], by rw [Q2.out], by go_num, by go_num, trivial⟩
        case measure => simp [intOf]; omega
      · have h1' : 128 ≤ (k : Int) := by omega
        have hd : bitAt A k = 0 := by unfold bitAt; rw [if_neg (by omega)]
        rw [hd] at q4
        have p1 : 2 * (r : Int) = (X : Int) := by omega
        clear hd q4
        go_wp2
        go_roundw
        case rel => exact ⟨k + 1, by omega, by rw [Q1.out], by rw [Q2.out], by go_num, by go_num, trivial⟩
        case measure => simp [intOf]; omega
    · obtain rfl : k = I := by omega
      have he2 := he (by omega)
      subst he2
      have m1 := HS1.out; have m2 := HS5.out
      have hup := HUP.out
      rw [HX.out] at hup
      have HLF := hid (show leftA A k = if k < 128 then sumD A (127 - k) else 0 from rfl)
      have hle := HLE.out
      have hz := HZ.out
      obtain ⟨lf, hlf⟩ : ∃ lf, leftA A k = lf := ⟨_, rfl⟩
      rw [hlf] at hle hup HLF
      obtain ⟨u, hu⟩ : ∃ u, upB A n k = u := ⟨_, rfl⟩
      rw [hu] at hz hup
      have hu1 : u.toNat ≤ 1 := by cases u <;> decide
      have B1 := fun (h : quo A n k + u.toNat < 2 ^ 53) W => rbits_any neg (1203 - k) (quo A n k + u.toNat) (by omega) (by omega) (by omega) h W
      rw [show 1203 - k - 1 = 1202 - k by omega, hz, show ((1203 - k : Nat) : Int) - 1075 = 128 - (k : Int) by omega] at B1
      have B2 : quo A n k + u.toNat = 2 ^ 53 → ∀ W, Calls Tryz.prog 144 #[.bool neg, .int .u64 4503599627370496, .int .i64 (129 - (k : Int))] W fun e w' => e = .returned (.int .u64 (Z : Int)) ∧ w' = W := fun h W => by
        have := rbits_any neg (1204 - k) (2 ^ 52) (by omega) (by omega) (by decide) (by decide) W
        rw [show (1204 - k - 1) * 2 ^ 52 + 2 ^ 52 = (1202 - k) * 2 ^ 52 + (quo A n k + u.toNat) by rw [h]; omega, hz, show ((1204 - k : Nat) : Int) - 1075 = 129 - (k : Int) by omega] at this
        exact this
      obtain ⟨mi, hmi⟩ : ∃ mi : Int, ((quo A n k : Nat) : Int) = mi := ⟨_, rfl⟩
      have hm1 : 4503599627370496 ≤ mi := by omega
      have hm2 : mi < 9007199254740992 := by omega
      have hB : ((quo A n k + u.toNat : Nat) : Int) = mi + (u.toNat : Int) := by omega
      rw [hB] at B1
      replace B1 := hid (fun (h : mi + (u.toNat : Int) < 9007199254740992) W => B1 (by omega) W)
      replace B2 := hid (fun (h : mi + (u.toNat : Int) = 9007199254740992) W => B2 (by omega) W)
      have hodd : decide (quo A n k % 2 = 1) = decide (mi % 2 = 1) := by rw [Bool.eq_iff_iff]; simp; omega
      rw [hodd] at hup
      rw [hmi]
      replace hup := hid hup
      have Q4 := hid q4
      clear he hX hr m1 m2 q1 q2 hk hlt hB hodd hmi hz hu HUP HS1 HS2 HS5 HZ HLE HQ0 HQS q4
      obtain ⟨V, rfl⟩ : ∃ V, V = wr := ⟨_, rfl⟩
      go_upto_if 68 with fail
      go_cut [11, 12] (fun s11 s12 wx => s11 = .int .i64 (X : Int) ∧ s12 = .int .i64 (lf : Int) ∧ wx = V)
      case first =>
        clear B1 B2 hup
        rcases Nat.lt_or_ge k 128 with h1 | h1
        · have ec := HC.out k h1
          have q4 := Q4.out
          obtain ⟨d, hd⟩ : ∃ d, bitAt A k = d := ⟨_, rfl⟩
          rw [hd] at ec q3 q4
          clear hd
          have p1 : 2 * (r : Int) + (d : Int) = (X : Int) := by omega
          have p2 : 128 - (128 - (k : Int)) = (k : Int) := by omega
          have p3 : IntKind.i64.wrap (128 - (128 - (k : Int)) + 1) = ((k + 1 : Nat) : Int) := by simp only [IntKind.wrap_i64]; omega
          have hlf2 : sumD A (127 - k) = lf := by have := HLF.out; rw [if_pos h1] at this; exact this.symm
          have HL2 := hid hlf2
          clear q4 HLF hlf2
          go_wp2
          go_loopw [12, 13] (fun l i wr => ∃ j S : Nat, k + 1 ≤ j ∧ j ≤ 128 ∧ l = .int .i64 (S : Int) ∧ i = .int .i64 (j : Int) ∧ S + sumD A (128 - j) = lf ∧ wr = V) (fun _ i _ => 128 - (intOf i).toNat)
          case atStart => exact ⟨k + 1, 0, by omega, by omega, rfl, by go_num, by rw [← HL2.out, Nat.zero_add]; congr 1; omega, rfl⟩
          case round =>
            obtain ⟨j, S, hj1, hj2, rfl, rfl, hS, rfl⟩ := hrel
            rcases Nat.lt_or_ge j 128 with h2 | h2
            · have ej := HC.out j h2
              have hSS : S + (bitAt A j + sumD A (127 - j)) = lf := by
                rw [← hS]
                unfold bitAt
                rw [if_pos h2, show 128 - j = 127 - j + 1 by omega, sumD]
              obtain ⟨d2, hd2⟩ : ∃ d2, bitAt A j = d2 := ⟨_, rfl⟩
              rw [hd2] at ej hSS
              have HSS := hid hSS
              have hS2 : S ≤ 128 := by omega
              have hd3 : d2 ≤ 128 := by omega
              clear hS hSS hd2
              go_wp2
              go_roundw
              case rel => exact ⟨j + 1, S + d2, by omega, by omega, by go_num, by go_num, by have := HSS.out; rw [show 128 - (j + 1) = 127 - j by omega]; omega, trivial⟩
              case measure => simp [intOf]; omega
            · have h3 : 128 ≤ (j : Int) := by omega
              have hS' : S = lf := by rw [show 128 - j = 0 by omega, sumD] at hS; omega
              subst hS'
              clear hS
              go_wp2
              go_meet
              case rel => exact ⟨rfl, rfl, rfl⟩
        · have h1' : 128 ≤ (k : Int) := by omega
          have hlf2 : lf = 0 := by have := HLF.out; rw [if_neg (by omega)] at this; exact this
          have hd : bitAt A k = 0 := by unfold bitAt; rw [if_neg (by omega)]
          have q4 := Q4.out
          rw [hd] at q4
          have p1 : 2 * (r : Int) = (X : Int) := by omega
          subst hlf2
          clear hd q4 HLF
          go_wp2
          go_meet
          case rel => exact ⟨by rw [p1], rfl, rfl⟩
      case rest =>
        obtain ⟨rfl, rfl, rfl⟩ := hcut
        clear HC HBT HLL HX HR Q4 HLF
        rcases Nat.lt_trichotomy n X with h | h | h
        · have hu : u = true := by rw [hup.out]; simp [h]
          subst hu
          have h' : (n : Int) < (X : Int) := by omega
          simp only [Bool.toNat_true, Int.natCast_one] at B1 B2
          rcases Int.lt_or_le (mi + 1) 9007199254740992 with hb | hb
          · have BB := hid (fun W => B1.out hb W)
            have hb' : ¬ mi + 1 = 9007199254740992 := by omega
            clear B1 B2 hup
            go_wp2_with (first
              | (go_at_call 145; go_loud ((with_reducible refine (HN.out _).mono ?_); rintro e w3 ⟨rfl, hw3⟩))
              | (go_at_call 144; go_loud ((with_reducible refine (BB.out _).mono ?_); rintro e w4 ⟨rfl, rfl⟩)))
            ((show bodyPost _ _ _ _ _ _); refine bodyPost_ret (by simp only [results, Tryz.results75]; go_simp; try rfl) rfl ?_)
            exact ⟨rfl, by (repeat' (first | (with_reducible exact Below.refl _ _) | (with_reducible assumption) | (with_reducible refine Below.new ?_ _) | (with_reducible refine Below.alloc ?_ ?_ _) | (with_reducible refine Below.drew ?_) | (with_reducible refine Below.drewN ?_ _) | (with_reducible refine Below.setCell ?_ ?_ _) | (refine Below.step ?_ (by assumption)) | go_size))⟩
          · have hb' : mi + 1 = 9007199254740992 := by omega
            have BB := hid (fun W => B2.out hb' W)
            have p5 : 128 - (k : Int) + 1 = 129 - (k : Int) := by omega
            clear B1 B2 hup
            go_wp2_with (first
              | (go_at_call 145; go_loud ((with_reducible refine (HN.out _).mono ?_); rintro e w3 ⟨rfl, hw3⟩))
              | (go_at_call 144; go_loud ((with_reducible refine (BB.out _).mono ?_); rintro e w4 ⟨rfl, rfl⟩)))
            ((show bodyPost _ _ _ _ _ _); refine bodyPost_ret (by simp only [results, Tryz.results75]; go_simp; try rfl) rfl ?_)
            exact ⟨rfl, by (repeat' (first | (with_reducible exact Below.refl _ _) | (with_reducible assumption) | (with_reducible refine Below.new ?_ _) | (with_reducible refine Below.alloc ?_ ?_ _) | (with_reducible refine Below.drew ?_) | (with_reducible refine Below.drewN ?_ _) | (with_reducible refine Below.setCell ?_ ?_ _) | (refine Below.step ?_ (by assumption)) | go_size))⟩
        · subst h
          rcases Nat.eq_zero_or_pos lf with hl | hl
          · subst hl
            have hmn : 0 ≤ mi := by omega
            have htt : mi.tmod 2 = mi % 2 := Int.tmod_eq_emod_of_nonneg hmn
            rcases (show mi % 2 = 0 ∨ mi % 2 = 1 by omega) with hmm | hmm
            · have hu : u = false := by rw [hup.out]; simp [hmm]
              subst hu
              rw [hmm] at htt
              have hb' : ¬ mi = 9007199254740992 := by omega
              have BB := hid (fun W => B1.out (by simpa using hm2) W)
              rw [show mi + ((false.toNat : Nat) : Int) = mi by simp] at BB
              clear B1 B2 hup
              go_wp2_with (first
                | (go_at_call 145; go_loud ((with_reducible refine (HN.out _).mono ?_); rintro e w3 ⟨rfl, hw3⟩))
                | (go_at_call 144; go_loud ((with_reducible refine (BB.out _).mono ?_); rintro e w4 ⟨rfl, rfl⟩)))
              ((show bodyPost _ _ _ _ _ _); refine bodyPost_ret (by simp only [results, Tryz.results75]; go_simp; try rfl) rfl ?_)
              exact ⟨rfl, by (repeat' (first | (with_reducible exact Below.refl _ _) | (with_reducible assumption) | (with_reducible refine Below.new ?_ _) | (with_reducible refine Below.alloc ?_ ?_ _) | (with_reducible refine Below.drew ?_) | (with_reducible refine Below.drewN ?_ _) | (with_reducible refine Below.setCell ?_ ?_ _) | (refine Below.step ?_ (by assumption)) | go_size))⟩
            · have hu : u = true := by rw [hup.out]; simp [hmm]
              subst hu
              rw [hmm] at htt
              simp only [Bool.toNat_true, Int.natCast_one] at B1 B2
              rcases Int.lt_or_le (mi + 1) 9007199254740992 with hb | hb
              · have BB := hid (fun W => B1.out hb W)
                have hb' : ¬ mi + 1 = 9007199254740992 := by omega
                clear B1 B2 hup
                go_wp2_with (first
                  | (go_at_call 145; go_loud ((with_reducible refine (HN.out _).mono ?_); rintro e w3 ⟨rfl, hw3⟩))
                  | (go_at_call 144; go_loud ((with_reducible refine (BB.out _).mono ?_); rintro e w4 ⟨rfl, rfl⟩)))
                ((show bodyPost _ _ _ _ _ _); refine bodyPost_ret (by simp only [results, Tryz.results75]; go_simp; try rfl) rfl ?_)
                exact ⟨rfl, by (repeat' (first | (with_reducible exact Below.refl _ _) | (with_reducible assumption) | (with_reducible refine Below.new ?_ _) | (with_reducible refine Below.alloc ?_ ?_ _) | (with_reducible refine Below.drew ?_) | (with_reducible refine Below.drewN ?_ _) | (with_reducible refine Below.setCell ?_ ?_ _) | (refine Below.step ?_ (by assumption)) | go_size))⟩
              · have hb' : mi + 1 = 9007199254740992 := by omega
                have BB := hid (fun W => B2.out hb' W)
                have p5 : 128 - (k : Int) + 1 = 129 - (k : Int) := by omega
                clear B1 B2 hup
                go_wp2_with (first
                  | (go_at_call 145; go_loud ((with_reducible refine (HN.out _).mono ?_); rintro e w3 ⟨rfl, hw3⟩))
                  | (go_at_call 144; go_loud ((with_reducible refine (BB.out _).mono ?_); rintro e w4 ⟨rfl, rfl⟩)))
                ((show bodyPost _ _ _ _ _ _); refine bodyPost_ret (by simp only [results, Tryz.results75]; go_simp; try rfl) rfl ?_)
                exact ⟨rfl, by (repeat' (first | (with_reducible exact Below.refl _ _) | (with_reducible assumption) | (with_reducible refine Below.new ?_ _) | (with_reducible refine Below.alloc ?_ ?_ _) | (with_reducible refine Below.drew ?_) | (with_reducible refine Below.drewN ?_ _) | (with_reducible refine Below.setCell ?_ ?_ _) | (refine Below.step ?_ (by assumption)) | go_size))⟩
          · have hu : u = true := by rw [hup.out]; simp [hl]
            subst hu
            have hl' : 0 < (lf : Int) := by omega
            simp only [Bool.toNat_true, Int.natCast_one] at B1 B2
            rcases Int.lt_or_le (mi + 1) 9007199254740992 with hb | hb
            · have BB := hid (fun W => B1.out hb W)
              have hb' : ¬ mi + 1 = 9007199254740992 := by omega
              clear B1 B2 hup
              go_wp2_with (first
                | (go_at_call 145; go_loud ((with_reducible refine (HN.out _).mono ?_); rintro e w3 ⟨rfl, hw3⟩))
                | (go_at_call 144; go_loud ((with_reducible refine (BB.out _).mono ?_); rintro e w4 ⟨rfl, rfl⟩)))
              ((show bodyPost _ _ _ _ _ _); refine bodyPost_ret (by simp only [results, Tryz.results75]; go_simp; try rfl) rfl ?_)
              exact ⟨rfl, by (repeat' (first | (with_reducible exact Below.refl _ _) | (with_reducible assumption) | (with_reducible refine Below.new ?_ _) | (with_reducible refine Below.alloc ?_ ?_ _) | (with_reducible refine Below.drew ?_) | (with_reducible refine Below.drewN ?_ _) | (with_reducible refine Below.setCell ?_ ?_ _) | (refine Below.step ?_ (by assumption)) | go_size))⟩
            · have hb' : mi + 1 = 9007199254740992 := by omega
              have BB := hid (fun W => B2.out hb' W)
              have p5 : 128 - (k : Int) + 1 = 129 - (k : Int) := by omega
              clear B1 B2 hup
              go_wp2_with (first
                | (go_at_call 145; go_loud ((with_reducible refine (HN.out _).mono ?_); rintro e w3 ⟨rfl, hw3⟩))
                | (go_at_call 144; go_loud ((with_reducible refine (BB.out _).mono ?_); rintro e w4 ⟨rfl, rfl⟩)))
              ((show bodyPost _ _ _ _ _ _); refine bodyPost_ret (by simp only [results, Tryz.results75]; go_simp; try rfl) rfl ?_)
              exact ⟨rfl, by (repeat' (first | (with_reducible exact Below.refl _ _) | (with_reducible assumption) | (with_reducible refine Below.new ?_ _) | (with_reducible refine Below.alloc ?_ ?_ _) | (with_reducible refine Below.drew ?_) | (with_reducible refine Below.drewN ?_ _) | (with_reducible refine Below.setCell ?_ ?_ _) | (refine Below.step ?_ (by assumption)) | go_size))⟩
        · have hu : u = false := by rw [hup.out]; simp; omega
          subst hu
          have h' : (X : Int) < (n : Int) := by omega
          have h'' : ¬ (X : Int) = (n : Int) := by omega
          have hb' : ¬ mi = 9007199254740992 := by omega
          have BB := hid (fun W => B1.out (by simpa using hm2) W)
          rw [show mi + ((false.toNat : Nat) : Int) = mi by simp] at BB
          clear B1 B2 hup
          go_wp2_with (first
            | (go_at_call 145; go_loud ((with_reducible refine (HN.out _).mono ?_); rintro e w3 ⟨rfl, hw3⟩))
            | (go_at_call 144; go_loud ((with_reducible refine (BB.out _).mono ?_); rintro e w4 ⟨rfl, rfl⟩)))
          ((show bodyPost _ _ _ _ _ _); refine bodyPost_ret (by simp only [results, Tryz.results75]; go_simp; try rfl) rfl ?_)
          exact ⟨rfl, by (repeat' (first | (with_reducible exact Below.refl _ _) | (with_reducible assumption) | (with_reducible refine Below.new ?_ _) | (with_reducible refine Below.alloc ?_ ?_ _) | (with_reducible refine Below.drew ?_) | (with_reducible refine Below.drewN ?_ _) | (with_reducible refine Below.setCell ?_ ?_ _) | (refine Below.step ?_ (by assumption)) | go_size))⟩
end Go.Proofs.YtejleplhmkmegaaGreatDoor
/- Ratio: the reference's 'Of' and 'Float', whole. -/
namespace Go.Proofs.YtejleplhmkmegaaGreatDoor
set_option linter.unusedVariables false
set_option linter.unusedSimpArgs false
set_option maxRecDepth 100000
open Go.ChangeShapes Go.WideShapes Go.ChangeAt Go.RowKit Go.Fl
attribute [local go_sem] Oper.semAt_some

theorem rof_any (a n : Int) (ha : I128 a) (hn : -9223372036854775808 ≤ n ∧ n ≤ 9223372036854775807) (w : World) :
    Calls Tryz.prog 75 #[(Value.agg #[.int .i64 (hiW (a)), .int .u64 (loW (a))]), .int .i64 n] w fun e w' => e = .returned (.tuple #[.float .f64 (ofF a n), .int .i64 (ofE n)]) ∧ Below w.heap.size w w' := by
  by_cases hbad : n < 0 ∨ 20000000000 < n
  · have e1 : ofF a n = 0 := by unfold ofF; rw [of_bad hbad]; rfl
    have e2 : ofE n = 90 := by unfold ofE; rw [of_bad hbad]; rfl
    rw [e1, e2]
    generalize hiW a = H at *; generalize loW a = L at *
    clear e1 e2 ha
    rcases Int.lt_or_le n 0 with h1 | h1
    · clear hbad
      go_enter Tryz.func75, Tryz.ntmps75
      go_wp2
      ((show bodyPost _ _ _ _ _ _); refine bodyPost_ret (by simp only [results, Tryz.results75]; go_simp; try rfl) rfl ?_)
      exact ⟨rfl, by (repeat' (first | (with_reducible exact Below.refl _ _) | (with_reducible assumption) | (with_reducible refine Below.new ?_ _) | (with_reducible refine Below.alloc ?_ ?_ _) | (with_reducible refine Below.drew ?_) | (with_reducible refine Below.drewN ?_ _) | (with_reducible refine Below.setCell ?_ ?_ _) | (refine Below.step ?_ (by assumption)) | go_size))⟩
    · have h2 : 20000000000 < n := by omega
      clear hbad
      go_enter Tryz.func75, Tryz.ntmps75
      go_wp2
      ((show bodyPost _ _ _ _ _ _); refine bodyPost_ret (by simp only [results, Tryz.results75]; go_simp; try rfl) rfl ?_)
      exact ⟨rfl, by (repeat' (first | (with_reducible exact Below.refl _ _) | (with_reducible assumption) | (with_reducible refine Below.new ?_ _) | (with_reducible refine Below.alloc ?_ ?_ _) | (with_reducible refine Below.drew ?_) | (with_reducible refine Below.drewN ?_ _) | (with_reducible refine Below.setCell ?_ ?_ _) | (refine Below.step ?_ (by assumption)) | go_size))⟩
  · have hg : ofBad n = false := of_good (by omega) (by omega)
    have h1 : 0 ≤ n := by omega
    have h2 : n ≤ 20000000000 := by omega
    have e2 : ofE n = 0 := by unfold ofE; rw [hg]; rfl
    rw [e2]
    by_cases hn0 : n = 0
    · subst hn0
      by_cases ha0 : a = 0
      · have e1 : ofF a 0 = 9221120237041090561 := by unfold ofF; rw [hg, ha0]; rfl
        rw [e1, ha0, show hiW 0 = 0 by decide, show loW 0 = 0 by decide]
        clear e1 e2 ha hg hbad ha0 h1 h2 hn
        go_enter Tryz.func75, Tryz.ntmps75
        go_wp2_with (go_at_call 140; ((with_reducible refine (nan_any _).mono ?_); rintro e w2 ⟨rfl, rfl⟩))
        all_goals
          ((show bodyPost _ _ _ _ _ _); refine bodyPost_ret (by simp only [results, Tryz.results75]; go_simp; try rfl) rfl ?_)
          exact ⟨rfl, by (repeat' (first | (with_reducible exact Below.refl _ _) | (with_reducible assumption) | (with_reducible refine Below.new ?_ _) | (with_reducible refine Below.alloc ?_ ?_ _) | (with_reducible refine Below.drew ?_) | (with_reducible refine Below.drewN ?_ _) | (with_reducible refine Below.setCell ?_ ?_ _) | (refine Below.step ?_ (by assumption)) | go_size))⟩
      · have e1 : ofF a 0 = Ieee.double.word (decide (a < 0)) (2047 * 2 ^ 52) := by unfold ofF; rw [hg, if_neg (by simp), if_pos rfl, if_neg ha0]
        rw [e1]
        have hw : a = hiW a * 18446744073709551616 + loW a := by unfold hiW loW; omega
        have hne : ¬ (hiW a = 0 ∧ loW a = 0) := fun h => ha0 (by rw [hw, h.1, h.2]; rfl)
        have hd := hi_neg ha
        rw [← hd]
        have hR := hiW_is a
        generalize hiW a = H at *; generalize loW a = L at *
        have hsh : IntKind.u64.wrap H / 9223372036854775808 = if H < 0 then 1 else 0 := by
          rw [IntKind.wrap_u64]; split <;> omega
        have hEq : (H == 0 && L == 0) = false := by simpa using hne
        clear e1 e2 ha hg hbad ha0 h1 h2 hn hw hd
        rcases Int.lt_or_le H 0 with h | h
        · rw [if_pos h] at hsh
          rw [show decide (H < 0) = true by simp [h]]
          have IN := hid (fun W => inf_any (-1) W)
          rw [show decide ((-1 : Int) < 0) = true from rfl] at IN
          generalize Ieee.double.word true (2047 * 2 ^ 52) = Z at *
          go_enter Tryz.func75, Tryz.ntmps75
          go_wp2_with (go_at_call 141; go_loud ((with_reducible refine (IN.out _).mono ?_); rintro e w2 ⟨rfl, rfl⟩))
          all_goals
            ((show bodyPost _ _ _ _ _ _); refine bodyPost_ret (by simp only [results, Tryz.results75]; go_simp; try rfl) rfl ?_)
            exact ⟨rfl, by (repeat' (first | (with_reducible exact Below.refl _ _) | (with_reducible assumption) | (with_reducible refine Below.new ?_ _) | (with_reducible refine Below.alloc ?_ ?_ _) | (with_reducible refine Below.drew ?_) | (with_reducible refine Below.drewN ?_ _) | (with_reducible refine Below.setCell ?_ ?_ _) | (refine Below.step ?_ (by assumption)) | go_size))⟩
        · rw [if_neg (by omega)] at hsh
          have hsh2 : H / 9223372036854775808 = 0 := by omega
          rw [show decide (H < 0) = false by simp; omega]
          have IN := hid (fun W => inf_any 1 W)
          rw [show decide ((1 : Int) < 0) = false from rfl] at IN
          generalize Ieee.double.word false (2047 * 2 ^ 52) = Z at *
          go_enter Tryz.func75, Tryz.ntmps75
          go_wp2_with (go_at_call 141; go_loud ((with_reducible refine (IN.out _).mono ?_); rintro e w2 ⟨rfl, rfl⟩))
          all_goals
            ((show bodyPost _ _ _ _ _ _); refine bodyPost_ret (by simp only [results, Tryz.results75]; go_simp; try rfl) rfl ?_)
            exact ⟨rfl, by (repeat' (first | (with_reducible exact Below.refl _ _) | (with_reducible assumption) | (with_reducible refine Below.new ?_ _) | (with_reducible refine Below.alloc ?_ ?_ _) | (with_reducible refine Below.drew ?_) | (with_reducible refine Below.drewN ?_ _) | (with_reducible refine Below.setCell ?_ ?_ _) | (refine Below.step ?_ (by assumption)) | go_size))⟩
    · obtain ⟨N, rfl⟩ := Int.eq_ofNat_of_zero_le h1
      by_cases ha0 : a = 0
      · subst ha0
        have e1 : ofF 0 N = 0 := by unfold ofF; rw [hg, if_neg (by simp), if_neg hn0, if_pos rfl]
        rw [e1]
        exact rof_zero N (by omega) (by omega) w
      · have e1 : ofF a N = Ieee.double.word (decide (a < 0)) (ofR a.natAbs N) := by unfold ofF; rw [hg, if_neg (by simp), if_neg hn0, if_neg ha0]; rfl
        rw [e1]
        exact rof_main a ha ha0 N (by omega) (by omega) w
theorem rfloat_any (a : Int) (ha : I128 a) (w : World) :
    Calls Tryz.prog 197 #[(Value.agg #[.int .i64 (hiW (a)), .int .u64 (loW (a))])] w fun e w' => e = .returned (.float .f64 (ofF a 1)) ∧ Below w.heap.size w w' := by
  have O := hid (fun W => rof_any a 1 ha (by decide) W)
  generalize ofF a 1 = Z at *
  generalize hiW a = H at *; generalize loW a = L at *
  clear ha
  go_enter Tryz.func197, Tryz.ntmps197
  go_wp2_with (go_at_call 75; ((with_reducible refine (O.out _).mono ?_); rintro e w1 ⟨rfl, hw1⟩))
  go_ret
  exact ⟨rfl, by (repeat' (first | (with_reducible exact Below.refl _ _) | (with_reducible assumption) | (with_reducible refine Below.new ?_ _) | (with_reducible refine Below.alloc ?_ ?_ _) | (with_reducible refine Below.drew ?_) | (with_reducible refine Below.drewN ?_ _) | (with_reducible refine Below.setCell ?_ ?_ _) | (refine Below.step ?_ (by assumption)) | go_size))⟩
end Go.Proofs.YtejleplhmkmegaaGreatDoor
/- Ratio: the order of floating numbers; the reference's. -/
namespace Go.Proofs.YtejleplhmkmegaaGreatDoor
set_option linter.unusedVariables false
set_option linter.unusedSimpArgs false
set_option maxRecDepth 100000
open Go.ChangeShapes Go.WideShapes Go.ChangeAt Go.RowKit Go.Fl
attribute [local go_sem] fbits_run frombits_lit Int.toNat_natCast ord_lt ord_eq ord_gt ord_ne

/-- A number by which floating ones are in order. -/
def keyI (b : Nat) : Int := if isNan b then -9223372036854775808 else if sgn b then -1 - ((b % 2 ^ 63 : Nat) : Int) else ((b % 2 ^ 63 : Nat) : Int)
theorem keyI_range (b : Nat) : -9223372036854775808 ≤ keyI b ∧ keyI b ≤ 9223372036854775807 := by
  unfold keyI
  (repeat' split) <;> omega
theorem rkey_any (b : Nat) (hb : b < 2 ^ 64) (w : World) : Calls Tryz.prog 196 #[.float .f64 b] w fun e w' => e = .returned (.int .i64 (keyI b)) ∧ w' = w := by
  have H := ord_ne b b
  rw [eqB_self, Bool.not_not] at H
  cases hn : isNan b
  · rw [hn] at H
    cases hs : sgn b
    · have hk : keyI b = (b : Int) := by unfold keyI; rw [hn, hs]; unfold sgn at hs; simp at hs ⊢; omega
      have h1 : (b : Int) / 9223372036854775808 = 0 := by unfold sgn at hs; simp at hs; omega
      have h2 : IntKind.i64.wrap (b : Int) = (b : Int) := by simp only [IntKind.wrap_i64]; omega
      rw [hk]
      clear hk hb hn hs
      go_enter Tryz.func196, Tryz.ntmps196
      go_wp2
      go_ret
      exact ⟨rfl, rfl⟩
    · have hk : keyI b = -1 - ((b % 2 ^ 63 : Nat) : Int) := by unfold keyI; rw [hn, hs]; rfl
      have h1 : (b : Int) / 9223372036854775808 = 1 := by unfold sgn at hs; simp at hs; omega
      have h3 : bits .and .u64 (b : Int) 9223372036854775807 = ((b % 2 ^ 63 : Nat) : Int) := by
        have := bits_and b 9223372036854775807 hb (by decide)
        rw [show (9223372036854775807 : Nat) = 2 ^ 63 - 1 by decide, Nat.and_two_pow_sub_one_eq_mod] at this
        exact this
      rw [hk]
      obtain ⟨m, hm⟩ : ∃ m, b % 2 ^ 63 = m := ⟨_, rfl⟩
      have hm2 : (m : Int) ≤ 9223372036854775807 := by omega
      rw [hm] at h3 ⊢
      clear hk hb hn hs hm
      go_enter Tryz.func196, Tryz.ntmps196
      go_wp2
      go_ret
      exact ⟨rfl, rfl⟩
  · rw [hn] at H
    have hk : keyI b = -9223372036854775808 := by unfold keyI; rw [hn]; rfl
    rw [hk]
    clear hk hb hn
    go_enter Tryz.func196, Tryz.ntmps196
    go_wp2
    go_ret
    exact ⟨rfl, rfl⟩
theorem rcompare_any (a b : Nat) (ha : a < 2 ^ 64) (hb : b < 2 ^ 64) (w : World) : Calls Tryz.prog 146 #[.float .f64 a, .float .f64 b] w fun e w' => e = .returned (.int .i64 (sgnI (keyI a) (keyI b))) ∧ w' = w := by
  have A := hid (fun W => rkey_any a ha W); have B := hid (fun W => rkey_any b hb W)
  generalize keyI a = x at *; generalize keyI b = y at *
  clear ha hb
  rcases Int.lt_trichotomy x y with h | h | h
  · rw [sgn_lt h]
    go_enter Tryz.func146, Tryz.ntmps146
    go_wp2_with (go_at_call 196; first | (((with_reducible refine (A.out _).mono ?_); rintro e w1 ⟨rfl, rfl⟩)) | (((with_reducible refine (B.out _).mono ?_); rintro e w1 ⟨rfl, rfl⟩)))
    go_ret
    exact ⟨rfl, rfl⟩
  · subst h
    rw [sgn_eq rfl]
    go_enter Tryz.func146, Tryz.ntmps146
    go_wp2_with (go_at_call 196; first | (((with_reducible refine (A.out _).mono ?_); rintro e w1 ⟨rfl, rfl⟩)) | (((with_reducible refine (B.out _).mono ?_); rintro e w1 ⟨rfl, rfl⟩)))
    go_ret
    exact ⟨rfl, rfl⟩
  · rw [sgn_gt h]
    have h2 : ¬ x < y := by omega
    go_enter Tryz.func146, Tryz.ntmps146
    go_wp2_with (go_at_call 196; first | (((with_reducible refine (A.out _).mono ?_); rintro e w1 ⟨rfl, rfl⟩)) | (((with_reducible refine (B.out _).mono ?_); rintro e w1 ⟨rfl, rfl⟩)))
    go_ret
    exact ⟨rfl, rfl⟩
theorem rsame_any (a b : Nat) (ha : a < 2 ^ 64) (hb : b < 2 ^ 64) (w : World) : Calls Tryz.prog 199 #[.float .f64 a, .float .f64 b] w fun e w' => e = .returned (.bool (decide (keyI a = keyI b))) ∧ w' = w := by
  have C := hid (fun W => rcompare_any a b ha hb W)
  have hs : decide (keyI a = keyI b) = (sgnI (keyI a) (keyI b) == 0) := by rw [Bool.eq_iff_iff]; simp [sgn_zero]
  rw [hs]
  generalize sgnI (keyI a) (keyI b) = s at *
  clear hs ha hb
  go_enter Tryz.func199, Tryz.ntmps199
  go_wp2_with (go_at_call 146; ((with_reducible refine (C.out _).mono ?_); rintro e w1 ⟨rfl, rfl⟩))
  go_ret
  exact ⟨by first | rfl | simp, rfl⟩
end Go.Proofs.YtejleplhmkmegaaGreatDoor
/- Ratio: the program's order of floating numbers. -/
namespace Go.Proofs.YtejleplhmkmegaaGreatDoor
set_option linter.unusedVariables false
set_option linter.unusedSimpArgs false
set_option maxRecDepth 100000
open Go.ChangeShapes Go.WideShapes Go.ChangeAt Go.RowKit Go.Fl
attribute [local go_sem] fbits_run frombits_lit Int.toNat_natCast ord_lt ord_eq ord_gt ord_ne

def cF (a b : Nat) : Int := if isNan a then (if isNan b then 0 else -1) else if isNan b then 1 else sgnI (skey a) (skey b)
def zF (a b : Nat) : Int := if eqB a 0 && eqB b 0 then 1 else 0
def gF (a : Nat) : Int := if sgn a then 0 else 1
theorem eq_zero_is {a : Nat} (h : isNan a = false) : eqB a 0 = decide (a % 2 ^ 63 = 0) := by
  unfold eqB
  rw [h, Bool.eq_iff_iff]
  unfold skey isNan sgn
  simp
  split <;> omega
theorem keys_is (a b : Nat) : (if cF a b = 0 then zF a b * sgnI (gF a) (gF b) else cF a b) = sgnI (keyI a) (keyI b) := by
  cases ha : isNan a
  · cases hb : isNan b
    · have h1 := eq_zero_is ha; have h2 := eq_zero_is hb
      unfold cF zF gF keyI
      rw [ha, hb, h1, h2]
      unfold isNan at ha hb
      simp at ha hb
      unfold skey
      obtain ⟨x, hx⟩ : ∃ x, a % 2 ^ 63 = x := ⟨_, rfl⟩
      obtain ⟨y, hy⟩ : ∃ y, b % 2 ^ 63 = y := ⟨_, rfl⟩
      rw [hx, hy]
      by_cases hx0 : x = 0 <;> by_cases hy0 : y = 0 <;> cases sgn a <;> cases sgn b <;> simp [sgnI, hx0, hy0] <;> (repeat' split) <;> omega
    · have := keyI_range a
      have hk : keyI b = -9223372036854775808 := by unfold keyI; rw [hb]; rfl
      have hka : -9223372036854775808 < keyI a := by
        unfold keyI
        rw [ha]
        unfold isNan at ha
        simp at ha ⊢
        split <;> omega
      unfold cF
      rw [ha, hb, hk, sgn_gt hka]
      simp
  · have hk : keyI a = -9223372036854775808 := by unfold keyI; rw [ha]; rfl
    cases hb : isNan b
    · have hkb : -9223372036854775808 < keyI b := by
        unfold keyI
        rw [hb]
        unfold isNan at hb
        simp at hb ⊢
        split <;> omega
      unfold cF
      rw [ha, hb, hk, sgn_lt hkb]
      simp
    · have hkb : keyI b = -9223372036854775808 := by unfold keyI; rw [hb]; rfl
      have hz : eqB a 0 = false := by unfold eqB; rw [ha]; rfl
      unfold cF zF
      rw [ha, hb, hk, hkb, hz, sgn_eq rfl]
      simp
theorem nan_f (a : Nat) (w : World) : Calls Tryz.prog 164 #[.float .f64 a] w fun e w' => e = .returned (.bool (isNan a)) ∧ w = w' := by
  have H := ord_ne a a
  rw [eqB_self, Bool.not_not] at H
  go_enter Tryz.func164, Tryz.ntmps164
  go_wp2
  go_ret
  exact ⟨rfl, rfl⟩
theorem nan_n (a : Int) (w : World) : Calls Tryz.prog 165 #[.int .i64 a] w fun e w' => e = .returned (.bool false) ∧ w = w' := by
  go_enter Tryz.func165, Tryz.ntmps165
  go_wp2
  go_ret
  exact ⟨ret_bool (by simp), rfl⟩
theorem cmp_n (a b : Int) (w : World) : Calls Tryz.prog 97 #[.int .i64 a, .int .i64 b] w fun e w' => e = .returned (.int .i64 (sgnI a b)) ∧ w = w' := by
  rcases Int.lt_trichotomy a b with h | h | h
  · rw [sgn_lt h]
    go_enter Tryz.func97, Tryz.ntmps97
    go_wp2_with (go_at_call 165; (with_reducible refine (nan_n _ _).mono ?_); rintro e w1 ⟨rfl, rfl⟩)
    go_ret
    exact ⟨rfl, rfl⟩
  · rw [sgn_eq h]
    subst h
    go_enter Tryz.func97, Tryz.ntmps97
    go_wp2_with (go_at_call 165; (with_reducible refine (nan_n _ _).mono ?_); rintro e w1 ⟨rfl, rfl⟩)
    go_ret
    exact ⟨rfl, rfl⟩
  · rw [sgn_gt h]
    go_enter Tryz.func97, Tryz.ntmps97
    go_wp2_with (go_at_call 165; (with_reducible refine (nan_n _ _).mono ?_); rintro e w1 ⟨rfl, rfl⟩)
    go_ret
    exact ⟨rfl, rfl⟩
theorem cmp_f (a b : Nat) (w : World) : Calls Tryz.prog 95 #[.float .f64 a, .float .f64 b] w fun e w' => e = .returned (.int .i64 (cF a b)) ∧ w = w' := by
  have A := hid (fun W => nan_f a W); have B := hid (fun W => nan_f b W)
  have L1 := ord_lt a b; have L2 := ord_gt a b
  unfold cF
  cases ha : isNan a <;> rw [ha] at A <;> cases hb : isNan b <;> rw [hb] at B
  · rw [if_neg (by simp), if_neg (by simp)]
    have h1 : ltB a b = decide (skey a < skey b) := by unfold ltB; rw [ha, hb]; simp
    have h2 : ltB b a = decide (skey b < skey a) := by unfold ltB; rw [ha, hb]; simp
    rw [h1] at L1; rw [h2] at L2
    generalize skey a = x at *; generalize skey b = y at *
    clear ha hb
    rcases Int.lt_trichotomy x y with h | h | h
    · rw [sgn_lt h]
      rw [show decide (x < y) = true by simp [h]] at L1 h1
      rw [show decide (y < x) = false by simp; omega] at L2 h2
      go_enter Tryz.func95, Tryz.ntmps95
      go_wp2_with (go_at_call 164; first | ((with_reducible refine (A.out _).mono ?_); rintro e w1 ⟨rfl, rfl⟩) | ((with_reducible refine (B.out _).mono ?_); rintro e w1 ⟨rfl, rfl⟩))
      go_ret
      exact ⟨rfl, rfl⟩
    · subst h
      rw [sgn_eq rfl]
      rw [show decide (x < x) = false by simp] at L1 L2 h1 h2
      go_enter Tryz.func95, Tryz.ntmps95
      go_wp2_with (go_at_call 164; first | ((with_reducible refine (A.out _).mono ?_); rintro e w1 ⟨rfl, rfl⟩) | ((with_reducible refine (B.out _).mono ?_); rintro e w1 ⟨rfl, rfl⟩))
      go_ret
      exact ⟨rfl, rfl⟩
    · rw [sgn_gt h]
      rw [show decide (x < y) = false by simp; omega] at L1 h1
      rw [show decide (y < x) = true by simp [h]] at L2 h2
      go_enter Tryz.func95, Tryz.ntmps95
      go_wp2_with (go_at_call 164; first | ((with_reducible refine (A.out _).mono ?_); rintro e w1 ⟨rfl, rfl⟩) | ((with_reducible refine (B.out _).mono ?_); rintro e w1 ⟨rfl, rfl⟩))
      go_ret
      exact ⟨rfl, rfl⟩
  all_goals
    clear L1 L2 ha hb
    go_enter Tryz.func95, Tryz.ntmps95
    go_wp2_with (go_at_call 164; first | ((with_reducible refine (A.out _).mono ?_); rintro e w1 ⟨rfl, rfl⟩) | ((with_reducible refine (B.out _).mono ?_); rintro e w1 ⟨rfl, rfl⟩))
    go_ret
    exact ⟨rfl, rfl⟩
theorem sign_any (a : Nat) (ha : a < 2 ^ 64) (w : World) : Calls Tryz.prog 98 #[.float .f64 a] w fun e w' => e = .returned (.int .i64 (gF a)) ∧ w = w' := by
  have A := hid (fun W => signbit_any a ha W)
  unfold gF
  clear ha
  cases h : sgn a <;> rw [h] at A
  all_goals
    clear h
    go_enter Tryz.func98, Tryz.ntmps98
    go_wp2_with (go_at_call 166; ((with_reducible refine (A.out _).mono ?_); rintro e w1 ⟨rfl, rfl⟩))
    go_ret
    exact ⟨rfl, rfl⟩
end Go.Proofs.YtejleplhmkmegaaGreatDoor
/- Ratio: the program's 'Compare' and 'Same'. -/
namespace Go.Proofs.YtejleplhmkmegaaGreatDoor
set_option linter.unusedVariables false
set_option linter.unusedSimpArgs false
set_option maxRecDepth 100000
open Go.ChangeShapes Go.WideShapes Go.ChangeAt Go.RowKit Go.Fl
attribute [local go_sem] fbits_run frombits_lit Int.toNat_natCast ord_lt ord_eq ord_gt ord_ne

theorem zero_two (x y : Nat) (b cap : Nat) (w : World) (h0 : w.cell? ⟨b, 0, none⟩ = some (.float .f64 x)) (h1 : w.cell? ⟨b, 1, none⟩ = some (.float .f64 y)) :
    Calls Tryz.prog 96 #[.slice (some ⟨b, 0, none⟩) 2 cap] w fun e w' => e = .returned (.int .i64 (zF x y)) ∧ w = w' := by
  have X := ord_ne x 0; have Y := ord_ne y 0
  unfold zF
  cases hx : eqB x 0 <;> rw [hx] at X
  · clear hx Y
    go_enter Tryz.func96, Tryz.ntmps96
    go_wp2
    refine wp_loop_rounds 3 ?_
    rw [rounds_succ]
    go_wp2
    go_ret
    exact ⟨rfl, rfl⟩
  · cases hy : eqB y 0 <;> rw [hy] at Y
    · clear hx hy
      go_enter Tryz.func96, Tryz.ntmps96
      go_wp2
      refine wp_loop_rounds 3 ?_
      rw [rounds_succ]
      go_wp2
      rw [rounds_succ]
      go_wp2
      go_ret
      exact ⟨rfl, rfl⟩
    · clear hx hy
      go_enter Tryz.func96, Tryz.ntmps96
      go_wp2
      refine wp_loop_rounds 3 ?_
      rw [rounds_succ]
      go_wp2
      rw [rounds_succ]
      go_wp2
      rw [rounds_succ]
      go_wp2
      go_ret
      exact ⟨rfl, rfl⟩
theorem gF_sgn (a b : Nat) : -1 ≤ sgnI (gF a) (gF b) ∧ sgnI (gF a) (gF b) ≤ 1 := by unfold sgnI; (repeat' split) <;> omega
theorem rtCompare_any (a b : Nat) (ha : a < 2 ^ 64) (hb : b < 2 ^ 64) (w : World) : Calls Tryz.prog 49 #[.float .f64 a, .float .f64 b] w fun e w' => e = .returned (.int .i64 (sgnI (keyI a) (keyI b))) ∧ Below w.heap.size w w' := by
  rw [← keys_is]
  have C := hid (fun W => cmp_f a b W); have Z := hid (fun c cap W h0 h1 => zero_two a b c cap W h0 h1)
  have SA := hid (fun W => sign_any a ha W); have SB := hid (fun W => sign_any b hb W)
  have G := hid (fun W => cmp_n (gF a) (gF b) W)
  have hz : zF a b = 0 ∨ zF a b = 1 := by unfold zF; split <;> simp
  have hg := gF_sgn a b
  have hm : IntKind.i64.wrap (zF a b * sgnI (gF a) (gF b)) = zF a b * sgnI (gF a) (gF b) := by
    simp only [IntKind.wrap_i64]
    rcases hz with h | h <;> rw [h] <;> omega
  obtain ⟨s, hs⟩ : ∃ s, sgnI (gF a) (gF b) = s := ⟨_, rfl⟩
  rw [hs] at G hm ⊢
  generalize zF a b = z at *
  generalize gF a = x at *; generalize gF b = y at *
  generalize cF a b = c at *
  obtain ⟨p, hp⟩ : ∃ p, z * s = p := ⟨_, rfl⟩
  rw [hp] at hm ⊢
  have HW : Hid (wrap64 (z * s) = p) := by unfold Hid; rw [hp]; simp only [IntKind.wrap_i64] at hm; unfold wrap64; omega
  clear ha hb hz hg hs hp
  go_enter Tryz.func49, Tryz.ntmps49
  go_wp2_with (first
    | (go_at_call 95; go_loud ((with_reducible refine (C.out _).mono ?_); rintro e w1 ⟨rfl, rfl⟩))
    | (go_at_call 96; go_loud ((with_reducible refine (Z.out _ _ _ (by go_simp) (by go_simp)).mono ?_); rintro e w2 ⟨rfl, rfl⟩))
    | (go_at_call 98; first | ((with_reducible refine (SA.out _).mono ?_); rintro e w3 ⟨rfl, rfl⟩) | ((with_reducible refine (SB.out _).mono ?_); rintro e w3 ⟨rfl, rfl⟩))
    | (go_at_call 97; go_loud ((with_reducible refine (G.out _).mono ?_); rintro e w4 ⟨rfl, rfl⟩))
    | (go_at_call 94; go_loud (refine (or_two c p _ _ _ (by go_simp) (by go_simp; exact HW.out)).mono ?_; rintro e w5 ⟨rfl, rfl⟩)))
  all_goals
    go_ret
    exact ⟨rfl, by (repeat' (first | (with_reducible exact Below.refl _ _) | (with_reducible assumption) | (with_reducible refine Below.new ?_ _) | (with_reducible refine Below.alloc ?_ ?_ _) | (with_reducible refine Below.drew ?_) | (with_reducible refine Below.drewN ?_ _) | (with_reducible refine Below.setCell ?_ ?_ _) | (refine Below.step ?_ (by assumption)) | go_size))⟩
theorem rtSame_any (a b : Nat) (ha : a < 2 ^ 64) (hb : b < 2 ^ 64) (w : World) : Calls Tryz.prog 88 #[.float .f64 a, .float .f64 b] w fun e w' => e = .returned (.bool (decide (keyI a = keyI b))) ∧ Below w.heap.size w w' := by
  have C := hid (fun W => rtCompare_any a b ha hb W)
  have hs : decide (keyI a = keyI b) = (sgnI (keyI a) (keyI b) == 0) := by rw [Bool.eq_iff_iff]; simp [sgn_zero]
  rw [hs]
  generalize sgnI (keyI a) (keyI b) = s at *
  clear hs ha hb
  go_enter Tryz.func88, Tryz.ntmps88
  go_wp2_with (go_at_call 49; ((with_reducible refine (C.out _).mono ?_); rintro e w1 ⟨rfl, hw1⟩))
  go_ret
  exact ⟨by first | rfl | simp, by (repeat' (first | (with_reducible exact Below.refl _ _) | (with_reducible assumption) | (with_reducible refine Below.new ?_ _) | (with_reducible refine Below.alloc ?_ ?_ _) | (with_reducible refine Below.drew ?_) | (with_reducible refine Below.drewN ?_ _) | (with_reducible refine Below.setCell ?_ ?_ _) | (refine Below.step ?_ (by assumption)) | go_size))⟩
end Go.Proofs.YtejleplhmkmegaaGreatDoor
