/- Ratio: which words are which numbers' texts, plainly. -/
import Derived.Test.YtcdfbcmhikhnjaaDoorRtT
import Derived.Test.YtcdfbcmhikhnjaaDoorRtJ
namespace Go.Proofs.YtcdfbcmhikhnjaaDoor
set_option linter.unusedVariables false
set_option linter.unusedSimpArgs false
set_option maxRecDepth 100000
open Go.ChangeShapes Go.WideShapes Go.ChangeAt Go.RowKit Go.Fl

def wordsL : List (List UInt8 × Nat) := [([45, 48], 9223372036854775808), ([45, 105, 110, 102], 18442240474082181120), ([48], 0), ([105, 110, 102], 9218868437227405312), ([110, 97, 110], 9221120237041090561)]
theorem wordsD_is : wordsD = .map (wordsL.map fun p => (sB p.1, .lit (.int .u64 p.2))) := by rfl
theorem word_at {kl : Lit} {c : Nat} (h : ∀ zd, wordsD.atKey kl zd = .lit (.int .u64 c)) : ∃ p ∈ wordsL, kl = sB p.1 ∧ c = p.2 := by
  have h1 := h (.lit (.bool false))
  rw [wordsD_is] at h1
  unfold DataW.atKey at h1
  dsimp only at h1
  split at h1
  · rename_i p hp
    have hm := List.mem_of_find?_eq_some hp
    have hk := List.find?_some hp
    obtain ⟨q, hq, rfl⟩ := List.mem_map.1 hm
    refine ⟨q, hq, (WideAt.sameKey_eq hk).symm, ?_⟩
    simp at h1
    omega
  · simp at h1
theorem has_words {p : List UInt8 × Nat} (hp : p ∈ wordsL) : Maps.has wordsD (sB p.1) = true := by
  rw [wordsD_is]
  refine List.any_eq_true.2 ⟨(sB p.1, .lit (.int .u64 p.2)), List.mem_map.2 ⟨p, hp, rfl⟩, ?_⟩
  show (p.1 == p.1) = true
  simp
theorem key_nan {b : Nat} (h : keyI b = -9223372036854775808) : isNan b = true := by
  unfold keyI at h
  cases hn : isNan b with
  | true => rfl
  | false =>
    rw [hn] at h
    have hn' : b % 2 ^ 63 ≤ 2047 * 2 ^ 52 := by simpa [isNan] using hn
    simp only [Bool.false_eq_true, if_false] at h
    split at h <;> omega
theorem key_num {b : Nat} (h : keyI b ≠ -9223372036854775808) : isNan b = false ∧ (if sgn b then keyI b = -1 - ((b % 2 ^ 63 : Nat) : Int) else keyI b = ((b % 2 ^ 63 : Nat) : Int)) := by
  unfold keyI at h ⊢
  cases hn : isNan b with
  | true => rw [hn] at h; simp at h
  | false =>
    refine ⟨rfl, ?_⟩
    cases sgn b <;> simp
theorem key_text {b : Nat} {p : List UInt8 × Nat} (hp : p ∈ wordsL) (h : keyI p.2 = keyI b) : textB b = p.1 := by
  have k1 : keyI 9223372036854775808 = -1 := by decide +kernel
  have k2 : keyI 18442240474082181120 = -1 - 9218868437227405312 := by decide +kernel
  have k3 : keyI 0 = 0 := by decide +kernel
  have k4 : keyI 9218868437227405312 = 9218868437227405312 := by decide +kernel
  have k5 : keyI 9221120237041090561 = -9223372036854775808 := by decide +kernel
  have main : ∀ (s : Bool) (r : Nat), r ≤ 9218868437227405312 → keyI b = (if s then -1 - (r : Int) else (r : Int)) → textB b = if s then 45 :: bodyT r else bodyT r := by
    intro s r hr hk
    obtain ⟨n1, n2⟩ := key_num (b := b) (by rw [hk]; split <;> omega)
    unfold textB
    rw [n1]
    cases hs : sgn b
    · rw [hs] at n2
      simp only [Bool.false_eq_true, if_false] at n2 ⊢
      cases s
      · simp only [Bool.false_eq_true, if_false] at hk ⊢
        have : b % 2 ^ 63 = r := by omega
        rw [this]
      · simp only [if_true] at hk
        omega
    · rw [hs] at n2
      simp only [Bool.false_eq_true, if_false, if_true] at n2 ⊢
      cases s
      · simp only [Bool.false_eq_true, if_false] at hk
        omega
      · simp only [if_true] at hk ⊢
        have : b % 2 ^ 63 = r := by omega
        rw [this]
  unfold wordsL at hp
  simp only [List.mem_cons, List.not_mem_nil, or_false] at hp
  rcases hp with rfl | rfl | rfl | rfl | rfl
  · exact main true 0 (by decide) (by rw [← h]; exact k1)
  · exact main true 9218868437227405312 (by decide) (by rw [← h]; exact k2)
  · exact main false 0 (by decide) (by rw [← h]; exact k3)
  · exact main false 9218868437227405312 (by decide) (by rw [← h]; exact k4)
  · have := key_nan (b := b) (by rw [← h]; exact k5)
    unfold textB
    rw [this]
    rfl
theorem key_other {b : Nat} (h : ∀ p ∈ wordsL, keyI p.2 ≠ keyI b) : isNan b = false ∧ 0 < b % 2 ^ 63 ∧ b % 2 ^ 63 < 9218868437227405312 := by
  have k1 : keyI 9223372036854775808 = -1 := by decide +kernel
  have k2 : keyI 18442240474082181120 = -1 - 9218868437227405312 := by decide +kernel
  have k3 : keyI 0 = 0 := by decide +kernel
  have k4 : keyI 9218868437227405312 = 9218868437227405312 := by decide +kernel
  have k5 : keyI 9221120237041090561 = -9223372036854775808 := by decide +kernel
  have h1 := h ([45, 48], 9223372036854775808) (by unfold wordsL; simp)
  have h2 := h ([45, 105, 110, 102], 18442240474082181120) (by unfold wordsL; simp)
  have h3 := h ([48], 0) (by unfold wordsL; simp)
  have h4 := h ([105, 110, 102], 9218868437227405312) (by unfold wordsL; simp)
  have h5 := h ([110, 97, 110], 9221120237041090561) (by unfold wordsL; simp)
  dsimp only at h1 h2 h3 h4 h5
  rw [k1] at h1; rw [k2] at h2; rw [k3] at h3; rw [k4] at h4; rw [k5] at h5
  obtain ⟨n1, n2⟩ := key_num (b := b) (fun e => h5 e.symm)
  refine ⟨n1, ?_⟩
  unfold isNan at n1
  have n1' : b % 2 ^ 63 ≤ 2047 * 2 ^ 52 := by simpa using n1
  split at n2 <;> omega
end Go.Proofs.YtcdfbcmhikhnjaaDoor
