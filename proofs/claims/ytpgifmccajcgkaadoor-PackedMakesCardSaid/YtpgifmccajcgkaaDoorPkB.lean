/- Packed lists, plain: widths, a list's bytes, lists of bytes. -/
import Derived.Test.YtpgifmccajcgkaaDoorPkA
import Derived.Test.YtpgifmccajcgkaaDoorVarG
namespace Go.Proofs.YtpgifmccajcgkaaDoor
set_option linter.unusedVariables false

def okW (xs : List Int) : Bool := decide (xs.length ≤ 1000) && xs.all fun x => decide (0 ≤ x ∧ x ≤ 65535)
def natsOf (xs : List Int) : List Nat := xs.map Int.toNat
def widN (ns : List Nat) : Nat := blen (maxL ns)
/-- A list's bytes. -/
def packBy (ns : List Nat) : List UInt8 := putB ns.length ++ UInt8.ofNat (widN ns) :: packD (widN ns) ns
/-- The list of bytes: the code, the numbers, how many bytes they have. -/
def punV (s : List UInt8) : Nat × List Nat × Nat :=
  if (nextV s).1 ≠ 0 then ((nextV s).1, [], 0)
  else if 1000 < (nextV s).2.1 then (40, [], 0)
  else match s.drop (nextV s).2.2 with
    | [] => (21, [], 0)
    | b :: t =>
      if 16 < b.toNat then (40, [], 0)
      else if t.length < ((nextV s).2.1 * b.toNat + 7) / 8 then (21, [], 0)
      else if valD ((digsB (t.take (((nextV s).2.1 * b.toNat + 7) / 8))).drop ((nextV s).2.1 * b.toNat)) = 0 ∧ widN (getN b.toNat (nextV s).2.1 (digsB (t.take (((nextV s).2.1 * b.toNat + 7) / 8)))) = b.toNat then
        (0, getN b.toNat (nextV s).2.1 (digsB (t.take (((nextV s).2.1 * b.toNat + 7) / 8))), (nextV s).2.2 + 1 + ((nextV s).2.1 * b.toNat + 7) / 8)
      else (40, [], 0)
abbrev small (ns : List Nat) : Prop := ∀ x ∈ ns, x ≤ 65535

theorem widN_le {ns : List Nat} (h : small ns) : widN ns ≤ 16 := blen_le (maxL_lt fun x hx => by have := h x hx; have h16 : (2 : Nat) ^ 16 = 65536 := (by decide); omega)
theorem widN_lt {ns : List Nat} : ∀ x ∈ ns, x < 2 ^ widN ns := fun x hx => Nat.lt_of_le_of_lt (maxL_le hx) (blen_lt _)
theorem packBy_length (ns : List Nat) : (packBy ns).length = (putB ns.length).length + 1 + (ns.length * widN ns + 7) / 8 := by
  simp [packBy, packD_length]; omega

theorem punV_at {s : List UInt8} {n k : Nat} {b : UInt8} {t : List UInt8} (h : nextV s = (0, n, k)) (hn : n ≤ 1000) (hd : s.drop k = b :: t) (hb : b.toNat ≤ 16) :
    punV s = if t.length < (n * b.toNat + 7) / 8 then (21, [], 0)
      else if valD ((digsB (t.take ((n * b.toNat + 7) / 8))).drop (n * b.toNat)) = 0 ∧ widN (getN b.toNat n (digsB (t.take ((n * b.toNat + 7) / 8)))) = b.toNat then
        (0, getN b.toNat n (digsB (t.take ((n * b.toNat + 7) / 8))), k + 1 + (n * b.toNat + 7) / 8)
      else (40, [], 0) := by
  unfold punV
  rw [h]
  simp only [ne_eq, not_true_eq_false, if_false]
  rw [if_neg (by omega), hd]
  simp only
  rw [if_neg (by omega)]
theorem punV_bad {s : List UInt8} (h : (punV s).1 ≠ 0) : punV s = ((punV s).1, [], 0) := by
  unfold punV at h ⊢
  split
  · rfl
  · split
    · rfl
    · split
      · rfl
      · split
        · rfl
        · split
          · rfl
          · split
            · simp_all
            · rfl

theorem pun_pack {ns : List Nat} (hl : ns.length ≤ 1000) (h : small ns) (r : List UInt8) : punV (packBy ns ++ r) = (0, ns, (packBy ns).length) := by
  have hw := widN_le h
  have hx := nextV_putB (n := ns.length) (by omega) (UInt8.ofNat (widN ns) :: packD (widN ns) ns ++ r)
  have e : packBy ns ++ r = putB ns.length ++ (UInt8.ofNat (widN ns) :: packD (widN ns) ns ++ r) := by simp [packBy]
  have hb : (UInt8.ofNat (widN ns)).toNat = widN ns := by simp; omega
  have hd : (putB ns.length ++ (UInt8.ofNat (widN ns) :: packD (widN ns) ns ++ r)).drop (putB ns.length).length = UInt8.ofNat (widN ns) :: (packD (widN ns) ns ++ r) := by rw [List.drop_left]; rfl
  rw [e, punV_at hx hl hd (by omega), hb]
  have hpl := packD_length (widN ns) ns
  have ht : (packD (widN ns) ns ++ r).take ((ns.length * widN ns + 7) / 8) = packD (widN ns) ns := by rw [← hpl, List.take_left]
  rw [if_neg (by rw [List.length_append, hpl]; omega), ht]
  have hg : digsB (packD (widN ns) ns) = flatD (widN ns) ns ++ List.replicate (padN (ns.length * widN ns)) 0 := by
    unfold packD
    rw [digsB_bytesD _ (padD_is (flatD_is _ _)) (padD_length _).1]
    unfold padD; rw [flatD_length]
  rw [hg, getN_flatD ns _ widN_lt]
  have hz : (flatD (widN ns) ns ++ List.replicate (padN (ns.length * widN ns)) 0).drop (ns.length * widN ns) = List.replicate (padN (ns.length * widN ns)) 0 := by
    rw [← flatD_length, List.drop_left]
  rw [hz, valD_replicate, if_pos ⟨rfl, rfl⟩, packBy_length]
theorem pun_ok {s : List UInt8} {xs : List Nat} {t : Nat} (h : punV s = (0, xs, t)) : s = packBy xs ++ s.drop t ∧ xs.length ≤ 1000 ∧ small xs ∧ t = (packBy xs).length := by
  obtain ⟨c, n, k, hv⟩ : ∃ c n k, nextV s = (c, n, k) := ⟨_, _, _, rfl⟩
  by_cases hc : c = 0
  · subst hc
    obtain ⟨h1, h2, h3⟩ := nextV_ok hv
    by_cases hn : n ≤ 1000
    · cases hd : s.drop k with
      | nil =>
        unfold punV at h
        rw [hv] at h
        simp only [ne_eq, not_true_eq_false, if_false] at h
        rw [if_neg (by omega), hd] at h
        simp at h
      | cons b r =>
        by_cases hb : b.toNat ≤ 16
        · rw [punV_at hv hn hd hb] at h
          split at h
          · simp at h
          · rename_i hlen
            split at h
            · rename_i hok
              simp only [Prod.mk.injEq, true_and] at h
              obtain ⟨rfl, rfl⟩ := h
              obtain ⟨hz, hw⟩ := hok
              have hbl : (r.take ((n * b.toNat + 7) / 8)).length = (n * b.toNat + 7) / 8 := by simp; omega
              have hpk := (packD_getN (w := b.toNat) (n := n) _ hbl).2 hz
              obtain ⟨X, hX⟩ : ∃ X, getN b.toNat n (digsB (r.take ((n * b.toNat + 7) / 8))) = X := ⟨_, rfl⟩
              have hXl : X.length = n := by rw [← hX]; exact getN_length _ _ _
              have hXs : ∀ x ∈ X, x < 2 ^ b.toNat := by
                rw [← hX]; exact getN_lt n _ (digsB_is _) (by rw [digsB_length, hbl]; omega)
              rw [hX] at hw hpk ⊢
              have hpb : packBy X = putB n ++ b :: r.take ((n * b.toNat + 7) / 8) := by
                unfold packBy
                rw [hXl, hw, hpk]
                simp
              refine ⟨?_, by omega, fun x hx => ?_, ?_⟩
              · rw [hpb]
                conv => lhs; rw [h1, hd]
                have e2 : s.drop (k + 1 + (n * b.toNat + 7) / 8) = r.drop ((n * b.toNat + 7) / 8) := by
                  rw [show k + 1 + (n * b.toNat + 7) / 8 = k + (1 + (n * b.toNat + 7) / 8) by omega, ← List.drop_drop, hd, Nat.add_comm 1, List.drop_succ_cons]
                rw [e2, List.append_assoc, List.cons_append, List.take_append_drop]
              · have h5 := hXs x hx
                have h6 : (2 : Nat) ^ b.toNat ≤ 2 ^ 16 := Nat.pow_le_pow_right (by decide) hb
                have : (2 : Nat) ^ 16 = 65536 := by decide
                omega
              · rw [hpb, h3]; simp; omega
            · simp at h
        · unfold punV at h
          rw [hv] at h
          simp only [ne_eq, not_true_eq_false, if_false] at h
          rw [if_neg (by omega), hd] at h
          simp only at h
          rw [if_pos (by omega)] at h
          simp at h
    · unfold punV at h
      rw [hv] at h
      simp only [ne_eq, not_true_eq_false, if_false] at h
      rw [if_pos (by omega)] at h
      simp at h
  · unfold punV at h
    rw [hv] at h
    simp only [ne_eq] at h
    rw [if_pos hc] at h
    simp only [Prod.mk.injEq] at h
    exact absurd h.1 hc
theorem pun_short {ns : List Nat} (hl : ns.length ≤ 1000) (h : small ns) {t : Nat} (ht : t < (packBy ns).length) : punV ((packBy ns).take t) = (21, [], 0) := by
  have hw := widN_le h
  have hb : (UInt8.ofNat (widN ns)).toNat = widN ns := by simp; omega
  rcases Nat.lt_or_ge t (putB ns.length).length with h1 | h1
  · have e : (packBy ns).take t = (putB ns.length).take t := by unfold packBy; rw [List.take_append_of_le_length (by omega)]
    rw [e, punV, nextV_short (by omega) h1]
    simp
  · have e : (packBy ns).take t = putB ns.length ++ (UInt8.ofNat (widN ns) :: packD (widN ns) ns).take (t - (putB ns.length).length) := by
      unfold packBy; rw [List.take_append, List.take_of_length_le h1]
    have hx := nextV_putB (n := ns.length) (by omega) ((UInt8.ofNat (widN ns) :: packD (widN ns) ns).take (t - (putB ns.length).length))
    rw [e]
    cases hq : t - (putB ns.length).length with
    | zero =>
      rw [hq] at hx
      unfold punV
      rw [hx]
      simp only [ne_eq, not_true_eq_false, if_false]
      rw [if_neg (by omega), List.drop_left]
      rfl
    | succ q =>
      rw [hq, List.take_succ_cons] at hx
      have hd : (putB ns.length ++ UInt8.ofNat (widN ns) :: (packD (widN ns) ns).take q).drop (putB ns.length).length = UInt8.ofNat (widN ns) :: (packD (widN ns) ns).take q := by rw [List.drop_left]
      rw [List.take_succ_cons, punV_at hx hl hd (by omega), hb, if_pos]
      rw [packBy_length] at ht
      simp [packD_length]; omega
theorem pun_code (s : List UInt8) : (punV s).1 = 0 ∨ (punV s).1 = 20 ∨ (punV s).1 = 21 ∨ (punV s).1 = 40 := by
  unfold punV
  split
  · rcases nextV_code s with h | h | h <;> simp [h]
  · split
    · simp
    · split
      · simp
      · split
        · simp
        · split
          · simp
          · split <;> simp
end Go.Proofs.YtpgifmccajcgkaaDoor
