/- Packed lists: the program's 'Unpack' whole: it answers as 'punV' says. -/
import Derived.Test.YtpgifmccajcgkaaDoorPkI
namespace Go.Proofs.YtpgifmccajcgkaaDoor
set_option linter.unusedVariables false
set_option linter.unusedSimpArgs false
open Go.ChangeShapes Go.WideShapes Go.ChangeAt Go.RowKit Go.Shelf

theorem extract_all (s : ByteArray) : s.extract 0 s.size = s := by simp
theorem punpack_is (am an : Addr) (s : ByteArray) (hs : s.size ≤ 1000000) {C T : Nat} {xs : List Nat} (hp : punV (bytesOf s) = (C, xs, T)) (w : World) (hsent : Sent am an w) :
    Calls Tryd.prog 36 #[.string s] w fun e w' => ∃ v, e = .returned (.tuple #[v, .string (s.extract T s.size), .int .i64 (C : Int)]) ∧
      w'.ownsRow (w.heap.size + 1) 3 1 v xs.length ((intsOf xs).map (Value.int .i64)) ∧ (v = .slice none 0 0 ↔ xs = []) ∧ Below w.heap.size w w' := by
  have hbad : ∀ c : Nat, punV (bytesOf s) = (c, [], 0) → (Calls Tryd.prog 36 #[.string s] w fun e w' => e = .returned (.tuple #[.slice none 0 0, .string s, .int .i64 (c : Int)]) ∧ Below w.heap.size w w') →
      Calls Tryd.prog 36 #[.string s] w fun e w' => ∃ v, e = .returned (.tuple #[v, .string (s.extract T s.size), .int .i64 (C : Int)]) ∧
      w'.ownsRow (w.heap.size + 1) 3 1 v xs.length ((intsOf xs).map (Value.int .i64)) ∧ (v = .slice none 0 0 ↔ xs = []) ∧ Below w.heap.size w w' := by
    intro c hc h
    rw [hp] at hc
    obtain ⟨rfl, rfl, rfl⟩ : C = c ∧ xs = [] ∧ T = 0 := by simpa using hc
    refine h.mono ?_
    rintro e w' ⟨rfl, hb⟩
    exact ⟨_, by rw [extract_all], World.ownsRow_nil _ _ _ _, by simp, hb⟩
  obtain ⟨c, N, K, hv⟩ : ∃ c n k, nextV (bytesOf s) = (c, n, k) := ⟨_, _, _, rfl⟩
  by_cases hc : c = 0
  · subst hc
    by_cases hN : N ≤ 1000
    · obtain ⟨h1, h2, h3⟩ := nextV_ok hv
      by_cases hK : K = s.size
      · exact hbad _ (punV_none hv hN (by rw [hK, ← size_bytesOf']; exact List.drop_length)) (pun_early am an s hs hv w hsent 21 (.inr (.inr ⟨rfl, hN, hK, rfl⟩)))
      · have hKs : K ≤ s.size := by
          have := (nextV_is (bytesOf s)).2
          rw [hv, size_bytesOf'] at this
          exact this
        obtain ⟨r, hr⟩ : ∃ r, s.extract K s.size = r := ⟨_, rfl⟩
        have hrz : r.size = s.size - K := by rw [← hr]; simp
        have hr0 : 0 < r.size := by omega
        have hbr : bytesOf r = (bytesOf s).drop K := by rw [← hr, bytesOf_extract]
        have hbh := bytes_head r hr0
        have hd : (bytesOf s).drop K = (r[0]'hr0) :: bytesOf (r.extract 1 r.size) := by rw [← hbr]; exact hbh
        obtain ⟨b, hb⟩ : ∃ b, (r[0]'hr0).toNat = b := ⟨_, rfl⟩
        by_cases hb16 : b ≤ 16
        · have hat := punV_at hv hN hd (by omega)
          rw [hb] at hat
          obtain ⟨Z, hZ⟩ : ∃ Z, (N * b + 7) / 8 = Z := ⟨_, rfl⟩
          rw [hZ] at hat
          have htl : (bytesOf (r.extract 1 r.size)).length = r.size - 1 := by rw [size_bytesOf']; simp
          rw [htl] at hat
          by_cases hZr : 1 + Z ≤ r.size
          · rw [if_neg (by omega)] at hat
            have htk : (bytesOf (r.extract 1 r.size)).take Z = bytesOf (r.extract 1 (1 + Z)) := by
              rw [bytesOf_extract]
              show (r.data.toList.drop 1).take Z = (r.extract 1 (1 + Z)).data.toList
              simp
            rw [htk] at hat
            refine (pun_main am an s hs hv hN r hr hr0 b hb hb16 Z hZ hZr _ rfl w hsent _ rfl).mono ?_
            rintro e w' ⟨v, rfl, hgood, hbel⟩
            obtain ⟨g, hg⟩ : ∃ g, (decide (valD ((digsB (bytesOf (r.extract 1 (1 + Z)))).drop (N * b)) = 0) && decide (widN (getN b N (digsB (bytesOf (r.extract 1 (1 + Z))))) = b)) = g := ⟨_, rfl⟩
            rw [hg] at hgood ⊢
            cases g with
            | true =>
              rw [if_pos (by simpa using hg)] at hat
              rw [hp] at hat
              obtain ⟨rfl, rfl, rfl⟩ : C = 0 ∧ xs = _ ∧ T = _ := by simpa using hat
              obtain ⟨g1, g2⟩ := hgood rfl
              rw [getN_length]
              refine ⟨v, ?_, g1, g2.trans ?_, hbel⟩
              · simp only [if_true]
                rw [← hr, extract_extract_end s K (1 + Z), ← Nat.add_assoc]
                rfl
              · rw [← List.length_eq_zero_iff, getN_length]
            | false =>
              rw [if_neg (by simpa using hg)] at hat
              rw [hp] at hat
              obtain ⟨rfl, rfl, rfl⟩ : C = 40 ∧ xs = [] ∧ T = 0 := by simpa using hat
              exact ⟨.slice none 0 0, by rw [extract_all]; rfl, World.ownsRow_nil _ _ _ _, by simp, hbel⟩
          · rw [if_pos (by omega)] at hat
            exact hbad _ hat (pun_head am an s hs hv hN r hr hr0 w hsent 21 (.inr ⟨by omega, by rw [hb, hZ]; omega, rfl⟩))
        · exact hbad _ (punV_wide hv hN hd (by omega)) (pun_head am an s hs hv hN r hr hr0 w hsent 40 (.inl ⟨by omega, rfl⟩))
    · exact hbad _ (punV_many hv (by omega)) (pun_early am an s hs hv w hsent 40 (.inr (.inl ⟨rfl, by omega, rfl⟩)))
  · exact hbad _ (punV_next hv hc) (pun_early am an s hs hv w hsent c (.inl ⟨hc, rfl⟩))
end Go.Proofs.YtpgifmccajcgkaaDoor
