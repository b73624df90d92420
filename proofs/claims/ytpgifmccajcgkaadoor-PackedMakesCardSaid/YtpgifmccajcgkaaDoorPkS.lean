/- Packed lists: the reference's 'Unpack' whole; its 'Pack', of any list. -/
import Derived.Test.YtpgifmccajcgkaaDoorPkR
namespace Go.Proofs.YtpgifmccajcgkaaDoor
set_option linter.unusedVariables false
set_option linter.unusedSimpArgs false
open Go.ChangeShapes Go.WideShapes Go.ChangeAt Go.RowKit Go.Joins

theorem rpunpack_is (s : ByteArray) (hs : s.size ≤ 1000000) {C T : Nat} {xs : List Nat} (hp : punV (bytesOf s) = (C, xs, T)) (w : World) :
    Calls Tryd.prog 38 #[.string s] w fun e w' => ∃ v, e = .returned (.tuple #[v, .string (s.extract T s.size), .int .i64 (C : Int)]) ∧
      w'.ownsRow w.heap.size 3 1 v xs.length ((intsOf xs).map (Value.int .i64)) ∧ (v = .slice none 0 0 ↔ xs = []) ∧ Below w.heap.size w w' := by
  have hbad : ∀ c : Nat, punV (bytesOf s) = (c, [], 0) → (Calls Tryd.prog 38 #[.string s] w fun e w' => e = .returned (.tuple #[.slice none 0 0, .string s, .int .i64 (c : Int)]) ∧ Below w.heap.size w w') →
      Calls Tryd.prog 38 #[.string s] w fun e w' => ∃ v, e = .returned (.tuple #[v, .string (s.extract T s.size), .int .i64 (C : Int)]) ∧
      w'.ownsRow w.heap.size 3 1 v xs.length ((intsOf xs).map (Value.int .i64)) ∧ (v = .slice none 0 0 ↔ xs = []) ∧ Below w.heap.size w w' := by
    intro c hc h
    rw [hp] at hc
    obtain ⟨rfl, rfl, rfl⟩ : C = c ∧ xs = [] ∧ T = 0 := by simpa using hc
    refine h.mono ?_
    rintro e w' ⟨rfl, hb⟩
    exact ⟨_, by rw [extract_all], World.ownsRow_nil _ _ _ _, by simp, hb⟩
  obtain ⟨c, N, K, hv⟩ : ∃ c n k, nextV (bytesOf s) = (c, n, k) := ⟨_, _, _, rfl⟩
  by_cases hc : c = 0
  · subst hc
    by_cases hN : N ≤ 1000
    · obtain ⟨h1, h2, h3⟩ := nextV_ok hv
      by_cases hK : K = s.size
      · exact hbad _ (punV_none hv hN (by rw [hK, ← size_bytesOf']; exact List.drop_length)) (rpun_early s hs hv w 21 (.inr (.inr ⟨rfl, hN, hK, rfl⟩)))
      · have hKs : K ≤ s.size := by
          have := (nextV_is (bytesOf s)).2
          rw [hv, size_bytesOf'] at this
          exact this
        obtain ⟨r, hr⟩ : ∃ r, s.extract K s.size = r := ⟨_, rfl⟩
        have hrz : r.size = s.size - K := by rw [← hr]; simp
        have hr0 : 0 < r.size := by omega
        have hbr : bytesOf r = (bytesOf s).drop K := by rw [← hr, bytesOf_extract]
        have hbh := bytes_head r hr0
        have hd : (bytesOf s).drop K = (r[0]'hr0) :: bytesOf (r.extract 1 r.size) := by rw [← hbr]; exact hbh
        obtain ⟨b, hb⟩ : ∃ b, (r[0]'hr0).toNat = b := ⟨_, rfl⟩
        by_cases hb16 : b ≤ 16
        · have hat := punV_at hv hN hd (by omega)
          rw [hb] at hat
          obtain ⟨Z, hZ⟩ : ∃ Z, (N * b + 7) / 8 = Z := ⟨_, rfl⟩
          rw [hZ] at hat
          have htl : (bytesOf (r.extract 1 r.size)).length = r.size - 1 := by rw [size_bytesOf']; simp
          rw [htl] at hat
          by_cases hZr : 1 + Z ≤ r.size
          · rw [if_neg (by omega)] at hat
            have htk : (bytesOf (r.extract 1 r.size)).take Z = bytesOf (r.extract 1 (1 + Z)) := by
              rw [bytesOf_extract]
              show (r.data.toList.drop 1).take Z = (r.extract 1 (1 + Z)).data.toList
              simp
            rw [htk] at hat
            refine (rpun_main s hs hv hN r hr hr0 b hb hb16 Z hZ hZr _ rfl w _ rfl).mono ?_
            rintro e w' ⟨v, rfl, hgood, hbel⟩
            obtain ⟨g, hg⟩ : ∃ g, (decide (valD ((digsB (bytesOf (r.extract 1 (1 + Z)))).drop (N * b)) = 0) && decide (widN (getN b N (digsB (bytesOf (r.extract 1 (1 + Z))))) = b)) = g := ⟨_, rfl⟩
            rw [hg] at hgood ⊢
            cases g with
            | true =>
              rw [if_pos (by simpa using hg)] at hat
              rw [hp] at hat
              obtain ⟨rfl, rfl, rfl⟩ : C = 0 ∧ xs = _ ∧ T = _ := by simpa using hat
              obtain ⟨g1, g2⟩ := hgood rfl
              rw [getN_length]
              refine ⟨v, ?_, g1, g2.trans ?_, hbel⟩
              · simp only [if_true]
                rw [← hr, extract_extract_end s K (1 + Z), ← Nat.add_assoc]
                rfl
              · rw [← List.length_eq_zero_iff, getN_length]
            | false =>
              rw [if_neg (by simpa using hg)] at hat
              rw [hp] at hat
              obtain ⟨rfl, rfl, rfl⟩ : C = 40 ∧ xs = [] ∧ T = 0 := by simpa using hat
              exact ⟨.slice none 0 0, by rw [extract_all]; rfl, World.ownsRow_nil _ _ _ _, by simp, hbel⟩
          · rw [if_pos (by omega)] at hat
            exact hbad _ hat (rpun_head s hs hv hN r hr hr0 w 21 (.inr ⟨by omega, by rw [hb, hZ]; omega, rfl⟩))
        · exact hbad _ (punV_wide hv hN hd (by omega)) (rpun_head s hs hv hN r hr hr0 w 40 (.inl ⟨by omega, rfl⟩))
    · exact hbad _ (punV_many hv (by omega)) (rpun_early s hs hv w 40 (.inr (.inl ⟨rfl, by omega, rfl⟩)))
  · exact hbad _ (punV_next hv hc) (rpun_early s hs hv w c (.inl ⟨hc, rfl⟩))

set_option maxRecDepth 100000 in
theorem refPack_bad (ao : Option Addr) (cap : Nat) (ys : List Int) (W : World) (hr : RowAt W ao ys) (hM : ys.length ≤ 1000000) (h4 : ∀ k, k < ys.length → I64 (ys[k]?.getD 0)) (hok : okW ys = false) :
    Calls Tryd.prog 33 #[.slice ao ys.length cap] W fun e w' => e = .returned (.tuple #[strV [], .int .i64 40]) ∧ Below W.heap.size W w' := by
  have HW := hid (refWidth_bad ao cap ys W hr hM h4 hok)
  clear hr h4 hok
  go_enter Tryd.func33, Tryd.ntmps33
  go_wp2_with (go_at_call 35; ((with_reducible refine (HW.out).mono ?_); rintro e w1 ⟨rfl, hb1⟩))
  go_ret2
  exact ⟨rfl, hb1⟩
theorem refPack_is (ao : Option Addr) (cap : Nat) (ys : List Int) (W : World) (hr : RowAt W ao ys) (hM : ys.length ≤ 1000000) (h4 : ∀ k, k < ys.length → I64 (ys[k]?.getD 0)) :
    Calls Tryd.prog 33 #[.slice ao ys.length cap] W fun e w' => e = .returned (.tuple #[strV (ppackV ys).1, .int .i64 ((ppackV ys).2 : Int)]) ∧ Below W.heap.size W w' := by
  unfold ppackV
  cases hok : okW ys with
  | true => exact refPack_ok ao cap ys W hr hok
  | false => exact refPack_bad ao cap ys W hr hM h4 hok
theorem width_is (v : Value) (xs : List Int) (w : World) (hv : SliceAt w v xs) (hl : xs.length ≤ 1000000000) :
    Calls Tryd.prog 34 #[v] w fun e w' => e = .returned (.tuple #[.int .i64 ((widthV xs).1 : Int), .int .i64 ((widthV xs).2 : Int)]) ∧ Below w.heap.size w w' := by
  unfold widthV
  cases hok : okW xs with
  | true => exact width_ok v xs w hv hok
  | false => exact (width_bad v xs w hv.ints hl hok).mono fun e w' ⟨h1, h2⟩ => ⟨h1, h2 ▸ Below.refl _ _⟩
end Go.Proofs.YtpgifmccajcgkaaDoor
