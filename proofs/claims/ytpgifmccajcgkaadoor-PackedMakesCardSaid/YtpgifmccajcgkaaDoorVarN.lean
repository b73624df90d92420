/- Varints: the program's 'Pack'. -/
import Derived.Test.YtpgifmccajcgkaaDoorVarM
import Derived.Test.YtpgifmccajcgkaaDoorSame
namespace Go.Proofs.YtpgifmccajcgkaaDoor
set_option linter.unusedVariables false
set_option linter.unusedSimpArgs false
open Go.ChangeShapes Go.WideShapes Go.ChangeAt Go.RowKit

/-- The number ahead of the k-th. -/
def lastAt (last : Int) : List Int → Nat → Int
  | _, 0 => last
  | [], _ + 1 => last
  | n :: l, k + 1 => lastAt n l k
theorem lastAt_succ (l : List Int) : ∀ (last : Int) (k : Nat), k < l.length → lastAt last l (k + 1) = l[k]?.getD 0 := by
  induction l with
  | nil => intro _ _ h; simp at h
  | cons a l ih =>
    intro last k h
    cases k with
    | zero => rw [lastAt]; cases l <;> rfl
    | succ k => rw [lastAt, ih a k (by simpa using h)]; simp
theorem diffs_take (l : List Int) : ∀ (last : Int) (k : Nat), k < l.length → (diffs last l).take (k + 1) = (diffs last l).take k ++ [(turnV (wrap64 (l[k]?.getD 0 - lastAt last l k))).toNat] := by
  induction l with
  | nil => intro _ _ h; simp at h
  | cons a l ih =>
    intro last k h
    cases k with
    | zero => simp [diffs, lastAt]
    | succ k =>
      have := ih a k (by simpa using h)
      simp only [diffs, List.take_succ_cons, this, lastAt, List.cons_append]
      simp
def u64s (l : List Nat) : List Value := l.map fun (m : Nat) => Value.int .u64 (m : Int)
theorem u64s_snoc (l : List Nat) (m : Nat) : u64s (l ++ [m]) = u64s l ++ [Value.int .u64 (m : Int)] := by simp [u64s]
theorem nums_own {w : World} {base : Nat} {e : TypeId} {ao : Option Addr} {n cap : Nat} {l : List Nat} (h : w.ownsRow base e 1 (.slice ao n cap) n (u64s l)) (hn : l.length = n) : NumsAt w ao l := by
  intro hl
  rcases h.2 with ⟨hv, h0⟩ | ⟨g, cap', cur, hv, _⟩
  · omega
  · have hao : ao = some ⟨g, 0, none⟩ := by simp at hv; exact hv.1
    have hcap : cap = cap' := by simp at hv; exact hv.2
    subst hao
    refine ⟨g, 0, rfl, fun j hj => ?_⟩
    have := h.cellAt j (by omega)
    rw [Nat.zero_add, this]
    simp [u64s, hj]

theorem pack_long (v : Value) (l : List Int) (w : World) (hv : IntsAt w v l) (hl : 1000 < l.length) :
    Calls Tryd.prog 26 #[v] w fun e w' => e = .returned (.tuple #[strV [], .int .i64 20]) ∧ Below w.heap.size w w' := by
  obtain ⟨ao, cap, rfl, hA⟩ := hv
  clear hA
  go_enter Tryd.func26, Tryd.ntmps26
  go_wp2
  go_ret2
  exact ⟨rfl, Below.refl _ _⟩

set_option maxRecDepth 100000 in
set_option maxHeartbeats 2000000 in
theorem pack_short (v : Value) (l : List Int) (w : World) (hv : IntsAt w v l) (hall : ∀ n ∈ l, inI n) (hl : l.length ≤ 1000) :
    Calls Tryd.prog 26 #[v] w fun e w' => e = .returned (.tuple #[strV (packB l), .int .i64 0]) ∧ Below w.heap.size w w' := by
  obtain ⟨ao, cap, rfl, hA⟩ := hv
  obtain ⟨iu, hui, huz0, huz1, huz2⟩ := info_parts info_u64
  have HA := hid hA
  have hN : ∃ N, l.length = N := ⟨_, rfl⟩
  obtain ⟨N, hN⟩ := hN
  have HN := hid hN
  rw [hN] at hl HA ⊢
  have HP := hid (fun ao n cap (W : World) h1 h2 => put_any (l.length :: diffs 0 l) (fun m hm => by
    rcases List.mem_cons.1 hm with rfl | hm
    · omega
    · exact diffs_is l 0 m hm) (by simp [diffs_length]; omega) ao n cap h1 W h2)
  have HD : Hid ((l.length :: diffs 0 l).length = N + 1) := by unfold Hid; simp [diffs_length, hN]
  have HD2 : Hid ((diffs 0 l).take N = diffs 0 l) := by unfold Hid; rw [List.take_of_length_le]; rw [diffs_length, hN]; exact Nat.le_refl _
  have HW := hid (World.ownsRow_lit (base := w.heap.size) (e := 22) (size := 1) w #[.int .u64 (N : Int)] 1 (Nat.le_refl _) (by unfold maxLen; omega) rfl)
  have HST := hid (fun k hk => diffs_take l 0 k hk)
  have HLA := hid (fun k hk => lastAt_succ l 0 k hk)
  have HAL := hid hall
  clear hA hN hall
  go_enter Tryd.func26, Tryd.ntmps26
  go_wp2
  go_loopw [4, 5, 17] (fun v la i wr => ∃ k : Nat, k ≤ N ∧ i = .int .i64 k ∧ la = .int .i64 (lastAt 0 l k) ∧ wr.ownsRow w.heap.size 22 1 v (k + 1) (u64s (N :: (diffs 0 l).take k)) ∧ Below w.heap.size w wr) (fun _ _ i _ => N - (intOf i).toNat)
  case atStart => exact ⟨0, Nat.zero_le _, rfl, by cases l <;> rfl, HW.out, by (repeat' (first | (with_reducible exact Below.refl _ _) | (with_reducible assumption) | (with_reducible refine Below.new ?_ _) | (with_reducible refine Below.alloc ?_ ?_ _) | (with_reducible refine Below.drew ?_) | (with_reducible refine Below.setCell ?_ ?_ _) | (refine Below.step ?_ (by assumption)) | go_size))⟩
  case round =>
    obtain ⟨k, hk, rfl, rfl, hown, hB⟩ := hrel
    have hsz := hB.size
    by_cases hlt : k < N
    · obtain ⟨b, off, rfl, hc⟩ := HA.out (by omega)
      have e0 := cell_step (hc k hlt) hB
      have hs1 := HST.out k (by rw [HN.out]; exact hlt)
      have hs2 := HLA.out k (by rw [HN.out]; exact hlt)
      obtain ⟨x, hx⟩ : ∃ x, l[k]?.getD 0 = x := ⟨_, rfl⟩
      obtain ⟨y, hy⟩ : ∃ y, lastAt 0 l k = y := ⟨_, rfl⟩
      rw [hx] at e0 hs1 hs2
      rw [hy] at hs1 ⊢
      have htu := fun W => turn_any (wrap64 (x - y)) (wrap64_is _) W
      have ht2 := turnV_w (x - y)
      obtain ⟨M, hM⟩ : ∃ M : Nat, turnV (wrap64 (x - y)) = (M : Int) := ⟨(turnV (wrap64 (x - y))).toNat, by omega⟩
      rw [hM] at htu hs1
      have HTU := hid htu; have HS1 := hid hs1; have HS2 := hid hs2
      clear hc hx hy htu ht2 hs1 hs2 hM
      go_wp2_with (first
        | (go_at_call 22; ((with_reducible refine (HTU.out _).mono ?_); rintro e w3 ⟨rfl, hb3⟩; have hown3 := below_row hb3 hown; have hz3 := hb3.size))
        | (at_builtin; go_loud (refine wpList_append_own _ rfl _ _ 84 rfl (w.heap.size) 22 iu (.int .u64 0) 1 8 Tryd.underlying84 hui huz0 huz1 huz2 rfl (by decide) _ _ _ rfl (hown3.alloc _) ⟨w3.heap.size, 0, none⟩ 1 1 [.int .u64 ((M : Int))] rfl rfl (one_new _ _ _) (one_int _ _) (by unfold maxLen; omega) (by omega) (by simp; omega) ?_); intro v' w1' hown' hgrow' hnil'))
      have hown4 : w1'.ownsRow w.heap.size 22 1 v' (k + 1 + 1) (u64s (N :: (diffs 0 l).take (k + 1))) := by
        rw [HS1.out, Int.toNat_natCast, ← List.cons_append, u64s_snoc]; exact hown'
      have hB4 : Below w.heap.size w w1' := ((hB.step hb3).alloc (by omega) _).grown hgrow' (by simp; omega) (fun r e => (hown3.lt r e).1)
      go_roundw
      case rel => exact ⟨k + 1, by omega, by go_num, by rw [HS2.out], hown4, hB4⟩
      case measure => simp [intOf]; omega
    · obtain rfl : k = N := by omega
      obtain ⟨ao2, cap2, rfl⟩ := hown.shape
      have hnu := nums_own (l := k :: (diffs 0 l).take k) hown (by rw [HD2.out]; have := HD.out; simpa using this)
      rw [HD2.out] at hnu
      have HP2 := HP.out ao2 (k + 1) cap2
      rw [HN.out] at HP2
      have HP3 := hid (HP2 · (by have := HD.out; rwa [HN.out] at this))
      have HNU := hid hnu
      clear hnu HP2
      go_wp2_with (go_at_call 52; ((with_reducible refine (HP3.out _ HNU.out).mono ?_); rintro e w3 ⟨rfl, hb3⟩))
      go_ret2
      exact ⟨by unfold packB; rw [HN.out]; rfl, hB.step hb3⟩
end Go.Proofs.YtpgifmccajcgkaaDoor
