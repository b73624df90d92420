/- Slices of numbers that lie in memory, read as lists; the reference's 'Same'. -/
import Derived.Test.YtdgeinipdphoeaaBase
import Derived.Deep.QuietTactic
import Derived.BigQuiet
namespace Go.Proofs.Ytdgeinipdphoeaa
set_option linter.unusedVariables false
set_option linter.unusedSimpArgs false
open Go.ChangeShapes Go.WideShapes Go.ChangeAt Go.RowKit

/-- The slice value v holds the numbers xs in the world w. -/
def IntsAt (w : World) (v : Value) (xs : List Int) : Prop :=
  ∃ ao cap, v = .slice ao xs.length cap ∧ (0 < xs.length → ∃ b off, ao = some ⟨b, off, none⟩ ∧ ∀ j, j < xs.length → w.cell? ⟨b, off + j, none⟩ = some (.int .i64 (xs[j]?.getD 0)))

theorem IntsAt.below {w w' : World} {v : Value} {xs : List Int} (h : IntsAt w v xs) (hb : Below w.heap.size w w') : IntsAt w' v xs := by
  obtain ⟨ao, cap, rfl, h⟩ := h
  refine ⟨ao, cap, rfl, fun hl => ?_⟩
  obtain ⟨b, off, rfl, hc⟩ := h hl
  exact ⟨b, off, rfl, fun j hj => (hb.cell (p := ⟨b, off + j, none⟩) (World.block_lt_of_cell? _ _ (hc j hj))).trans (hc j hj)⟩

theorem IntsAt.nil {w : World} (ao : Option Addr) (cap : Nat) : IntsAt w (.slice ao 0 cap) [] := ⟨ao, cap, rfl, fun h => by simp at h⟩

theorem IntsAt.own {w : World} {base : Nat} {e : TypeId} {v : Value} {xs : List Int} (h : w.ownsRow base e 1 v xs.length (xs.map (Value.int .i64))) : IntsAt w v xs := by
  rcases h.2 with ⟨rfl, h0⟩ | ⟨g, cap, cur, rfl, _⟩
  · obtain rfl : xs = [] := List.length_eq_zero_iff.1 h0
    exact IntsAt.nil _ _
  · refine ⟨_, cap, rfl, fun hl => ⟨g, 0, rfl, fun j hj => ?_⟩⟩
    have := h.cellAt j (by omega)
    rw [show (0 : Nat) + j = j from by omega, this]
    simp [hj]

/-- A literal slice of numbers. -/
theorem IntsAt.lit (w : World) (xs : List Int) (T : TypeId) (cap : Nat) : IntsAt (w.alloc (.cells (xs.map (Value.int .i64)).toArray T)) (.slice (some ⟨w.heap.size, 0, none⟩) xs.length cap) xs :=
  ⟨_, cap, rfl, fun _ => ⟨_, 0, rfl, fun j hj => by rw [World.cell?_alloc_at _ _ _ _ rfl]; simp [hj]⟩⟩

theorem take_ne_of {xs ys : List Int} (hlen : xs.length = ys.length) (k : Nat) (hk : k < xs.length) (h : ¬ xs[k]?.getD 0 = ys[k]?.getD 0) : ¬ xs = ys := fun e => h (by rw [e])
theorem take_succ_eq {xs ys : List Int} (hlen : xs.length = ys.length) (k : Nat) (hk : k < xs.length) (ht : xs.take k = ys.take k) (h : xs[k]?.getD 0 = ys[k]?.getD 0) : xs.take (k + 1) = ys.take (k + 1) := by
  have hk2 : k < ys.length := by omega
  rw [List.take_succ_eq_append_getElem hk, List.take_succ_eq_append_getElem hk2, ht]
  simp [hk, hk2] at h
  rw [h]

set_option maxHeartbeats 1000000 in
theorem same_any (va vb : Value) (xs ys : List Int) (w : World) (ha : IntsAt w va xs) (hb : IntsAt w vb ys) (hx : xs.length ≤ 1000000000) (hy : ys.length ≤ 1000000000) :
    Calls Try.prog 66 #[va, vb] w fun e w' => e = .returned (.bool (decide (xs = ys))) ∧ Below w.heap.size w w' := by
  obtain ⟨ao, cap, rfl, hA⟩ := ha
  obtain ⟨bo, cap', rfl, hB⟩ := hb
  by_cases hlen : xs.length = ys.length
  · have hl' := hid hlen
    rw [← hlen] at hB hy ⊢
    clear hlen
    by_cases h0 : 0 < xs.length
    · obtain ⟨a, oa, rfl, hca⟩ := hA h0
      obtain ⟨b, ob, rfl, hcb⟩ := hB h0
      clear hA hB
      have HA := hid hca; have HB := hid hcb; clear hca hcb
      go_enter Try.func66, Try.ntmps66
      go_wp2
      go_loopw [5] (fun i wr => ∃ k : Nat, k ≤ xs.length ∧ i = .int .i64 k ∧ xs.take k = ys.take k ∧ Below w.heap.size w wr) (fun i _ => xs.length - (intOf i).toNat)
      case atStart => exact ⟨0, Nat.zero_le _, rfl, rfl, Below.refl _ _⟩
      case round =>
        obtain ⟨k, hk, rfl, htake, hbel⟩ := hrel
        have HT := hid htake; clear htake
        by_cases hlt : k < xs.length
        · have e1 := HA.out k hlt
          have e2 := HB.out k hlt
          have d1 := (hbel.cell (p := ⟨a, oa + k, none⟩) (World.block_lt_of_cell? _ _ e1)).trans e1
          have d2 := (hbel.cell (p := ⟨b, ob + k, none⟩) (World.block_lt_of_cell? _ _ e2)).trans e2
          clear e1 e2
          have hk1 : xs[k]?.getD 0 = xs[k] := by simp [hlt]
          by_cases hxy : xs[k]?.getD 0 = ys[k]?.getD 0
          · have HS := hid (take_succ_eq hl'.out k hlt HT.out hxy)
            rw [← hxy] at d2
            clear hxy
            go_wp2
            go_quiet (fail)
            go_wp2
            go_roundw
            case rel => exact ⟨k + 1, hlt, by go_num, HS.out, hbel.drewN _⟩
            case measure => simp [intOf]; omega
          · have HS := hid (take_ne_of hl'.out k hlt hxy)
            have hne : (xs[k] == ys[k]?.getD 0) = false := by rw [← hk1]; simpa using hxy
            have hne2 : (xs[k] != ys[k]?.getD 0) = true := by rw [← hk1]; simpa using hxy
            clear hxy
            go_wp2
            go_quiet (fail)
            go_wp2
            go_ret
            exact ⟨ret_bool (by simp [HS.out]), hbel.drewN _⟩
        · obtain rfl : k = xs.length := by omega
          go_wp2
          go_ret
          refine ⟨ret_bool ?_, hbel⟩
          have h1 := HT.out
          rw [List.take_length, hl'.out, List.take_length] at h1
          simp [h1]
    · have h1 : xs = [] := List.length_eq_zero_iff.1 (by omega)
      have h2 : ys = [] := List.length_eq_zero_iff.1 (by have := hl'.out; omega)
      subst h1; subst h2
      clear hA hB hx hy h0
      go_enter Try.func66, Try.ntmps66
      go_wp2
      refine wp_loop_rounds 1 ?_
      rw [rounds_succ]
      go_wp2
      go_ret
      exact ⟨rfl, Below.refl _ _⟩
  · have hne : ¬ xs = ys := fun h => hlen (by rw [h])
    have hlen' : ((xs.length : Int) != (ys.length : Int)) = true := by simpa using (fun h => hlen (by exact_mod_cast h))
    have hlen'' : ((xs.length : Int) == (ys.length : Int)) = false := by simpa using (fun h => hlen (by exact_mod_cast h))
    have HN := hid hne; clear hne hA hB
    go_enter Try.func66, Try.ntmps66
    go_wp2
    go_ret
    exact ⟨ret_bool (by simp [HN.out]), Below.refl _ _⟩
end Go.Proofs.Ytdgeinipdphoeaa
