/- How an argument that is a slice of numbers is opened. -/
import Derived.Test.YtdgeinipdphoeaaOpenA
import Derived.Test.YtdgeinipdphoeaaSame
import Derived.ChangeSlices
namespace Go.Proofs.Ytdgeinipdphoeaa
set_option linter.unusedVariables false
set_option linter.unusedSimpArgs false
set_option maxRecDepth 100000
open Go.ChangeShapes Go.WideShapes Go.ChangeAt Go.RowKit Go.Joins

theorem spot_none {w : World} {a : Addr} {v : Value} (h : w.cell? a = some v) : a.spot = none := by
  unfold World.cell? at h
  split at h
  · cases hs : a.spot with
    | none => rfl
    | some s => rw [hs] at h; simp at h
  · cases h
theorem addr_at {w : World} {b o : Nat} {s : Option Nat} {n : Nat} {f : Nat → Value} (h : ∀ j, j < n → w.cell? ((⟨b, o, s⟩ : Addr).add j) = some (f j)) (h0 : 0 < n) :
    s = none ∧ ∀ j, j < n → w.cell? ⟨b, o + j, none⟩ = some (f j) := by
  have e0 := h 0 h0
  have hs : s = none := by
    have := spot_none e0
    simpa [Addr.add] using this
  subst hs
  refine ⟨rfl, fun j hj => ?_⟩
  have e := h j hj
  by_cases hq : j = 0
  · subst hq; simpa [Addr.add] using e
  · simpa [Addr.add, hq] using e

/-- A row of numbers lies at an address. -/
def RowAt (w : World) (ao : Option Addr) (xs : List Int) : Prop :=
  0 < xs.length → ∃ b off, ao = some ⟨b, off, none⟩ ∧ ∀ j, j < xs.length → w.cell? ⟨b, off + j, none⟩ = some (.int .i64 (xs[j]?.getD 0))
theorem RowAt.ints {w : World} {ao : Option Addr} {xs : List Int} (h : RowAt w ao xs) (cap : Nat) : IntsAt w (.slice ao xs.length cap) xs := ⟨ao, cap, rfl, h⟩
theorem RowAt.take {w : World} {ao : Option Addr} {xs : List Int} (h : RowAt w ao xs) (k : Nat) : RowAt w ao (xs.take k) := fun h0 => by
  obtain ⟨b, o, rfl, hc⟩ := h (by simp at h0; omega)
  refine ⟨b, o, rfl, fun j hj => ?_⟩
  simp at hj
  rw [hc j (by omega), List.getElem?_take_of_lt (by omega)]
theorem RowAt.below {w w' : World} {ao : Option Addr} {xs : List Int} (h : RowAt w ao xs) (hb : Below w.heap.size w w') : RowAt w' ao xs := fun h0 => by
  obtain ⟨b, o, rfl, hc⟩ := h h0
  exact ⟨b, o, rfl, fun j hj => (hb.cell (p := ⟨b, o + j, none⟩) (World.block_lt_of_cell? _ _ (hc j hj))).trans (hc j hj)⟩

section
variable {H : Type} {enc : TypeId × Value → H} {W : World} {base : Nat}
theorem open_ints64 {t : TypeId} (ht : Try.prog.underlying t = some (.slice 2)) {v : Value} {d : DataW H} {p : List MemPlace} (hv : Value.okWide Try.prog W .any base t v) (h : DataW.Trod enc Try.prog W 0 (fun _ => true) true t v d p) :
    ∃ (ao : Option Addr) (cap : Nat) (xs : List Int), v = .slice ao xs.length cap ∧ RowAt W ao xs ∧ xs.length ≤ cap ∧ cap ≤ maxLen ∧ (ao = none → cap = 0) ∧ (∀ k, k < xs.length → I64 (xs[k]?.getD 0)) := by
  obtain ⟨a0, len, cap, rfl⟩ := okWide_slice ht hv
  obtain ⟨fuel, hf⟩ := h
  rcases open_ints ht Try.underlying2 (by kernel_rfl) hf with ⟨hcs, hx⟩ | ⟨a, len', cap', zs, hcs, _, hl, hm, hz, hx, hcell, hwz⟩
  · simp [Value.cells] at hcs
    obtain ⟨rfl, rfl, rfl⟩ := hcs
    simp only [Prod.mk.injEq] at hx
    exact ⟨none, 0, [], rfl, fun h => by simp at h, by simp, by simp, fun _ => rfl, by simp⟩
  · simp [Value.cells] at hcs
    obtain ⟨rfl, rfl, rfl⟩ := hcs
    simp only [Prod.mk.injEq] at hx
    simp only [if_true] at hz
    have hlen : (zs.take len).length = len := by simp; omega
    have hget : ∀ j, j < len → (zs.take len)[j]?.getD 0 = zs.getD j 0 := fun j hj => by simp [List.getElem?_take, hj]
    refine ⟨some a, cap, zs.take len, by rw [hlen], fun h0 => ?_, by omega, by omega, fun h => (by cases h), fun k hk => ?_⟩
    · obtain ⟨b, o, s⟩ := a
      rw [hlen] at h0 ⊢
      obtain ⟨rfl, hc⟩ := addr_at (n := len) (f := fun j => Value.int .i64 (zs.getD j 0)) (fun j hj => hcell j (by omega)) h0
      exact ⟨b, o, rfl, fun j hj => by rw [hc j hj, hget j hj]⟩
    · rw [hlen] at hk
      rw [hget k hk]
      refine i64_of_wf (hwz _ ?_)
      rw [List.getD_eq_getElem?_getD, List.getElem?_eq_getElem (by omega)]
      simp
end
end Go.Proofs.Ytdgeinipdphoeaa
