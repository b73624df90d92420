/- How an argument that is a slice of ints is opened. -/
import Derived.Test.YtpgifmccajcgkaaDoorOpenB
namespace Go.Proofs.YtpgifmccajcgkaaDoor
set_option linter.unusedVariables false
set_option linter.unusedSimpArgs false
set_option maxRecDepth 100000
open Go.ChangeShapes Go.WideShapes Go.ChangeAt Go.RowKit Go.Joins

section
variable {H : Type} {enc : TypeId × Value → H} {W : World} {base : Nat}
theorem open_pints {t : TypeId} (ht : Tryd.prog.underlying t = some (.slice 3)) {v : Value} {d : DataW H} {p : List MemPlace} (hv : Value.okWide Tryd.prog W .any base t v) (h : DataW.Trod enc Tryd.prog W 0 (fun _ => true) true t v d p) :
    ∃ (ao : Option Addr) (cap : Nat) (xs : List Int), v = .slice ao xs.length cap ∧ RowAt W ao xs ∧ xs.length ≤ cap ∧ cap ≤ maxLen ∧ (ao = none → cap = 0) ∧ (∀ k, k < xs.length → I64 (xs[k]?.getD 0)) := by
  obtain ⟨a0, len, cap, rfl⟩ := okWide_slice ht hv
  obtain ⟨fuel, hf⟩ := h
  rcases open_ints ht Tryd.underlying3 (by kernel_rfl) hf with ⟨hcs, hx⟩ | ⟨a, len', cap', zs, hcs, _, hl, hm, hz, hx, hcell, hwz⟩
  · simp [Value.cells] at hcs
    obtain ⟨rfl, rfl, rfl⟩ := hcs
    simp only [Prod.mk.injEq] at hx
    exact ⟨none, 0, [], rfl, fun h => by simp at h, by simp, by simp, fun _ => rfl, by simp⟩
  · simp [Value.cells] at hcs
    obtain ⟨rfl, rfl, rfl⟩ := hcs
    simp only [Prod.mk.injEq] at hx
    simp only [if_true] at hz
    have hlen : (zs.take len).length = len := by simp; omega
    have hget : ∀ j, j < len → (zs.take len)[j]?.getD 0 = zs.getD j 0 := fun j hj => by simp [List.getElem?_take, hj]
    refine ⟨some a, cap, zs.take len, by rw [hlen], fun h0 => ?_, by omega, by omega, fun h => (by cases h), fun k hk => ?_⟩
    · obtain ⟨b, o, s⟩ := a
      rw [hlen] at h0 ⊢
      obtain ⟨rfl, hc⟩ := addr_at (n := len) (f := fun j => Value.int .i64 (zs.getD j 0)) (fun j hj => hcell j (by omega)) h0
      exact ⟨b, o, rfl, fun j hj => by rw [hc j hj, hget j hj]⟩
    · rw [hlen] at hk
      rw [hget k hk]
      refine i64_of_wf (hwz _ ?_)
      rw [List.getD_eq_getElem?_getD, List.getElem?_eq_getElem (by omega)]
      simp
end
end Go.Proofs.YtpgifmccajcgkaaDoor
