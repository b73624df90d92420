/- WideLists holds: the sum of numbers is the reference's. No condition. -/
import Derived.Test.YtekmcomddaoljaaWideS
import Derived.Test.YtekmcomddaoljaaWideH
import Derived.Test.YtekmcomddaoljaaOpenB
namespace Go.Proofs.Ytekmcomddaoljaa
set_option linter.unusedVariables false
set_option linter.unusedSimpArgs false
open Go.ChangeShapes Go.WideShapes Go.ChangeAt Go.RowKit Go.Joins

theorem wcut_nil (w : World) : Calls Try.prog 32 #[.slice none 0 0] w fun e w' => e = .returned (.slice none 0 0) ∧ w = w' := by
  go_enter Try.func32, Try.ntmps32
  go_wp2
  ((show bodyPost _ _ _ _ _ _); refine bodyPost_ret (by simp only [results, Try.results32]; go_simp; try rfl) rfl ?_)
  exact ⟨rfl, rfl⟩
theorem wcut_some (a : Addr) (n cap : Nat) (h1 : n ≤ cap) (h2 : cap ≤ maxLen) (w : World) : Calls Try.prog 32 #[.slice (some a) n cap] w fun e w' => e = .returned (.slice (some a) (min n 1000) cap) ∧ w = w' := by
  simp only [maxLen] at h2
  by_cases hn : n ≤ 1000
  · have e : min n 1000 = n := by omega
    rw [e]
    clear e
    go_enter Try.func32, Try.ntmps32
    go_wp2
    ((show bodyPost _ _ _ _ _ _); refine bodyPost_ret (by simp only [results, Try.results32]; go_simp; try rfl) rfl ?_)
    exact ⟨rfl, rfl⟩
  · have e : min n 1000 = 1000 := by omega
    have hn2 : 1000 < n := by omega
    rw [e]
    clear e hn
    go_enter Try.func32, Try.ntmps32
    go_wp2

    ((show bodyPost _ _ _ _ _ _); refine bodyPost_ret (by simp only [results, Try.results32]; go_simp; try rfl) rfl ?_)
    exact ⟨rfl, rfl⟩
theorem wcut_any (ao : Option Addr) (cap : Nat) (xs : List Int) (w : World) (h1 : xs.length ≤ cap) (h2 : cap ≤ maxLen) (h3 : ao = none → cap = 0) :
    Calls Try.prog 32 #[.slice ao xs.length cap] w fun e w' => e = .returned (.slice ao (xs.take 1000).length cap) ∧ w = w' := by
  have e : (xs.take 1000).length = min xs.length 1000 := by rw [List.length_take, Nat.min_comm]
  rw [e]
  cases ao with
  | none =>
    have := h3 rfl
    subst this
    have : xs.length = 0 := by omega
    rw [this]
    exact wcut_nil w
  | some a => exact wcut_some a _ cap h1 h2 w

set_option maxRecDepth 100000 in
set_option maxHeartbeats 4000000 in
theorem WideLists_walk (v : Value) (ao : Option Addr) (cap : Nat) (xs : List Int) (hv : v = .slice ao xs.length cap) (W : World) (hr : RowAt W ao xs) (h1 : xs.length ≤ cap) (h2 : cap ≤ maxLen) (h3 : ao = none → cap = 0) (h4 : Ints64 xs) :
    Calls Try.prog 8 #[v] W fun e w' => e = .returned (.bool true) ∧ Below W.heap.size W w' := by
  subst hv
  have HC := hid (fun w => wcut_any ao cap xs w h1 h2 h3)
  have hl : (xs.take 1000).length ≤ 1000000000 := by simp; omega
  have hx : Ints64 (xs.take 1000) := fun k hk => by
    simp at hk
    rw [List.getElem?_take_of_lt (by omega)]
    exact h4 k (by omega)
  have HS := fun w (h : Below W.heap.size W w) => sum_any _ (xs.take 1000) w (((hr.take 1000).below h).ints cap) hl hx
  have HR := fun w (h : Below W.heap.size W w) => refSum_any _ (xs.take 1000) w (((hr.take 1000).below h).ints cap) hl hx
  generalize (xs.take 1000).length = N at HC HS HR
  generalize hiW (sumI (xs.take 1000)) = Sh at HS HR
  generalize loW (sumI (xs.take 1000)) = Sl at HS HR
  replace HS := hid HS; replace HR := hid HR
  clear hr h1 h2 h3 h4 hl hx
  generalize xs.length = M at HC ⊢
  go_enter Try.func8, Try.ntmps8
  go_wp2_with (first
    | (go_at_call 30; (with_reducible refine (wideShown_any _).mono ?_); rintro e w1 ⟨rfl, hb1⟩)
    | (go_at_call 32; (with_reducible refine (HC.out _).mono ?_); rintro e w2 ⟨rfl, rfl⟩)
    | (go_at_call 31; (with_reducible refine (HS.out _ ?_).mono ?_); ((repeat' (first | (with_reducible exact Below.refl _ _) | (with_reducible assumption) | (with_reducible refine Below.new ?_ _) | (with_reducible refine Below.alloc ?_ ?_ _) | (with_reducible refine Below.drew ?_) | (with_reducible refine Below.setCell ?_ ?_ _) | (refine Below.step ?_ (by assumption)) | go_size))); rintro e w3 ⟨rfl, hb3⟩)
    | (go_at_call 33; (with_reducible refine (HR.out _ ?_).mono ?_); ((repeat' (first | (with_reducible exact Below.refl _ _) | (with_reducible assumption) | (with_reducible refine Below.new ?_ _) | (with_reducible refine Below.alloc ?_ ?_ _) | (with_reducible refine Below.drew ?_) | (with_reducible refine Below.setCell ?_ ?_ _) | (refine Below.step ?_ (by assumption)) | go_size))); rintro e w4 ⟨rfl, hb4⟩))
  go_ret
  exact ⟨rfl, by (repeat' (first | (with_reducible exact Below.refl _ _) | (with_reducible assumption) | (with_reducible refine Below.new ?_ _) | (with_reducible refine Below.alloc ?_ ?_ _) | (with_reducible refine Below.drew ?_) | (with_reducible refine Below.setCell ?_ ?_ _) | (refine Below.step ?_ (by assumption)) | go_size))⟩
set_option maxRecDepth 100000 in
theorem WideLists_lifted (os : Os) (started : os.Started) (H : Type) (enc : TypeId × Value → H) :
    ReturnsInHanded {} Try.checked os 8 .any (Rows.wideListsSpec.pre6 enc Try.prog Try.f8 Rows.wideListsRow.domain false) (Rows.wideListsSpec.post enc Try.prog Try.f8 false true false false) := by
  refine law_lift started (by kernel_rfl) Try.func8
    (ChangeSpec.witness6 (enc := enc) (C := Try.checked) false ⟨#[], #[.slice none 0 0], []⟩ 8 (by kernel_rfl) (by kernel_rfl) (by kernel_rfl) (by kernel_rfl)) rfl rfl (by kernel_rfl) ?_ ?_
  · intro ds hl
    match ds, hl with
    | [_], _ => exact ⟨rfl, rfl, rfl⟩
  · intro W base args ds p hval hA hsz
    rw [Try.params8] at hA hval hsz
    obtain ⟨v0, vs0, d0, ds0, p0, q0, hargs, rfl, rfl, h0, r0⟩ := trodAll_cons hA
    obtain ⟨rfl, rfl, rfl⟩ := trodAll_nil r0
    obtain rfl : args = #[v0] := by cases args; simp_all
    obtain ⟨ao0, cap0, xs0, rfl, g0, b0, e0, f0, k0⟩ := open_ints64 Try.underlying33 (hval 0 33 v0 rfl rfl) h0
    exact WideLists_walk _ ao0 cap0 xs0 rfl W g0 b0 e0 f0 k0

theorem WideLists_over : Rows.wideListsRow.holds Try.pinned (OpenSpec.ofChange Rows.wideListsSpec) :=
  OpenClaim.holds_of_wide 8 Try.f8 rfl rfl rfl rfl rfl rfl rfl ⟨rfl, rfl, rfl, rfl, rfl⟩ rfl rfl rfl rfl rfl (by kernel_rfl) Try.func8 (by kernel_rfl)
    (of_decide_eq_true (by kernel_rfl)) (by unfold Func.isWrapper; first | (rw [if_pos (by decide +kernel)]; kernel_rfl) | (rw [if_neg (by decide +kernel)]; exact ⟨rfl, rfl⟩))
    (fun os started H enc _ => WideLists_lifted os started H enc)

/-- The statement. -/
theorem WideLists_proved : Rows.WideListsSaid := WideLists_over
end Go.Proofs.Ytekmcomddaoljaa
