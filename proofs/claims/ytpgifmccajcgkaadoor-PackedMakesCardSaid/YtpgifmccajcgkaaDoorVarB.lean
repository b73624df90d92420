/- Varints: the reference's 'Put'. -/
import Derived.Test.YtpgifmccajcgkaaDoorVarA
import Derived.Deep.RegionWith
import Derived.Laws.IdiomStrings
namespace Go.Proofs.YtpgifmccajcgkaaDoor
set_option linter.unusedVariables false
set_option linter.unusedSimpArgs false
open Go.ChangeShapes Go.WideShapes Go.ChangeAt Go.RowKit

/-- A number's bytes: seven binary digits each, the least first. -/
def putB (n : Nat) : List UInt8 := if n < 128 then [UInt8.ofNat n] else UInt8.ofNat (128 + n % 128) :: putB (n / 128)
decreasing_by omega
theorem putB_length : ∀ (k n : Nat), n < 128 ^ (k + 1) → (putB n).length ≤ k + 1
  | 0, n, h => by rw [putB, if_pos (by simpa using h)]; simp
  | k + 1, n, h => by
    rw [putB]
    split
    · simp
    · have : n / 128 < 128 ^ (k + 1) := by rw [Nat.div_lt_iff_lt_mul (by decide), ← Nat.pow_succ]; exact h
      have := putB_length k _ this
      simpa using this
theorem putB_ten {n : Nat} (h : n ≤ 18446744073709551615) : (putB n).length ≤ 10 := putB_length 9 n (by
  have : (128 : Nat) ^ 10 = 1180591620717411303424 := by decide
  rw [this]; omega)
abbrev strV (l : List UInt8) : Value := .string ⟨l.toArray⟩

theorem conv_one {w : World} {b : Nat} {m : Nat} (h : w.cell? ⟨b, 0, none⟩ = some (.int .u8 (m : Int))) (hm : m < 256) :
    (convert 82 9 (.slice (some ⟨b, 0, none⟩) 1 1)).run Tryd.prog w = .ok (strV [UInt8.ofNat m]) w := by
  refine run_convert_bytes_back (l := [UInt8.ofNat m]) w _ _ _ _ 1 Tryd.underlying82 Tryd.underlying5 Tryd.underlying9 (fun j hj => ?_)
  simp at hj
  subst hj
  simp [Addr.add, h, Nat.mod_eq_of_lt hm]

theorem strV_cons (b : UInt8) (l : List UInt8) : strV (b :: l) = .string (({ data := #[b] } : ByteArray) ++ { data := l.toArray }) := by
  congr 1

set_option maxHeartbeats 1000000 in
set_option maxRecDepth 100000 in
theorem refPut_any : ∀ (n : Nat) (hn : n ≤ 18446744073709551615) (w : World),
    Calls Tryd.prog 21 #[.int .u64 (n : Int)] w fun e w' => e = .returned (strV (putB n)) ∧ Below w.heap.size w w' := by
  intro n
  induction n using Nat.strongRecOn with
  | _ n ih =>
    intro hn w
    by_cases h : n < 128
    · have e1 : putB n = [UInt8.ofNat n] := by rw [putB, if_pos h]
      rw [e1]
      clear e1 ih
      have hc := fun (w : World) b (h0 : w.cell? ⟨b, 0, none⟩ = some (.int .u8 (n : Int))) => conv_one h0 (by omega)
      go_enter Tryd.func21, Tryd.ntmps21
      go_wp2
      ((show bodyPost _ _ _ _ _ _); refine bodyPost_ret (by simp only [results, Tryd.results21]; go_simp; try rfl) rfl ?_)
      exact ⟨rfl, by (repeat' (first | (with_reducible exact Below.refl _ _) | (with_reducible assumption) | (with_reducible refine Below.new ?_ _) | (with_reducible refine Below.alloc ?_ ?_ _) | (with_reducible refine Below.drew ?_) | (with_reducible refine Below.setCell ?_ ?_ _) | (refine Below.step ?_ (by assumption)) | go_size))⟩
    · have e1 : putB n = UInt8.ofNat (128 + n % 128) :: putB (n / 128) := by rw [putB, if_neg h]
      rw [e1]
      clear e1
      have hl : (putB (n / 128)).length ≤ 10 := putB_ten (by omega)
      obtain ⟨R, hR⟩ : ∃ R, putB (n / 128) = R := ⟨_, rfl⟩
      have IH := hid (fun w => ih (n / 128) (by omega) (by omega) w)
      rw [hR] at IH hl ⊢
      clear ih hR
      have h' : 128 ≤ n := by omega
      clear h
      obtain ⟨M, hM⟩ : ∃ M, 128 + n % 128 = M := ⟨_, rfl⟩
      rw [hM]
      have hM2 : M < 256 := by omega
      have hc := fun (w : World) b (h0 : w.cell? ⟨b, 0, none⟩ = some (.int .u8 (M : Int))) => conv_one h0 hM2
      have d2 : IntKind.u8.wrap (IntKind.u64.wrap (128 + (n : Int).tmod 128)) = (M : Int) := by
        rw [Int.tmod_eq_emod_of_nonneg (by omega), IntKind.wrap_u64]; simp [IntKind.wrap, IntKind.bits, IntKind.signed]; omega
      have d1 := hid (show IntKind.u64.wrap ((n : Int) / 128) = ((n / 128 : Nat) : Int) by rw [IntKind.wrap_u64]; omega)
      clear hM
      go_enter Tryd.func21, Tryd.ntmps21
      go_wp2
      go_region_with (go_at_call 21; rw [d1.out]; (with_reducible refine (IH.out _).mono ?_); rintro e w1 ⟨rfl, hb1⟩; obtain ⟨hc1, hf1, hk1, hz1⟩ := bcell3 hb1; (try simp only [World.size_alloc] at hz1))
      all_goals (go_wp2; ((show bodyPost _ _ _ _ _ _); refine bodyPost_ret (by simp only [results, Tryd.results21]; go_simp; try rfl) rfl ?_); exact ⟨by rw [strV_cons], by (repeat' (first | (with_reducible exact Below.refl _ _) | (with_reducible assumption) | (with_reducible refine Below.new ?_ _) | (with_reducible refine Below.alloc ?_ ?_ _) | (with_reducible refine Below.drew ?_) | (with_reducible refine Below.setCell ?_ ?_ _) | (refine Below.step ?_ (by assumption)) | go_size))⟩)
end Go.Proofs.YtpgifmccajcgkaaDoor
