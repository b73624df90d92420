/- Varints: the reference's 'Put'. -/
import Derived.Test.YtdgeinipdphoeaaVarA
import Derived.Deep.RegionWith
import Derived.Laws.IdiomStrings
namespace Go.Proofs.Ytdgeinipdphoeaa
set_option linter.unusedVariables false
set_option linter.unusedSimpArgs false
open Go.ChangeShapes Go.WideShapes Go.ChangeAt Go.RowKit

/-- A number's bytes: seven binary digits each, the least first. -/
def putB (n : Nat) : List UInt8 := if n < 128 then [UInt8.ofNat n] else UInt8.ofNat (128 + n % 128) :: putB (n / 128)
decreasing_by omega
theorem putB_length : ∀ (k n : Nat), n < 128 ^ (k + 1) → (putB n).length ≤ k + 1
  | 0, n, h => by rw [putB, if_pos (by simpa using h)]; simp
  | k + 1, n, h => by
    rw [putB]
    split
    · simp
    · have : n / 128 < 128 ^ (k + 1) := by rw [Nat.div_lt_iff_lt_mul (by decide), ← Nat.pow_succ]; exact h
      have := putB_length k _ this
      simpa using this
theorem putB_ten {n : Nat} (h : n ≤ 18446744073709551615) : (putB n).length ≤ 10 := putB_length 9 n (by
  have : (128 : Nat) ^ 10 = 1180591620717411303424 := by decide
  rw [this]; omega)
abbrev strV (l : List UInt8) : Value := .string ⟨l.toArray⟩

theorem conv_one {w : World} {b : Nat} {m : Nat} (h : w.cell? ⟨b, 0, none⟩ = some (.int .u8 (m : Int))) (hm : m < 256) :
    (convert 103 9 (.slice (some ⟨b, 0, none⟩) 1 1)).run Try.prog w = .ok (strV [UInt8.ofNat m]) w := by
  refine run_convert_bytes_back (l := [UInt8.ofNat m]) w _ _ _ _ 1 Try.underlying103 Try.underlying5 Try.underlying9 (fun j hj => ?_)
  simp at hj
  subst hj
  simp [Addr.add, h, Nat.mod_eq_of_lt hm]

theorem strV_cons (b : UInt8) (l : List UInt8) : strV (b :: l) = .string (({ data := #[b] } : ByteArray) ++ { data := l.toArray }) := by
  congr 1

end Go.Proofs.Ytdgeinipdphoeaa
