/- How arguments of the kinds that the statements of grain take are opened. -/
import Derived.Test.YtcdfbcmhikhnjaaDoorBase
import Derived.SizedLaws
import Derived.Lib.SmallJoins
import Derived.ChangeMaps5
namespace Go.Proofs.YtcdfbcmhikhnjaaDoor
set_option linter.unusedVariables false
set_option linter.unusedSimpArgs false
set_option maxRecDepth 100000
open Go.ChangeShapes Go.WideShapes Go.ChangeAt Go.RowKit Go.Joins

abbrev I64 (n : Int) : Prop := -9223372036854775808 ≤ n ∧ n ≤ 9223372036854775807
abbrev U64 (n : Int) : Prop := 0 ≤ n ∧ n ≤ 18446744073709551615

theorem i64_of_wf {n : Int} (h : (Lit.int .i64 n).wf = true) : I64 n := by
  simp [Lit.wf, IntKind.min, IntKind.max, IntKind.signed, IntKind.bits] at h
  exact ⟨by omega, by omega⟩
theorem u64_of_wf {n : Int} (h : (Lit.int .u64 n).wf = true) : U64 n := by
  simp [Lit.wf, IntKind.min, IntKind.max, IntKind.signed, IntKind.bits] at h
  exact ⟨by omega, by omega⟩

section
variable {H : Type} {enc : TypeId × Value → H} {W : World} {base : Nat}
theorem open_i64 {t : TypeId} (ht : Tryd.prog.underlying t = some (.int .i64)) {v : Value} {d : DataW H} {p : List MemPlace} (hv : Value.okWide Tryd.prog W .any base t v) (h : DataW.Trod enc Tryd.prog W 0 (fun _ => true) true t v d p) :
    ∃ n, v = .int .i64 n ∧ I64 n := by
  obtain ⟨n, rfl, _, _, w⟩ := open_int ht hv h
  exact ⟨n, rfl, i64_of_wf w⟩
theorem open_u64 {t : TypeId} (ht : Tryd.prog.underlying t = some (.int .u64)) {v : Value} {d : DataW H} {p : List MemPlace} (hv : Value.okWide Tryd.prog W .any base t v) (h : DataW.Trod enc Tryd.prog W 0 (fun _ => true) true t v d p) :
    ∃ n, v = .int .u64 n ∧ U64 n := by
  obtain ⟨n, rfl, _, _, w⟩ := open_int ht hv h
  exact ⟨n, rfl, u64_of_wf w⟩
theorem open_str {t : TypeId} (ht : Tryd.prog.underlying t = some .string) {v : Value} {d : DataW H} {p : List MemPlace} (hv : Value.okWide Tryd.prog W .any base t v) (h : DataW.Trod enc Tryd.prog W 0 (fun _ => true) true t v d p) :
    ∃ s : ByteArray, v = .string s ∧ s.size ≤ 9223372036854775807 := by
  obtain ⟨s, rfl, _, _, hs⟩ := Go.ChangeMaps.open_string ht hv h
  exact ⟨s, rfl, by unfold maxLen at hs; omega⟩
theorem open_wide {v : Value} {d : DataW H} {p : List MemPlace} (hv : Value.okWide Tryd.prog W .any base 30 v) (h : DataW.Trod enc Tryd.prog W 0 (fun _ => true) true 30 v d p) :
    ∃ a b, v = .agg #[.int .i64 a, .int .u64 b] ∧ I64 a ∧ U64 b := by
  obtain ⟨c0, c1, y0, y1, m, rfl, _, _, h0, h1⟩ := open_agg2 (P := Tryd.prog) Tryd.underlying30 (by kernel_rfl) (by kernel_rfl) hv h
  obtain ⟨a, e0, rfl, wa⟩ := DataW.trod_int Tryd.underlying2 h0
  obtain ⟨b, e1, rfl, wb⟩ := DataW.trod_int Tryd.underlying22 h1
  simp at e0 e1
  subst e0 e1
  exact ⟨a, b, rfl, i64_of_wf wa, u64_of_wf wb⟩
end
end Go.Proofs.YtcdfbcmhikhnjaaDoor
