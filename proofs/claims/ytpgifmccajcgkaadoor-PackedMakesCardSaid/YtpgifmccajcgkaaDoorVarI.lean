/- errors.Is at the two errors of package varint: nil, the same, the other one. (After the worked SentryIs.) -/
import Derived.Test.YtpgifmccajcgkaaDoorBase
import Derived.Test.YtpgifmccajcgkaaDoorChecked
import Derived.LaidEql
import Derived.Stop.Asserts
import Derived.RowKitTokens
namespace Go.Proofs.YtpgifmccajcgkaaDoor
set_option linter.unusedVariables false
set_option linter.unusedSimpArgs false
open Go.RowKit Go.Extern.Stop Go.Stop Go.Extern

/-- An error of errors.New's make. -/
abbrev errV (a : Addr) : Value := .iface 186 (.pointer (some a))

def cmpRow : Array Value → Sem Value := Extern.ReflectliteType.method fun t => do Go.Extern.Rtype.noPackHeld "Comparable" t; pure (.bool (← typeInfo t).comparable)
theorem isTypeOf (v : Value) (w : World) : (Extern.ReflectliteType.typeOf #[.iface 186 v]).run Tryd.prog w = .ok (.iface 171 (.agg #[.pointer (some ⟨3, 186, none⟩)])) w := by kernel_rfl
theorem isComparable (w : World) : (cmpRow #[.agg #[.pointer (some ⟨3, 186, none⟩)]]).run Tryd.prog w = .ok (.bool true) w := by kernel_rfl
theorem isMethodComparable (v : Value) (w : World) : (Go.method Tryd.prog.types.size 171 v "Comparable").run Tryd.prog w = .ok (131, v) w := by kernel_rfl
theorem isComp : (Tryd.prog.info? 186).map (·.comparable) = some true := by kernel_rfl
theorem isSize : (Tryd.prog.info? 205).map (·.size) = some 1 := by kernel_rfl
theorem typesN : Tryd.prog.types.size = 217 := by kernel_rfl
theorem globalsN : Tryd.prog.globals.size = 3 := by kernel_rfl

theorem noIsE (v : Value) (xT : TypeId) (w : World) : (Instr.typeAssert (.iface 186 v) xT 173 true).run Tryd.prog w = .ok (.tuple #[.nilIface, .bool false]) w := run_typeAssert_lacksB Tryd.underlying173 (by kernel_rfl) (by kernel_rfl) v xT w
theorem noUnwrapE (v : Value) (xT : TypeId) (w : World) : (Instr.typeAssert (.iface 186 v) xT 176 true).run Tryd.prog w = .ok (.tuple #[.nilIface, .bool false]) w := run_typeAssert_lacksB Tryd.underlying176 (by kernel_rfl) (by kernel_rfl) v xT w
theorem noUnwrapsE (v : Value) (xT : TypeId) (w : World) : (Instr.typeAssert (.iface 186 v) xT 178 true).run Tryd.prog w = .ok (.tuple #[.nilIface, .bool false]) w := run_typeAssert_lacksB Tryd.underlying178 (by kernel_rfl) (by kernel_rfl) v xT w

/-- errors.Is(x, x), x a pointer to an errors.errorString. -/
theorem is_same (a : Addr) (w : World) :
    Calls Tryd.prog 76 #[errV a, errV a] w fun e w' => e = .returned (.bool true) ∧ w = w' := by
  obtain ⟨i, hi, hcmp⟩ := Option.map_eq_some_iff.1 isComp
  obtain ⟨j, hj, hjs⟩ := Option.map_eq_some_iff.1 isSize
  have h8 := @run_callFunc_extern Tryd.prog 94 _ Extern.ReflectliteType.typeOf Tryd.func94 (by kernel_rfl) (by kernel_rfl) (by kernel_rfl) (by kernel_rfl)
  have h32 := @run_callFunc_extern Tryd.prog 131 _ cmpRow Tryd.func131 (by kernel_rfl) (by kernel_rfl) (by kernel_rfl) (by kernel_rfl)
  have tT := isTypeOf
  have cT := isComparable
  have mR := isMethodComparable
  rw [typesN] at mR
  have heq := run_eql_iface_ptr_same (P := Tryd.prog) w a Tryd.underlying78 Tryd.underlying186 hi hcmp hj
  go_enter Tryd.func76, Tryd.ntmps76
  go_wp2
  refine wp_loop_rounds 1 ?_
  rw [rounds_succ]
  go_wp2
  go_ret
  exact ⟨rfl, rfl⟩

/-- errors.Is(nil, x). -/
theorem is_nil (b : Addr) (w : World) :
    Calls Tryd.prog 76 #[.nilIface, errV b] w fun e w' => e = .returned (.bool false) ∧ w = w' := by
  have hn := run_eql_iface_nil_left (P := Tryd.prog) w 186 (.pointer (some b)) Tryd.underlying78
  go_enter Tryd.func76, Tryd.ntmps76
  go_wp2
  go_ret
  exact ⟨rfl, rfl⟩

/-- errors.Is(x, y), two different pointers to errors.errorString: neither has Is nor Unwrap: false. -/
theorem is_other (a b : Addr) (ca cb : Array Value) (ta tb : TypeId) (w : World) (hne : a ≠ b) (ha : w.heap[a.block]? = some (.cells ca ta (0, 0))) (hb : w.heap[b.block]? = some (.cells cb tb (0, 0))) :
    Calls Tryd.prog 76 #[errV a, errV b] w fun e w' => e = .returned (.bool false) ∧ w = w' := by
  obtain ⟨i, hi, hcmp⟩ := Option.map_eq_some_iff.1 isComp
  obtain ⟨j, hj, hjs⟩ := Option.map_eq_some_iff.1 isSize
  have h8 := @run_callFunc_extern Tryd.prog 94 _ Extern.ReflectliteType.typeOf Tryd.func94 (by kernel_rfl) (by kernel_rfl) (by kernel_rfl) (by kernel_rfl)
  have h32 := @run_callFunc_extern Tryd.prog 131 _ cmpRow Tryd.func131 (by kernel_rfl) (by kernel_rfl) (by kernel_rfl) (by kernel_rfl)
  have tT := isTypeOf
  have cT := isComparable
  have mR := isMethodComparable
  rw [typesN] at mR
  have nE := noIsE
  have uE := noUnwrapE
  have vE := noUnwrapsE
  have heq := run_eql_iface_ptr_other (P := Tryd.prog) w Tryd.underlying78 Tryd.underlying186 hi hcmp hj (by rw [hjs]; decide) hne ha hb
  go_enter Tryd.func76, Tryd.ntmps76
  go_wp2
  refine wp_loop_rounds 1 ?_
  rw [rounds_succ]
  go_wp2
  go_ret
  exact ⟨rfl, rfl⟩

/-- What the two variables hold: two errors, at two places. -/
structure Sent (am an : Addr) (w : World) : Prop where
  none_ : w.cell? ⟨0, 0, none⟩ = some (errV an)
  more : w.cell? ⟨1, 0, none⟩ = some (errV am)
  ne : am ≠ an
  bm : ∃ c t, w.heap[am.block]? = some (.cells c t (0, 0))
  bn : ∃ c t, w.heap[an.block]? = some (.cells c t (0, 0))
theorem heap_lt {w : World} {k : Nat} {o : Obj} (h : w.heap[k]? = some o) : k < w.heap.size := (Array.getElem?_eq_some_iff.1 h).1
theorem Sent.below {am an : Addr} {w w' : World} (h : Sent am an w) (hb : Below w.heap.size w w') : Sent am an w' := by
  obtain ⟨h1, h2, h3, ⟨c, t, h4⟩, c', t', h5⟩ := h
  exact ⟨cell_step h1 hb, cell_step h2 hb, h3, ⟨c, t, (hb.block _ (heap_lt h4)).trans h4⟩, c', t', (hb.block _ (heap_lt h5)).trans h5⟩

/-- The error of a code. -/
def errOf (am an : Addr) (c : Nat) : Value := if c = 0 then .nilIface else if c = 20 then errV an else errV am

theorem told_any (am an : Addr) (c : Nat) (hc : c = 0 ∨ c = 20 ∨ c = 21) (w : World) (hs : Sent am an w) :
    Calls Tryd.prog 54 #[errOf am an c] w fun e w' => e = .returned (.int .i64 (c : Int)) ∧ w = w' := by
  obtain ⟨h1, h2, h3, ⟨c4, t4, h4⟩, c5, t5, h5⟩ := hs
  rcases hc with rfl | rfl | rfl
  · simp only [errOf, if_true]
    go_enter Tryd.func54, Tryd.ntmps54
    go_wp2_with (go_at_call 76; refine (is_nil _ _).mono ?_; rintro e w' ⟨rfl, rfl⟩)
    go_ret
    exact ⟨rfl, rfl⟩
  · have ho := hid (is_other an am c5 c4 t5 t4 w (Ne.symm h3) h5 h4)
    have hsm := hid (is_same an w)
    simp only [errOf]
    clear h3 h4 h5
    go_enter Tryd.func54, Tryd.ntmps54
    go_wp2_with (go_at_call 76; first | ((with_reducible refine (ho.out).mono ?_); rintro e w' ⟨rfl, rfl⟩) | ((with_reducible refine (hsm.out).mono ?_); rintro e w' ⟨rfl, rfl⟩))
    go_ret
    exact ⟨rfl, rfl⟩
  · have hsm := hid (is_same am w)
    simp only [errOf]
    clear h3 h4 h5
    go_enter Tryd.func54, Tryd.ntmps54
    go_wp2_with (go_at_call 76; ((with_reducible refine (hsm.out).mono ?_); rintro e w' ⟨rfl, rfl⟩))
    go_ret
    exact ⟨rfl, rfl⟩
end Go.Proofs.YtpgifmccajcgkaaDoor
