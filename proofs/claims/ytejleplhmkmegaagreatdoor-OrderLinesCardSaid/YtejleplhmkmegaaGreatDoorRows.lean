/-
  NARROWER THAN 'FOR EVERY INPUT', by the rows' own cells (each row's printed sentence says how): OrderOne: loops, laid · OrderLines: loops, laid · OrderLimits: loops, laid · OrderHalves: loops, laid · OrderSorted: loops, laid.
  DERIVED. THE GIVEN ROWS OF THIS SEAT. 5 by the template 'for every input the law returns true; each argument reads behind the call as it read before'; 0 by the template 'total and deterministic' (their statements: YtejleplhmkmegaaGreatDoorTotals.lean).
  GIVEN WITH THE SEED: the statements are not yours to turn. If you find one false, say at which input.
  Laid BY PROGRAM, IN A SANDBOX (cutbox-rows.mjs): the forced cells as the released guide's own fill.sh prints them over the translation e28a3f251eb0f23f… (all of the seat's roots in one cut). By AI agents, Wed Nov 11 2026. No macro, syntax, notation, axiom, sorry.
-/
import Derived.Test.YtejleplhmkmegaaGreatDoorChecked
import GoSem.Claim
import GoSem.ClaimJoined
import GoSem.ClaimMapViews
import Derived.JoinedTies
import Derived.KernelRfl
namespace Go.Proofs.YtejleplhmkmegaaGreatDoor
/- THE CELL 'sum', in the pinned program and in every row, IS THE sha256 OF THE DUMP (.gsa) THAT YtejleplhmkmegaaGreatDoorProg.lean LOADS. Nothing in Lean hashes anything: it is a label: what it is worth is what the hold of that sum in a sandbox is worth. -/
noncomputable def Tryz.pinned : Pinned := { name := "ytejleplhmkmegaagreatdoor", sum := "e28a3f251eb0f23fada5487e30a04819f59ba83c5fbf44694c98c5e8af761da8", checked := Tryz.checked }
namespace Rows
def none {H : Type} : Left H := { results := [], args := [] }

/- WHAT THE LISTED PACKAGE-LEVEL VARIABLES READ AS WHEN THE CALL BEGINS. Each datum BY PROGRAM (the guide's laid-datum.mjs) off the statement by which the dump's own 'gosem.cut.vars' lays the variable. In a bare row this is a premise. The card (YtejleplhmkmegaaGreatDoorCards.lean) ties it to the program's text. -/
def laid_math_bits_deBruijn32tab {H : Type} : DataW H := .agg [.lit (.int .u8 0), .lit (.int .u8 1), .lit (.int .u8 28), .lit (.int .u8 2), .lit (.int .u8 29), .lit (.int .u8 14), .lit (.int .u8 24), .lit (.int .u8 3), .lit (.int .u8 30), .lit (.int .u8 22), .lit (.int .u8 20), .lit (.int .u8 15), .lit (.int .u8 25), .lit (.int .u8 17), .lit (.int .u8 4), .lit (.int .u8 8), .lit (.int .u8 31), .lit (.int .u8 27), .lit (.int .u8 13), .lit (.int .u8 23), .lit (.int .u8 21), .lit (.int .u8 19), .lit (.int .u8 16), .lit (.int .u8 7), .lit (.int .u8 26), .lit (.int .u8 12), .lit (.int .u8 18), .lit (.int .u8 6), .lit (.int .u8 11), .lit (.int .u8 5), .lit (.int .u8 10), .lit (.int .u8 9)]
def laid_math_bits_deBruijn64tab {H : Type} : DataW H := .agg [.lit (.int .u8 0), .lit (.int .u8 1), .lit (.int .u8 56), .lit (.int .u8 2), .lit (.int .u8 57), .lit (.int .u8 49), .lit (.int .u8 28), .lit (.int .u8 3), .lit (.int .u8 61), .lit (.int .u8 58), .lit (.int .u8 42), .lit (.int .u8 50), .lit (.int .u8 38), .lit (.int .u8 29), .lit (.int .u8 17), .lit (.int .u8 4), .lit (.int .u8 62), .lit (.int .u8 47), .lit (.int .u8 59), .lit (.int .u8 36), .lit (.int .u8 45), .lit (.int .u8 43), .lit (.int .u8 51), .lit (.int .u8 22), .lit (.int .u8 53), .lit (.int .u8 39), .lit (.int .u8 33), .lit (.int .u8 30), .lit (.int .u8 24), .lit (.int .u8 18), .lit (.int .u8 12), .lit (.int .u8 5), .lit (.int .u8 63), .lit (.int .u8 55), .lit (.int .u8 48), .lit (.int .u8 27), .lit (.int .u8 60), .lit (.int .u8 41), .lit (.int .u8 37), .lit (.int .u8 16), .lit (.int .u8 46), .lit (.int .u8 35), .lit (.int .u8 44), .lit (.int .u8 21), .lit (.int .u8 52), .lit (.int .u8 32), .lit (.int .u8 23), .lit (.int .u8 11), .lit (.int .u8 54), .lit (.int .u8 26), .lit (.int .u8 40), .lit (.int .u8 15), .lit (.int .u8 34), .lit (.int .u8 20), .lit (.int .u8 31), .lit (.int .u8 10), .lit (.int .u8 25), .lit (.int .u8 14), .lit (.int .u8 19), .lit (.int .u8 9), .lit (.int .u8 13), .lit (.int .u8 8), .lit (.int .u8 7), .lit (.int .u8 6)]
def laid_internal_strconv_uint64pow10 {H : Type} : DataW H := .agg [.lit (.int .u64 1), .lit (.int .u64 10), .lit (.int .u64 100), .lit (.int .u64 1000), .lit (.int .u64 10000), .lit (.int .u64 100000), .lit (.int .u64 1000000), .lit (.int .u64 10000000), .lit (.int .u64 100000000), .lit (.int .u64 1000000000), .lit (.int .u64 10000000000), .lit (.int .u64 100000000000), .lit (.int .u64 1000000000000), .lit (.int .u64 10000000000000), .lit (.int .u64 100000000000000), .lit (.int .u64 1000000000000000), .lit (.int .u64 10000000000000000), .lit (.int .u64 100000000000000000), .lit (.int .u64 1000000000000000000), .lit (.int .u64 10000000000000000000)]
def laid_errors_errorType {H : Type} : DataW H := .iface "internal/reflectlite.rtype" (.agg [.ptr (.lit (.string [101, 114, 114, 111, 114]))])
def laid_tesserae_filter_errNone {H : Type} : DataW H := .iface "*errors.errorString" (.ptr (.agg [.lit (.string [110, 111, 32, 102, 105, 108, 116, 101, 114])]))
def laid_tesserae_filter_errGrain {H : Type} : DataW H := .iface "*errors.errorString" (.ptr (.agg [.lit (.string [116, 111, 111, 32, 102, 105, 110, 101])]))

/-- 'tesseraelaw18.OrderOne': WHATEVER THE INPUT: true; the input reads as it did. -/
def orderOneSpec : ChangeSpec := { name := "orderOne", fn := fun _ => fun
  | [d1, d2, d3, d4] => { results := [.lit (.bool true)], args := [d1, d2, d3, d4] }
  | _ => none }
def orderOneRow : OpenClaim := { program := "ytejleplhmkmegaagreatdoor", sum := "e28a3f251eb0f23fada5487e30a04819f59ba83c5fbf44694c98c5e8af761da8", func := "tesserae/tesseraelaw18.OrderOne", spec := "orderOne", inPlace := ["internal/abi.NoEscape", "math.Float64frombits", "math.Float64bits", "internal/bytealg.MakeNoZero", "math/bits.Sub64", "internal/bytealg.abigen_runtime_cmpstring"], unfollowed := true, recurses := true, named := ["internal/strconv.uint64pow10", "math/bits.deBruijn32tab", "math/bits.deBruijn64tab"], loops := true, apart := false, laid := [("math/bits.deBruijn32tab", laid_math_bits_deBruijn32tab), ("math/bits.deBruijn64tab", laid_math_bits_deBruijn64tab), ("internal/strconv.uint64pow10", laid_internal_strconv_uint64pow10)] }
def OrderOneSaid : Prop := orderOneRow.holds Tryz.pinned (OpenSpec.ofChange orderOneSpec)

/-- ITS FALSE NEIGHBOUR: 'it returns false'. Refute it at one input. -/
def orderOneWrong : ChangeSpec := { name := "orderOne", fn := fun _ => fun
  | [d1, d2, d3, d4] => { results := [.lit (.bool false)], args := [d1, d2, d3, d4] }
  | _ => none }
def OrderOneWrongFalsely : Prop := orderOneRow.holds Tryz.pinned (OpenSpec.ofChange orderOneWrong)

/-- 'tesseraelaw18.OrderLines': WHATEVER THE INPUT: true; the input reads as it did. -/
def orderLinesSpec : ChangeSpec := { name := "orderLines", fn := fun _ => fun
  | [d1, d2, d3] => { results := [.lit (.bool true)], args := [d1, d2, d3] }
  | _ => none }
def orderLinesRow : OpenClaim := { program := "ytejleplhmkmegaagreatdoor", sum := "e28a3f251eb0f23fada5487e30a04819f59ba83c5fbf44694c98c5e8af761da8", func := "tesserae/tesseraelaw18.OrderLines", spec := "orderLines", inPlace := ["internal/abi.NoEscape", "math.Float64frombits", "math.Float64bits", "internal/bytealg.MakeNoZero", "math/bits.Sub64", "internal/reflectlite.TypeOf", "internal/reflectlite.ValueOf", "(internal/reflectlite.Value).Type", "(internal/reflectlite.Value).IsNil", "(internal/reflectlite.Value).Elem", "(internal/reflectlite.Value).Set", "internal/bytealg.abigen_runtime_cmpstring"], unfollowed := true, recurses := true, named := ["internal/strconv.uint64pow10", "math/bits.deBruijn32tab", "math/bits.deBruijn64tab", "tesserae/filter.errNone", "tesserae/filter.errGrain", "errors.errorType"], loops := true, apart := false, laid := [("math/bits.deBruijn32tab", laid_math_bits_deBruijn32tab), ("math/bits.deBruijn64tab", laid_math_bits_deBruijn64tab), ("internal/strconv.uint64pow10", laid_internal_strconv_uint64pow10), ("errors.errorType", laid_errors_errorType), ("tesserae/filter.errNone", laid_tesserae_filter_errNone), ("tesserae/filter.errGrain", laid_tesserae_filter_errGrain)] }
def OrderLinesSaid : Prop := orderLinesRow.holds Tryz.pinned (OpenSpec.ofChange orderLinesSpec)

/-- ITS FALSE NEIGHBOUR: 'it returns false'. Refute it at one input. -/
def orderLinesWrong : ChangeSpec := { name := "orderLines", fn := fun _ => fun
  | [d1, d2, d3] => { results := [.lit (.bool false)], args := [d1, d2, d3] }
  | _ => none }
def OrderLinesWrongFalsely : Prop := orderLinesRow.holds Tryz.pinned (OpenSpec.ofChange orderLinesWrong)

/-- 'tesseraelaw18.OrderLimits': WHATEVER THE INPUT: true; the input reads as it did. -/
def orderLimitsSpec : ChangeSpec := { name := "orderLimits", fn := fun _ => fun
  | [d1, d2, d3, d4] => { results := [.lit (.bool true)], args := [d1, d2, d3, d4] }
  | _ => none }
def orderLimitsRow : OpenClaim := { program := "ytejleplhmkmegaagreatdoor", sum := "e28a3f251eb0f23fada5487e30a04819f59ba83c5fbf44694c98c5e8af761da8", func := "tesserae/tesseraelaw18.OrderLimits", spec := "orderLimits", inPlace := ["internal/abi.NoEscape", "math.Float64frombits", "math.Float64bits", "internal/bytealg.MakeNoZero", "math/bits.Sub64", "internal/reflectlite.TypeOf", "internal/reflectlite.ValueOf", "(internal/reflectlite.Value).Type", "(internal/reflectlite.Value).IsNil", "(internal/reflectlite.Value).Elem", "(internal/reflectlite.Value).Set", "internal/bytealg.abigen_runtime_cmpstring"], unfollowed := true, recurses := true, named := ["internal/strconv.uint64pow10", "math/bits.deBruijn32tab", "math/bits.deBruijn64tab", "tesserae/filter.errNone", "tesserae/filter.errGrain", "errors.errorType"], loops := true, apart := false, laid := [("math/bits.deBruijn32tab", laid_math_bits_deBruijn32tab), ("math/bits.deBruijn64tab", laid_math_bits_deBruijn64tab), ("internal/strconv.uint64pow10", laid_internal_strconv_uint64pow10), ("errors.errorType", laid_errors_errorType), ("tesserae/filter.errNone", laid_tesserae_filter_errNone), ("tesserae/filter.errGrain", laid_tesserae_filter_errGrain)] }
def OrderLimitsSaid : Prop := orderLimitsRow.holds Tryz.pinned (OpenSpec.ofChange orderLimitsSpec)

/-- ITS FALSE NEIGHBOUR: 'it returns false'. Refute it at one input. -/
def orderLimitsWrong : ChangeSpec := { name := "orderLimits", fn := fun _ => fun
  | [d1, d2, d3, d4] => { results := [.lit (.bool false)], args := [d1, d2, d3, d4] }
  | _ => none }
def OrderLimitsWrongFalsely : Prop := orderLimitsRow.holds Tryz.pinned (OpenSpec.ofChange orderLimitsWrong)

/-- 'tesseraelaw18.OrderHalves': WHATEVER THE INPUT: true; the input reads as it did. -/
def orderHalvesSpec : ChangeSpec := { name := "orderHalves", fn := fun _ => fun
  | [d1, d2, d3, d4] => { results := [.lit (.bool true)], args := [d1, d2, d3, d4] }
  | _ => none }
def orderHalvesRow : OpenClaim := { program := "ytejleplhmkmegaagreatdoor", sum := "e28a3f251eb0f23fada5487e30a04819f59ba83c5fbf44694c98c5e8af761da8", func := "tesserae/tesseraelaw18.OrderHalves", spec := "orderHalves", inPlace := ["internal/abi.NoEscape", "math.Float64frombits", "math.Float64bits", "internal/bytealg.MakeNoZero", "math/bits.Sub64", "internal/reflectlite.TypeOf", "internal/reflectlite.ValueOf", "(internal/reflectlite.Value).Type", "(internal/reflectlite.Value).IsNil", "(internal/reflectlite.Value).Elem", "(internal/reflectlite.Value).Set", "internal/bytealg.abigen_runtime_cmpstring"], unfollowed := true, recurses := true, named := ["internal/strconv.uint64pow10", "math/bits.deBruijn32tab", "math/bits.deBruijn64tab", "tesserae/filter.errNone", "tesserae/filter.errGrain", "errors.errorType"], loops := true, apart := false, laid := [("math/bits.deBruijn32tab", laid_math_bits_deBruijn32tab), ("math/bits.deBruijn64tab", laid_math_bits_deBruijn64tab), ("internal/strconv.uint64pow10", laid_internal_strconv_uint64pow10), ("errors.errorType", laid_errors_errorType), ("tesserae/filter.errNone", laid_tesserae_filter_errNone), ("tesserae/filter.errGrain", laid_tesserae_filter_errGrain)] }
def OrderHalvesSaid : Prop := orderHalvesRow.holds Tryz.pinned (OpenSpec.ofChange orderHalvesSpec)

/-- ITS FALSE NEIGHBOUR: 'it returns false'. Refute it at one input. -/
def orderHalvesWrong : ChangeSpec := { name := "orderHalves", fn := fun _ => fun
  | [d1, d2, d3, d4] => { results := [.lit (.bool false)], args := [d1, d2, d3, d4] }
  | _ => none }
def OrderHalvesWrongFalsely : Prop := orderHalvesRow.holds Tryz.pinned (OpenSpec.ofChange orderHalvesWrong)

/-- 'tesseraelaw18.OrderSorted': WHATEVER THE INPUT: true; the input reads as it did. -/
def orderSortedSpec : ChangeSpec := { name := "orderSorted", fn := fun _ => fun
  | [d1, d2, d3] => { results := [.lit (.bool true)], args := [d1, d2, d3] }
  | _ => none }
def orderSortedRow : OpenClaim := { program := "ytejleplhmkmegaagreatdoor", sum := "e28a3f251eb0f23fada5487e30a04819f59ba83c5fbf44694c98c5e8af761da8", func := "tesserae/tesseraelaw18.OrderSorted", spec := "orderSorted", inPlace := ["internal/abi.NoEscape", "math.Float64frombits", "math.Float64bits", "internal/bytealg.MakeNoZero", "math/bits.Sub64", "internal/reflectlite.TypeOf", "internal/reflectlite.ValueOf", "(internal/reflectlite.Value).Type", "(internal/reflectlite.Value).IsNil", "(internal/reflectlite.Value).Elem", "(internal/reflectlite.Value).Set", "internal/bytealg.abigen_runtime_cmpstring"], unfollowed := true, recurses := true, named := ["internal/strconv.uint64pow10", "math/bits.deBruijn32tab", "math/bits.deBruijn64tab", "tesserae/filter.errNone", "tesserae/filter.errGrain", "errors.errorType"], loops := true, apart := false, laid := [("math/bits.deBruijn32tab", laid_math_bits_deBruijn32tab), ("math/bits.deBruijn64tab", laid_math_bits_deBruijn64tab), ("internal/strconv.uint64pow10", laid_internal_strconv_uint64pow10), ("errors.errorType", laid_errors_errorType), ("tesserae/filter.errNone", laid_tesserae_filter_errNone), ("tesserae/filter.errGrain", laid_tesserae_filter_errGrain)] }
def OrderSortedSaid : Prop := orderSortedRow.holds Tryz.pinned (OpenSpec.ofChange orderSortedSpec)

/-- ITS FALSE NEIGHBOUR: 'it returns false'. Refute it at one input. -/
def orderSortedWrong : ChangeSpec := { name := "orderSorted", fn := fun _ => fun
  | [d1, d2, d3] => { results := [.lit (.bool false)], args := [d1, d2, d3] }
  | _ => none }
def OrderSortedWrongFalsely : Prop := orderSortedRow.holds Tryz.pinned (OpenSpec.ofChange orderSortedWrong)

/- THE SECOND FORM. 'bulk': how many values and letters a reading holds, each counted each time it is reached (what is shared counts as often as it is met; a slice's spare places count too). A statement '..UptoSaid' is the law's where the arguments, and the package variables that the reading takes, are together of bulk at most 1048576: NARROWER than '..Said'. Prove '..Said' where nothing that the law and all that it calls make is longer than what came in: it says more and counts as full. Else prove '..UptoSaid'. A law counts once. -/
mutual
def uptoBulk {H : Type} : DataW H → Nat
  | .lit (.string bytes) => bytes.length + 1
  | .lit _ => 1
  | .nil => 1
  | .ptr d => uptoBulk d + 1
  | .slice elems spare => uptoBulkAll elems + uptoBulkAll spare + 1
  | .agg parts => uptoBulkAll parts + 1
  | .iface _ d => uptoBulk d + 1
  | .map entries => uptoBulkEntries entries + 1
  | .held _ => 1
def uptoBulkAll {H : Type} : List (DataW H) → Nat
  | [] => 0
  | d :: r => uptoBulk d + uptoBulkAll r
def uptoBulkEntries {H : Type} : List (Lit × DataW H) → Nat
  | [] => 0
  | x :: r => uptoBulkEntry x + uptoBulkEntries r
def uptoBulkEntry {H : Type} : Lit × DataW H → Nat
  | (.string bytes, d) => bytes.length + uptoBulk d + 1
  | (_, d) => uptoBulk d + 1
 end
def uptoSmall : (H : Type) → List (DataW H) → Bool := fun _ ds => decide (uptoBulkAll ds ≤ 1048576)
def OpenSpec.upto (s : _root_.Go.ChangeSpec) : _root_.Go.OpenSpec := { _root_.Go.OpenSpec.ofChange s with cond := some uptoSmall }

/-- 'tesseraelaw18.OrderOne', WHERE WHAT IT READS IS OF BULK AT MOST 1048576: true; the input reads as it did. -/
def orderOneUptoRow : OpenClaim := { program := "ytejleplhmkmegaagreatdoor", sum := "e28a3f251eb0f23fada5487e30a04819f59ba83c5fbf44694c98c5e8af761da8", func := "tesserae/tesseraelaw18.OrderOne", spec := "orderOne", inPlace := ["internal/abi.NoEscape", "math.Float64frombits", "math.Float64bits", "internal/bytealg.MakeNoZero", "math/bits.Sub64", "internal/bytealg.abigen_runtime_cmpstring"], unfollowed := true, recurses := true, named := ["internal/strconv.uint64pow10", "math/bits.deBruijn32tab", "math/bits.deBruijn64tab"], loops := true, apart := false, laid := [("math/bits.deBruijn32tab", laid_math_bits_deBruijn32tab), ("math/bits.deBruijn64tab", laid_math_bits_deBruijn64tab), ("internal/strconv.uint64pow10", laid_internal_strconv_uint64pow10)], narrowed := true }
def OrderOneUptoSaid : Prop := orderOneUptoRow.holds Tryz.pinned (OpenSpec.upto orderOneSpec)

/-- 'tesseraelaw18.OrderLines', WHERE WHAT IT READS IS OF BULK AT MOST 1048576: true; the input reads as it did. -/
def orderLinesUptoRow : OpenClaim := { program := "ytejleplhmkmegaagreatdoor", sum := "e28a3f251eb0f23fada5487e30a04819f59ba83c5fbf44694c98c5e8af761da8", func := "tesserae/tesseraelaw18.OrderLines", spec := "orderLines", inPlace := ["internal/abi.NoEscape", "math.Float64frombits", "math.Float64bits", "internal/bytealg.MakeNoZero", "math/bits.Sub64", "internal/reflectlite.TypeOf", "internal/reflectlite.ValueOf", "(internal/reflectlite.Value).Type", "(internal/reflectlite.Value).IsNil", "(internal/reflectlite.Value).Elem", "(internal/reflectlite.Value).Set", "internal/bytealg.abigen_runtime_cmpstring"], unfollowed := true, recurses := true, named := ["internal/strconv.uint64pow10", "math/bits.deBruijn32tab", "math/bits.deBruijn64tab", "tesserae/filter.errNone", "tesserae/filter.errGrain", "errors.errorType"], loops := true, apart := false, laid := [("math/bits.deBruijn32tab", laid_math_bits_deBruijn32tab), ("math/bits.deBruijn64tab", laid_math_bits_deBruijn64tab), ("internal/strconv.uint64pow10", laid_internal_strconv_uint64pow10), ("errors.errorType", laid_errors_errorType), ("tesserae/filter.errNone", laid_tesserae_filter_errNone), ("tesserae/filter.errGrain", laid_tesserae_filter_errGrain)], narrowed := true }
def OrderLinesUptoSaid : Prop := orderLinesUptoRow.holds Tryz.pinned (OpenSpec.upto orderLinesSpec)

/-- 'tesseraelaw18.OrderLimits', WHERE WHAT IT READS IS OF BULK AT MOST 1048576: true; the input reads as it did. -/
def orderLimitsUptoRow : OpenClaim := { program := "ytejleplhmkmegaagreatdoor", sum := "e28a3f251eb0f23fada5487e30a04819f59ba83c5fbf44694c98c5e8af761da8", func := "tesserae/tesseraelaw18.OrderLimits", spec := "orderLimits", inPlace := ["internal/abi.NoEscape", "math.Float64frombits", "math.Float64bits", "internal/bytealg.MakeNoZero", "math/bits.Sub64", "internal/reflectlite.TypeOf", "internal/reflectlite.ValueOf", "(internal/reflectlite.Value).Type", "(internal/reflectlite.Value).IsNil", "(internal/reflectlite.Value).Elem", "(internal/reflectlite.Value).Set", "internal/bytealg.abigen_runtime_cmpstring"], unfollowed := true, recurses := true, named := ["internal/strconv.uint64pow10", "math/bits.deBruijn32tab", "math/bits.deBruijn64tab", "tesserae/filter.errNone", "tesserae/filter.errGrain", "errors.errorType"], loops := true, apart := false, laid := [("math/bits.deBruijn32tab", laid_math_bits_deBruijn32tab), ("math/bits.deBruijn64tab", laid_math_bits_deBruijn64tab), ("internal/strconv.uint64pow10", laid_internal_strconv_uint64pow10), ("errors.errorType", laid_errors_errorType), ("tesserae/filter.errNone", laid_tesserae_filter_errNone), ("tesserae/filter.errGrain", laid_tesserae_filter_errGrain)], narrowed := true }
def OrderLimitsUptoSaid : Prop := orderLimitsUptoRow.holds Tryz.pinned (OpenSpec.upto orderLimitsSpec)

/-- 'tesseraelaw18.OrderHalves', WHERE WHAT IT READS IS OF BULK AT MOST 1048576: true; the input reads as it did. -/
def orderHalvesUptoRow : OpenClaim := { program := "ytejleplhmkmegaagreatdoor", sum := "e28a3f251eb0f23fada5487e30a04819f59ba83c5fbf44694c98c5e8af761da8", func := "tesserae/tesseraelaw18.OrderHalves", spec := "orderHalves", inPlace := ["internal/abi.NoEscape", "math.Float64frombits", "math.Float64bits", "internal/bytealg.MakeNoZero", "math/bits.Sub64", "internal/reflectlite.TypeOf", "internal/reflectlite.ValueOf", "(internal/reflectlite.Value).Type", "(internal/reflectlite.Value).IsNil", "(internal/reflectlite.Value).Elem", "(internal/reflectlite.Value).Set", "internal/bytealg.abigen_runtime_cmpstring"], unfollowed := true, recurses := true, named := ["internal/strconv.uint64pow10", "math/bits.deBruijn32tab", "math/bits.deBruijn64tab", "tesserae/filter.errNone", "tesserae/filter.errGrain", "errors.errorType"], loops := true, apart := false, laid := [("math/bits.deBruijn32tab", laid_math_bits_deBruijn32tab), ("math/bits.deBruijn64tab", laid_math_bits_deBruijn64tab), ("internal/strconv.uint64pow10", laid_internal_strconv_uint64pow10), ("errors.errorType", laid_errors_errorType), ("tesserae/filter.errNone", laid_tesserae_filter_errNone), ("tesserae/filter.errGrain", laid_tesserae_filter_errGrain)], narrowed := true }
def OrderHalvesUptoSaid : Prop := orderHalvesUptoRow.holds Tryz.pinned (OpenSpec.upto orderHalvesSpec)

/-- 'tesseraelaw18.OrderSorted', WHERE WHAT IT READS IS OF BULK AT MOST 1048576: true; the input reads as it did. -/
def orderSortedUptoRow : OpenClaim := { program := "ytejleplhmkmegaagreatdoor", sum := "e28a3f251eb0f23fada5487e30a04819f59ba83c5fbf44694c98c5e8af761da8", func := "tesserae/tesseraelaw18.OrderSorted", spec := "orderSorted", inPlace := ["internal/abi.NoEscape", "math.Float64frombits", "math.Float64bits", "internal/bytealg.MakeNoZero", "math/bits.Sub64", "internal/reflectlite.TypeOf", "internal/reflectlite.ValueOf", "(internal/reflectlite.Value).Type", "(internal/reflectlite.Value).IsNil", "(internal/reflectlite.Value).Elem", "(internal/reflectlite.Value).Set", "internal/bytealg.abigen_runtime_cmpstring"], unfollowed := true, recurses := true, named := ["internal/strconv.uint64pow10", "math/bits.deBruijn32tab", "math/bits.deBruijn64tab", "tesserae/filter.errNone", "tesserae/filter.errGrain", "errors.errorType"], loops := true, apart := false, laid := [("math/bits.deBruijn32tab", laid_math_bits_deBruijn32tab), ("math/bits.deBruijn64tab", laid_math_bits_deBruijn64tab), ("internal/strconv.uint64pow10", laid_internal_strconv_uint64pow10), ("errors.errorType", laid_errors_errorType), ("tesserae/filter.errNone", laid_tesserae_filter_errNone), ("tesserae/filter.errGrain", laid_tesserae_filter_errGrain)], narrowed := true }
def OrderSortedUptoSaid : Prop := orderSortedUptoRow.holds Tryz.pinned (OpenSpec.upto orderSortedSpec)

end Rows
end Go.Proofs.YtejleplhmkmegaaGreatDoor
