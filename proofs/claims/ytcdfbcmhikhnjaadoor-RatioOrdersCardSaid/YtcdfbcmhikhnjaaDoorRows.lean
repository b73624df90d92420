/-
  NARROWER THAN 'FOR EVERY INPUT', by the rows' own cells (each row's printed sentence says how): RatioOne: laid · RatioSigns: laid · RatioOf: laid · RatioWhole: laid · RatioBetween: laid · RatioOrders: laid · RatioBack: laid.
  DERIVED. THE GIVEN ROWS OF THIS SEAT. 7 by the template 'for every input the law returns true; each argument reads behind the call as it read before'; 0 by the template 'total and deterministic' (their statements: YtcdfbcmhikhnjaaDoorTotals.lean).
  GIVEN WITH THE SEED: the statements are not yours to turn. If you find one false, say at which input.
  Laid BY PROGRAM, IN A SANDBOX (cutbox-rows.mjs): the forced cells as the released guide's own fill.sh prints them over the translation 27e081e90e373332… (all of the seat's roots in one cut). By AI agents, Wed Nov 11 2026. No macro, syntax, notation, axiom, sorry.
-/
import Derived.Test.YtcdfbcmhikhnjaaDoorChecked
import GoSem.Claim
import GoSem.ClaimJoined
import GoSem.ClaimMapViews
import Derived.JoinedTies
import Derived.KernelRfl
namespace Go.Proofs.YtcdfbcmhikhnjaaDoor
/- THE CELL 'sum', in the pinned program and in every row, IS THE sha256 OF THE DUMP (.gsa) THAT YtcdfbcmhikhnjaaDoorProg.lean LOADS. Nothing in Lean hashes anything: it is a label: what it is worth is what the hold of that sum in a sandbox is worth. -/
noncomputable def Tryd.pinned : Pinned := { name := "ytcdfbcmhikhnjaadoor", sum := "27e081e90e3733321ae2f7f425e06f2c03cdec1148e4e5b7b7152bbe0265e963", checked := Tryd.checked }
namespace Rows
def none {H : Type} : Left H := { results := [], args := [] }

/- WHAT THE LISTED PACKAGE-LEVEL VARIABLES READ AS WHEN THE CALL BEGINS. Each datum BY PROGRAM (the guide's laid-datum.mjs) off the statement by which the dump's own 'gosem.cut.vars' lays the variable. In a bare row this is a premise. The card (YtcdfbcmhikhnjaaDoorCards.lean) ties it to the program's text. -/
def laid_math_bits_deBruijn32tab {H : Type} : DataW H := .agg [.lit (.int .u8 0), .lit (.int .u8 1), .lit (.int .u8 28), .lit (.int .u8 2), .lit (.int .u8 29), .lit (.int .u8 14), .lit (.int .u8 24), .lit (.int .u8 3), .lit (.int .u8 30), .lit (.int .u8 22), .lit (.int .u8 20), .lit (.int .u8 15), .lit (.int .u8 25), .lit (.int .u8 17), .lit (.int .u8 4), .lit (.int .u8 8), .lit (.int .u8 31), .lit (.int .u8 27), .lit (.int .u8 13), .lit (.int .u8 23), .lit (.int .u8 21), .lit (.int .u8 19), .lit (.int .u8 16), .lit (.int .u8 7), .lit (.int .u8 26), .lit (.int .u8 12), .lit (.int .u8 18), .lit (.int .u8 6), .lit (.int .u8 11), .lit (.int .u8 5), .lit (.int .u8 10), .lit (.int .u8 9)]
def laid_math_bits_deBruijn64tab {H : Type} : DataW H := .agg [.lit (.int .u8 0), .lit (.int .u8 1), .lit (.int .u8 56), .lit (.int .u8 2), .lit (.int .u8 57), .lit (.int .u8 49), .lit (.int .u8 28), .lit (.int .u8 3), .lit (.int .u8 61), .lit (.int .u8 58), .lit (.int .u8 42), .lit (.int .u8 50), .lit (.int .u8 38), .lit (.int .u8 29), .lit (.int .u8 17), .lit (.int .u8 4), .lit (.int .u8 62), .lit (.int .u8 47), .lit (.int .u8 59), .lit (.int .u8 36), .lit (.int .u8 45), .lit (.int .u8 43), .lit (.int .u8 51), .lit (.int .u8 22), .lit (.int .u8 53), .lit (.int .u8 39), .lit (.int .u8 33), .lit (.int .u8 30), .lit (.int .u8 24), .lit (.int .u8 18), .lit (.int .u8 12), .lit (.int .u8 5), .lit (.int .u8 63), .lit (.int .u8 55), .lit (.int .u8 48), .lit (.int .u8 27), .lit (.int .u8 60), .lit (.int .u8 41), .lit (.int .u8 37), .lit (.int .u8 16), .lit (.int .u8 46), .lit (.int .u8 35), .lit (.int .u8 44), .lit (.int .u8 21), .lit (.int .u8 52), .lit (.int .u8 32), .lit (.int .u8 23), .lit (.int .u8 11), .lit (.int .u8 54), .lit (.int .u8 26), .lit (.int .u8 40), .lit (.int .u8 15), .lit (.int .u8 34), .lit (.int .u8 20), .lit (.int .u8 31), .lit (.int .u8 10), .lit (.int .u8 25), .lit (.int .u8 14), .lit (.int .u8 19), .lit (.int .u8 9), .lit (.int .u8 13), .lit (.int .u8 8), .lit (.int .u8 7), .lit (.int .u8 6)]
def laid_internal_strconv_uint64pow10 {H : Type} : DataW H := .agg [.lit (.int .u64 1), .lit (.int .u64 10), .lit (.int .u64 100), .lit (.int .u64 1000), .lit (.int .u64 10000), .lit (.int .u64 100000), .lit (.int .u64 1000000), .lit (.int .u64 10000000), .lit (.int .u64 100000000), .lit (.int .u64 1000000000), .lit (.int .u64 10000000000), .lit (.int .u64 100000000000), .lit (.int .u64 1000000000000), .lit (.int .u64 10000000000000), .lit (.int .u64 100000000000000), .lit (.int .u64 1000000000000000), .lit (.int .u64 10000000000000000), .lit (.int .u64 100000000000000000), .lit (.int .u64 1000000000000000000), .lit (.int .u64 10000000000000000000)]

/-- 'tesseraelaw09.RatioOne': WHATEVER THE INPUT: true; the input reads as it did. -/
def ratioOneSpec : ChangeSpec := { name := "ratioOne", fn := fun _ => fun
  | [d1, d2, d3] => { results := [.lit (.bool true)], args := [d1, d2, d3] }
  | _ => none }
def ratioOneRow : OpenClaim := { program := "ytcdfbcmhikhnjaadoor", sum := "27e081e90e3733321ae2f7f425e06f2c03cdec1148e4e5b7b7152bbe0265e963", func := "tesserae/tesseraelaw09.RatioOne", spec := "ratioOne", inPlace := ["math.Float64frombits", "math/bits.Sub64", "math.Float64bits"], unfollowed := true, recurses := true, named := ["math/bits.deBruijn64tab", "internal/strconv.uint64pow10", "math/bits.deBruijn32tab"], apart := false, laid := [("math/bits.deBruijn32tab", laid_math_bits_deBruijn32tab), ("math/bits.deBruijn64tab", laid_math_bits_deBruijn64tab), ("internal/strconv.uint64pow10", laid_internal_strconv_uint64pow10)] }
def RatioOneSaid : Prop := ratioOneRow.holds Tryd.pinned (OpenSpec.ofChange ratioOneSpec)

/-- ITS FALSE NEIGHBOUR: 'it returns false'. Refute it at one input. -/
def ratioOneWrong : ChangeSpec := { name := "ratioOne", fn := fun _ => fun
  | [d1, d2, d3] => { results := [.lit (.bool false)], args := [d1, d2, d3] }
  | _ => none }
def RatioOneWrongFalsely : Prop := ratioOneRow.holds Tryd.pinned (OpenSpec.ofChange ratioOneWrong)

/-- 'tesseraelaw09.RatioSigns': WHATEVER THE INPUT: true; the input reads as it did. -/
def ratioSignsSpec : ChangeSpec := { name := "ratioSigns", fn := fun _ => fun
  | [d1, d2] => { results := [.lit (.bool true)], args := [d1, d2] }
  | _ => none }
def ratioSignsRow : OpenClaim := { program := "ytcdfbcmhikhnjaadoor", sum := "27e081e90e3733321ae2f7f425e06f2c03cdec1148e4e5b7b7152bbe0265e963", func := "tesserae/tesseraelaw09.RatioSigns", spec := "ratioSigns", inPlace := ["math.Float64frombits", "math/bits.Sub64", "math.Float64bits"], unfollowed := true, recurses := true, named := ["math/bits.deBruijn64tab", "internal/strconv.uint64pow10", "math/bits.deBruijn32tab"], apart := false, laid := [("math/bits.deBruijn32tab", laid_math_bits_deBruijn32tab), ("math/bits.deBruijn64tab", laid_math_bits_deBruijn64tab), ("internal/strconv.uint64pow10", laid_internal_strconv_uint64pow10)] }
def RatioSignsSaid : Prop := ratioSignsRow.holds Tryd.pinned (OpenSpec.ofChange ratioSignsSpec)

/-- ITS FALSE NEIGHBOUR: 'it returns false'. Refute it at one input. -/
def ratioSignsWrong : ChangeSpec := { name := "ratioSigns", fn := fun _ => fun
  | [d1, d2] => { results := [.lit (.bool false)], args := [d1, d2] }
  | _ => none }
def RatioSignsWrongFalsely : Prop := ratioSignsRow.holds Tryd.pinned (OpenSpec.ofChange ratioSignsWrong)

/-- 'tesseraelaw09.RatioOf': WHATEVER THE INPUT: true; the input reads as it did. -/
def ratioOfSpec : ChangeSpec := { name := "ratioOf", fn := fun _ => fun
  | [d1, d2] => { results := [.lit (.bool true)], args := [d1, d2] }
  | _ => none }
def ratioOfRow : OpenClaim := { program := "ytcdfbcmhikhnjaadoor", sum := "27e081e90e3733321ae2f7f425e06f2c03cdec1148e4e5b7b7152bbe0265e963", func := "tesserae/tesseraelaw09.RatioOf", spec := "ratioOf", inPlace := ["math.Float64frombits", "math/bits.Sub64", "math.Float64bits"], unfollowed := true, recurses := true, named := ["math/bits.deBruijn64tab", "internal/strconv.uint64pow10", "math/bits.deBruijn32tab"], apart := false, laid := [("math/bits.deBruijn32tab", laid_math_bits_deBruijn32tab), ("math/bits.deBruijn64tab", laid_math_bits_deBruijn64tab), ("internal/strconv.uint64pow10", laid_internal_strconv_uint64pow10)] }
def RatioOfSaid : Prop := ratioOfRow.holds Tryd.pinned (OpenSpec.ofChange ratioOfSpec)

/-- ITS FALSE NEIGHBOUR: 'it returns false'. Refute it at one input. -/
def ratioOfWrong : ChangeSpec := { name := "ratioOf", fn := fun _ => fun
  | [d1, d2] => { results := [.lit (.bool false)], args := [d1, d2] }
  | _ => none }
def RatioOfWrongFalsely : Prop := ratioOfRow.holds Tryd.pinned (OpenSpec.ofChange ratioOfWrong)

/-- 'tesseraelaw09.RatioWhole': WHATEVER THE INPUT: true; the input reads as it did. -/
def ratioWholeSpec : ChangeSpec := { name := "ratioWhole", fn := fun _ => fun
  | [d1, d2] => { results := [.lit (.bool true)], args := [d1, d2] }
  | _ => none }
def ratioWholeRow : OpenClaim := { program := "ytcdfbcmhikhnjaadoor", sum := "27e081e90e3733321ae2f7f425e06f2c03cdec1148e4e5b7b7152bbe0265e963", func := "tesserae/tesseraelaw09.RatioWhole", spec := "ratioWhole", inPlace := ["math.Float64frombits", "math/bits.Sub64", "math.Float64bits"], unfollowed := true, recurses := true, named := ["math/bits.deBruijn64tab", "internal/strconv.uint64pow10", "math/bits.deBruijn32tab"], apart := false, laid := [("math/bits.deBruijn32tab", laid_math_bits_deBruijn32tab), ("math/bits.deBruijn64tab", laid_math_bits_deBruijn64tab), ("internal/strconv.uint64pow10", laid_internal_strconv_uint64pow10)] }
def RatioWholeSaid : Prop := ratioWholeRow.holds Tryd.pinned (OpenSpec.ofChange ratioWholeSpec)

/-- ITS FALSE NEIGHBOUR: 'it returns false'. Refute it at one input. -/
def ratioWholeWrong : ChangeSpec := { name := "ratioWhole", fn := fun _ => fun
  | [d1, d2] => { results := [.lit (.bool false)], args := [d1, d2] }
  | _ => none }
def RatioWholeWrongFalsely : Prop := ratioWholeRow.holds Tryd.pinned (OpenSpec.ofChange ratioWholeWrong)

/-- 'tesseraelaw09.RatioBetween': WHATEVER THE INPUT: true; the input reads as it did. -/
def ratioBetweenSpec : ChangeSpec := { name := "ratioBetween", fn := fun _ => fun
  | [d1, d2] => { results := [.lit (.bool true)], args := [d1, d2] }
  | _ => none }
def ratioBetweenRow : OpenClaim := { program := "ytcdfbcmhikhnjaadoor", sum := "27e081e90e3733321ae2f7f425e06f2c03cdec1148e4e5b7b7152bbe0265e963", func := "tesserae/tesseraelaw09.RatioBetween", spec := "ratioBetween", inPlace := ["math.Float64frombits", "math/bits.Sub64", "math.Float64bits", "math/bits.Add64"], unfollowed := true, recurses := true, named := ["math/bits.deBruijn64tab", "internal/strconv.uint64pow10", "math/bits.deBruijn32tab"], apart := false, laid := [("math/bits.deBruijn32tab", laid_math_bits_deBruijn32tab), ("math/bits.deBruijn64tab", laid_math_bits_deBruijn64tab), ("internal/strconv.uint64pow10", laid_internal_strconv_uint64pow10)] }
def RatioBetweenSaid : Prop := ratioBetweenRow.holds Tryd.pinned (OpenSpec.ofChange ratioBetweenSpec)

/-- ITS FALSE NEIGHBOUR: 'it returns false'. Refute it at one input. -/
def ratioBetweenWrong : ChangeSpec := { name := "ratioBetween", fn := fun _ => fun
  | [d1, d2] => { results := [.lit (.bool false)], args := [d1, d2] }
  | _ => none }
def RatioBetweenWrongFalsely : Prop := ratioBetweenRow.holds Tryd.pinned (OpenSpec.ofChange ratioBetweenWrong)

/-- 'tesseraelaw09.RatioOrders': WHATEVER THE INPUT: true; the input reads as it did. -/
def ratioOrdersSpec : ChangeSpec := { name := "ratioOrders", fn := fun _ => fun
  | [d1, d2, d3] => { results := [.lit (.bool true)], args := [d1, d2, d3] }
  | _ => none }
def ratioOrdersRow : OpenClaim := { program := "ytcdfbcmhikhnjaadoor", sum := "27e081e90e3733321ae2f7f425e06f2c03cdec1148e4e5b7b7152bbe0265e963", func := "tesserae/tesseraelaw09.RatioOrders", spec := "ratioOrders", inPlace := ["math.Float64frombits", "math/bits.Sub64", "math.Float64bits"], unfollowed := true, recurses := true, named := ["math/bits.deBruijn64tab", "internal/strconv.uint64pow10", "math/bits.deBruijn32tab"], apart := false, laid := [("math/bits.deBruijn32tab", laid_math_bits_deBruijn32tab), ("math/bits.deBruijn64tab", laid_math_bits_deBruijn64tab), ("internal/strconv.uint64pow10", laid_internal_strconv_uint64pow10)] }
def RatioOrdersSaid : Prop := ratioOrdersRow.holds Tryd.pinned (OpenSpec.ofChange ratioOrdersSpec)

/-- ITS FALSE NEIGHBOUR: 'it returns false'. Refute it at one input. -/
def ratioOrdersWrong : ChangeSpec := { name := "ratioOrders", fn := fun _ => fun
  | [d1, d2, d3] => { results := [.lit (.bool false)], args := [d1, d2, d3] }
  | _ => none }
def RatioOrdersWrongFalsely : Prop := ratioOrdersRow.holds Tryd.pinned (OpenSpec.ofChange ratioOrdersWrong)

/-- 'tesseraelaw09.RatioBack': WHATEVER THE INPUT: true; the input reads as it did. -/
def ratioBackSpec : ChangeSpec := { name := "ratioBack", fn := fun _ => fun
  | [d1, d2] => { results := [.lit (.bool true)], args := [d1, d2] }
  | _ => none }
def ratioBackRow : OpenClaim := { program := "ytcdfbcmhikhnjaadoor", sum := "27e081e90e3733321ae2f7f425e06f2c03cdec1148e4e5b7b7152bbe0265e963", func := "tesserae/tesseraelaw09.RatioBack", spec := "ratioBack", inPlace := ["math.Float64frombits", "math/bits.Sub64", "math.Float64bits"], unfollowed := true, recurses := true, named := ["math/bits.deBruijn64tab", "internal/strconv.uint64pow10", "math/bits.deBruijn32tab"], apart := false, laid := [("math/bits.deBruijn32tab", laid_math_bits_deBruijn32tab), ("math/bits.deBruijn64tab", laid_math_bits_deBruijn64tab), ("internal/strconv.uint64pow10", laid_internal_strconv_uint64pow10)] }
def RatioBackSaid : Prop := ratioBackRow.holds Tryd.pinned (OpenSpec.ofChange ratioBackSpec)

/-- ITS FALSE NEIGHBOUR: 'it returns false'. Refute it at one input. -/
def ratioBackWrong : ChangeSpec := { name := "ratioBack", fn := fun _ => fun
  | [d1, d2] => { results := [.lit (.bool false)], args := [d1, d2] }
  | _ => none }
def RatioBackWrongFalsely : Prop := ratioBackRow.holds Tryd.pinned (OpenSpec.ofChange ratioBackWrong)

/- THE SECOND FORM. 'bulk': how many values and letters a reading holds, each counted each time it is reached (what is shared counts as often as it is met; a slice's spare places count too). A statement '..UptoSaid' is the law's where the arguments, and the package variables that the reading takes, are together of bulk at most 1048576: NARROWER than '..Said'. Prove '..Said' where nothing that the law and all that it calls make is longer than what came in: it says more and counts as full. Else prove '..UptoSaid'. A law counts once. -/
mutual
def uptoBulk {H : Type} : DataW H → Nat
  | .lit (.string bytes) => bytes.length + 1
  | .lit _ => 1
  | .nil => 1
  | .ptr d => uptoBulk d + 1
  | .slice elems spare => uptoBulkAll elems + uptoBulkAll spare + 1
  | .agg parts => uptoBulkAll parts + 1
  | .iface _ d => uptoBulk d + 1
  | .map entries => uptoBulkEntries entries + 1
  | .held _ => 1
def uptoBulkAll {H : Type} : List (DataW H) → Nat
  | [] => 0
  | d :: r => uptoBulk d + uptoBulkAll r
def uptoBulkEntries {H : Type} : List (Lit × DataW H) → Nat
  | [] => 0
  | x :: r => uptoBulkEntry x + uptoBulkEntries r
def uptoBulkEntry {H : Type} : Lit × DataW H → Nat
  | (.string bytes, d) => bytes.length + uptoBulk d + 1
  | (_, d) => uptoBulk d + 1
 end
def uptoSmall : (H : Type) → List (DataW H) → Bool := fun _ ds => decide (uptoBulkAll ds ≤ 1048576)
def OpenSpec.upto (s : _root_.Go.ChangeSpec) : _root_.Go.OpenSpec := { _root_.Go.OpenSpec.ofChange s with cond := some uptoSmall }

/-- 'tesseraelaw09.RatioOne', WHERE WHAT IT READS IS OF BULK AT MOST 1048576: true; the input reads as it did. -/
def ratioOneUptoRow : OpenClaim := { program := "ytcdfbcmhikhnjaadoor", sum := "27e081e90e3733321ae2f7f425e06f2c03cdec1148e4e5b7b7152bbe0265e963", func := "tesserae/tesseraelaw09.RatioOne", spec := "ratioOne", inPlace := ["math.Float64frombits", "math/bits.Sub64", "math.Float64bits"], unfollowed := true, recurses := true, named := ["math/bits.deBruijn64tab", "internal/strconv.uint64pow10", "math/bits.deBruijn32tab"], apart := false, laid := [("math/bits.deBruijn32tab", laid_math_bits_deBruijn32tab), ("math/bits.deBruijn64tab", laid_math_bits_deBruijn64tab), ("internal/strconv.uint64pow10", laid_internal_strconv_uint64pow10)], narrowed := true }
def RatioOneUptoSaid : Prop := ratioOneUptoRow.holds Tryd.pinned (OpenSpec.upto ratioOneSpec)

/-- 'tesseraelaw09.RatioSigns', WHERE WHAT IT READS IS OF BULK AT MOST 1048576: true; the input reads as it did. -/
def ratioSignsUptoRow : OpenClaim := { program := "ytcdfbcmhikhnjaadoor", sum := "27e081e90e3733321ae2f7f425e06f2c03cdec1148e4e5b7b7152bbe0265e963", func := "tesserae/tesseraelaw09.RatioSigns", spec := "ratioSigns", inPlace := ["math.Float64frombits", "math/bits.Sub64", "math.Float64bits"], unfollowed := true, recurses := true, named := ["math/bits.deBruijn64tab", "internal/strconv.uint64pow10", "math/bits.deBruijn32tab"], apart := false, laid := [("math/bits.deBruijn32tab", laid_math_bits_deBruijn32tab), ("math/bits.deBruijn64tab", laid_math_bits_deBruijn64tab), ("internal/strconv.uint64pow10", laid_internal_strconv_uint64pow10)], narrowed := true }
def RatioSignsUptoSaid : Prop := ratioSignsUptoRow.holds Tryd.pinned (OpenSpec.upto ratioSignsSpec)

/-- 'tesseraelaw09.RatioOf', WHERE WHAT IT READS IS OF BULK AT MOST 1048576: true; the input reads as it did. -/
def ratioOfUptoRow : OpenClaim := { program := "ytcdfbcmhikhnjaadoor", sum := "27e081e90e3733321ae2f7f425e06f2c03cdec1148e4e5b7b7152bbe0265e963", func := "tesserae/tesseraelaw09.RatioOf", spec := "ratioOf", inPlace := ["math.Float64frombits", "math/bits.Sub64", "math.Float64bits"], unfollowed := true, recurses := true, named := ["math/bits.deBruijn64tab", "internal/strconv.uint64pow10", "math/bits.deBruijn32tab"], apart := false, laid := [("math/bits.deBruijn32tab", laid_math_bits_deBruijn32tab), ("math/bits.deBruijn64tab", laid_math_bits_deBruijn64tab), ("internal/strconv.uint64pow10", laid_internal_strconv_uint64pow10)], narrowed := true }
def RatioOfUptoSaid : Prop := ratioOfUptoRow.holds Tryd.pinned (OpenSpec.upto ratioOfSpec)

/-- 'tesseraelaw09.RatioWhole', WHERE WHAT IT READS IS OF BULK AT MOST 1048576: true; the input reads as it did. -/
def ratioWholeUptoRow : OpenClaim := { program := "ytcdfbcmhikhnjaadoor", sum := "27e081e90e3733321ae2f7f425e06f2c03cdec1148e4e5b7b7152bbe0265e963", func := "tesserae/tesseraelaw09.RatioWhole", spec := "ratioWhole", inPlace := ["math.Float64frombits", "math/bits.Sub64", "math.Float64bits"], unfollowed := true, recurses := true, named := ["math/bits.deBruijn64tab", "internal/strconv.uint64pow10", "math/bits.deBruijn32tab"], apart := false, laid := [("math/bits.deBruijn32tab", laid_math_bits_deBruijn32tab), ("math/bits.deBruijn64tab", laid_math_bits_deBruijn64tab), ("internal/strconv.uint64pow10", laid_internal_strconv_uint64pow10)], narrowed := true }
def RatioWholeUptoSaid : Prop := ratioWholeUptoRow.holds Tryd.pinned (OpenSpec.upto ratioWholeSpec)

/-- 'tesseraelaw09.RatioBetween', WHERE WHAT IT READS IS OF BULK AT MOST 1048576: true; the input reads as it did. -/
def ratioBetweenUptoRow : OpenClaim := { program := "ytcdfbcmhikhnjaadoor", sum := "27e081e90e3733321ae2f7f425e06f2c03cdec1148e4e5b7b7152bbe0265e963", func := "tesserae/tesseraelaw09.RatioBetween", spec := "ratioBetween", inPlace := ["math.Float64frombits", "math/bits.Sub64", "math.Float64bits", "math/bits.Add64"], unfollowed := true, recurses := true, named := ["math/bits.deBruijn64tab", "internal/strconv.uint64pow10", "math/bits.deBruijn32tab"], apart := false, laid := [("math/bits.deBruijn32tab", laid_math_bits_deBruijn32tab), ("math/bits.deBruijn64tab", laid_math_bits_deBruijn64tab), ("internal/strconv.uint64pow10", laid_internal_strconv_uint64pow10)], narrowed := true }
def RatioBetweenUptoSaid : Prop := ratioBetweenUptoRow.holds Tryd.pinned (OpenSpec.upto ratioBetweenSpec)

/-- 'tesseraelaw09.RatioOrders', WHERE WHAT IT READS IS OF BULK AT MOST 1048576: true; the input reads as it did. -/
def ratioOrdersUptoRow : OpenClaim := { program := "ytcdfbcmhikhnjaadoor", sum := "27e081e90e3733321ae2f7f425e06f2c03cdec1148e4e5b7b7152bbe0265e963", func := "tesserae/tesseraelaw09.RatioOrders", spec := "ratioOrders", inPlace := ["math.Float64frombits", "math/bits.Sub64", "math.Float64bits"], unfollowed := true, recurses := true, named := ["math/bits.deBruijn64tab", "internal/strconv.uint64pow10", "math/bits.deBruijn32tab"], apart := false, laid := [("math/bits.deBruijn32tab", laid_math_bits_deBruijn32tab), ("math/bits.deBruijn64tab", laid_math_bits_deBruijn64tab), ("internal/strconv.uint64pow10", laid_internal_strconv_uint64pow10)], narrowed := true }
def RatioOrdersUptoSaid : Prop := ratioOrdersUptoRow.holds Tryd.pinned (OpenSpec.upto ratioOrdersSpec)

/-- 'tesseraelaw09.RatioBack', WHERE WHAT IT READS IS OF BULK AT MOST 1048576: true; the input reads as it did. -/
def ratioBackUptoRow : OpenClaim := { program := "ytcdfbcmhikhnjaadoor", sum := "27e081e90e3733321ae2f7f425e06f2c03cdec1148e4e5b7b7152bbe0265e963", func := "tesserae/tesseraelaw09.RatioBack", spec := "ratioBack", inPlace := ["math.Float64frombits", "math/bits.Sub64", "math.Float64bits"], unfollowed := true, recurses := true, named := ["math/bits.deBruijn64tab", "internal/strconv.uint64pow10", "math/bits.deBruijn32tab"], apart := false, laid := [("math/bits.deBruijn32tab", laid_math_bits_deBruijn32tab), ("math/bits.deBruijn64tab", laid_math_bits_deBruijn64tab), ("internal/strconv.uint64pow10", laid_internal_strconv_uint64pow10)], narrowed := true }
def RatioBackUptoSaid : Prop := ratioBackUptoRow.holds Tryd.pinned (OpenSpec.upto ratioBackSpec)

end Rows
end Go.Proofs.YtcdfbcmhikhnjaaDoor
