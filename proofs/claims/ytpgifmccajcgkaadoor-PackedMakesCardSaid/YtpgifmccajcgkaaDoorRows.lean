/-
  NARROWER THAN 'FOR EVERY INPUT', by the rows' own cells (each row's printed sentence says how): VarintSizes: laid · VarintPuts: laid · VarintBack: laid · VarintMore: laid · VarintLists: laid · PackedMakes: laid · PackedSizes: laid · PackedBack: laid · PackedMore: laid · PackedWidths: laid · PackedPlaces: laid · SchemaCodes: laid · SchemaBack: laid.
  DERIVED. THE GIVEN ROWS OF THIS SEAT. 13 by the template 'for every input the law returns true; each argument reads behind the call as it read before'; 0 by the template 'total and deterministic' (their statements: YtpgifmccajcgkaaDoorTotals.lean).
  GIVEN WITH THE SEED: the statements are not yours to turn. If you find one false, say at which input.
  Laid BY PROGRAM, IN A SANDBOX (cutbox-rows.mjs): the forced cells as the released guide's own fill.sh prints them over the translation 830ea03be805d0b5… (all of the seat's roots in one cut). By AI agents, Wed Nov 11 2026. No macro, syntax, notation, axiom, sorry.
-/
import Derived.Test.YtpgifmccajcgkaaDoorChecked
import GoSem.Claim
import GoSem.ClaimJoined
import GoSem.ClaimMapViews
import Derived.JoinedTies
import Derived.KernelRfl
namespace Go.Proofs.YtpgifmccajcgkaaDoor
/- THE CELL 'sum', in the pinned program and in every row, IS THE sha256 OF THE DUMP (.gsa) THAT YtpgifmccajcgkaaDoorProg.lean LOADS. Nothing in Lean hashes anything: it is a label: what it is worth is what the hold of that sum in a sandbox is worth. -/
noncomputable def Tryd.pinned : Pinned := { name := "ytpgifmccajcgkaadoor", sum := "830ea03be805d0b5b71654e239ee61919f37c66ef7706083e781471f8ff4184e", checked := Tryd.checked }
namespace Rows
def none {H : Type} : Left H := { results := [], args := [] }

/- WHAT THE LISTED PACKAGE-LEVEL VARIABLES READ AS WHEN THE CALL BEGINS. Each datum BY PROGRAM (the guide's laid-datum.mjs) off the statement by which the dump's own 'gosem.cut.vars' lays the variable. In a bare row this is a premise. The card (YtpgifmccajcgkaaDoorCards.lean) ties it to the program's text. -/
def laid_tesserae_varint_errMore {H : Type} : DataW H := .iface "*errors.errorString" (.ptr (.agg [.lit (.string [109, 111, 114, 101])]))
def laid_tesserae_varint_errNone {H : Type} : DataW H := .iface "*errors.errorString" (.ptr (.agg [.lit (.string [110, 111, 32, 118, 97, 114, 105, 110, 116])]))
def laid_errors_errorType {H : Type} : DataW H := .iface "internal/reflectlite.rtype" (.agg [.ptr (.lit (.string [101, 114, 114, 111, 114]))])

/-- 'tesseraelaw02.VarintSizes': WHATEVER THE INPUT: true; the input reads as it did. -/
def varintSizesSpec : ChangeSpec := { name := "varintSizes", fn := fun _ => fun
  | [d1, d2] => { results := [.lit (.bool true)], args := [d1, d2] }
  | _ => none }
def varintSizesRow : OpenClaim := { program := "ytpgifmccajcgkaadoor", sum := "830ea03be805d0b5b71654e239ee61919f37c66ef7706083e781471f8ff4184e", func := "tesserae/tesseraelaw02.VarintSizes", spec := "varintSizes", inPlace := ["internal/abi.NoEscape", "internal/reflectlite.TypeOf"], unfollowed := true, recurses := true, named := ["tesserae/varint.errMore", "tesserae/varint.errNone"], apart := false, laid := [("tesserae/varint.errMore", laid_tesserae_varint_errMore), ("tesserae/varint.errNone", laid_tesserae_varint_errNone)] }
def VarintSizesSaid : Prop := varintSizesRow.holds Tryd.pinned (OpenSpec.ofChange varintSizesSpec)

/-- ITS FALSE NEIGHBOUR: 'it returns false'. Refute it at one input. -/
def varintSizesWrong : ChangeSpec := { name := "varintSizes", fn := fun _ => fun
  | [d1, d2] => { results := [.lit (.bool false)], args := [d1, d2] }
  | _ => none }
def VarintSizesWrongFalsely : Prop := varintSizesRow.holds Tryd.pinned (OpenSpec.ofChange varintSizesWrong)

/-- 'tesseraelaw02.VarintPuts': WHATEVER THE INPUT: true; the input reads as it did. -/
def varintPutsSpec : ChangeSpec := { name := "varintPuts", fn := fun _ => fun
  | [d1, d2, d3] => { results := [.lit (.bool true)], args := [d1, d2, d3] }
  | _ => none }
def varintPutsRow : OpenClaim := { program := "ytpgifmccajcgkaadoor", sum := "830ea03be805d0b5b71654e239ee61919f37c66ef7706083e781471f8ff4184e", func := "tesserae/tesseraelaw02.VarintPuts", spec := "varintPuts", inPlace := ["internal/abi.NoEscape", "internal/reflectlite.TypeOf"], unfollowed := true, recurses := true, named := ["tesserae/varint.errMore", "tesserae/varint.errNone"], apart := false, laid := [("tesserae/varint.errMore", laid_tesserae_varint_errMore), ("tesserae/varint.errNone", laid_tesserae_varint_errNone)] }
def VarintPutsSaid : Prop := varintPutsRow.holds Tryd.pinned (OpenSpec.ofChange varintPutsSpec)

/-- ITS FALSE NEIGHBOUR: 'it returns false'. Refute it at one input. -/
def varintPutsWrong : ChangeSpec := { name := "varintPuts", fn := fun _ => fun
  | [d1, d2, d3] => { results := [.lit (.bool false)], args := [d1, d2, d3] }
  | _ => none }
def VarintPutsWrongFalsely : Prop := varintPutsRow.holds Tryd.pinned (OpenSpec.ofChange varintPutsWrong)

/-- 'tesseraelaw02.VarintBack': WHATEVER THE INPUT: true; the input reads as it did. -/
def varintBackSpec : ChangeSpec := { name := "varintBack", fn := fun _ => fun
  | [d1, d2, d3] => { results := [.lit (.bool true)], args := [d1, d2, d3] }
  | _ => none }
def varintBackRow : OpenClaim := { program := "ytpgifmccajcgkaadoor", sum := "830ea03be805d0b5b71654e239ee61919f37c66ef7706083e781471f8ff4184e", func := "tesserae/tesseraelaw02.VarintBack", spec := "varintBack", inPlace := ["internal/abi.NoEscape", "internal/reflectlite.TypeOf"], unfollowed := true, recurses := true, named := ["tesserae/varint.errMore", "tesserae/varint.errNone"], apart := false, laid := [("tesserae/varint.errMore", laid_tesserae_varint_errMore), ("tesserae/varint.errNone", laid_tesserae_varint_errNone)] }
def VarintBackSaid : Prop := varintBackRow.holds Tryd.pinned (OpenSpec.ofChange varintBackSpec)

/-- ITS FALSE NEIGHBOUR: 'it returns false'. Refute it at one input. -/
def varintBackWrong : ChangeSpec := { name := "varintBack", fn := fun _ => fun
  | [d1, d2, d3] => { results := [.lit (.bool false)], args := [d1, d2, d3] }
  | _ => none }
def VarintBackWrongFalsely : Prop := varintBackRow.holds Tryd.pinned (OpenSpec.ofChange varintBackWrong)

/-- 'tesseraelaw02.VarintMore': WHATEVER THE INPUT: true; the input reads as it did. -/
def varintMoreSpec : ChangeSpec := { name := "varintMore", fn := fun _ => fun
  | [d1, d2, d3] => { results := [.lit (.bool true)], args := [d1, d2, d3] }
  | _ => none }
def varintMoreRow : OpenClaim := { program := "ytpgifmccajcgkaadoor", sum := "830ea03be805d0b5b71654e239ee61919f37c66ef7706083e781471f8ff4184e", func := "tesserae/tesseraelaw02.VarintMore", spec := "varintMore", inPlace := ["internal/abi.NoEscape", "internal/reflectlite.TypeOf"], unfollowed := true, recurses := true, named := ["tesserae/varint.errMore", "tesserae/varint.errNone"], apart := false, laid := [("tesserae/varint.errMore", laid_tesserae_varint_errMore), ("tesserae/varint.errNone", laid_tesserae_varint_errNone)] }
def VarintMoreSaid : Prop := varintMoreRow.holds Tryd.pinned (OpenSpec.ofChange varintMoreSpec)

/-- ITS FALSE NEIGHBOUR: 'it returns false'. Refute it at one input. -/
def varintMoreWrong : ChangeSpec := { name := "varintMore", fn := fun _ => fun
  | [d1, d2, d3] => { results := [.lit (.bool false)], args := [d1, d2, d3] }
  | _ => none }
def VarintMoreWrongFalsely : Prop := varintMoreRow.holds Tryd.pinned (OpenSpec.ofChange varintMoreWrong)

/-- 'tesseraelaw02.VarintLists': WHATEVER THE INPUT: true; the input reads as it did. -/
def varintListsSpec : ChangeSpec := { name := "varintLists", fn := fun _ => fun
  | [d1, d2] => { results := [.lit (.bool true)], args := [d1, d2] }
  | _ => none }
def varintListsRow : OpenClaim := { program := "ytpgifmccajcgkaadoor", sum := "830ea03be805d0b5b71654e239ee61919f37c66ef7706083e781471f8ff4184e", func := "tesserae/tesseraelaw02.VarintLists", spec := "varintLists", inPlace := ["internal/abi.NoEscape", "internal/reflectlite.TypeOf"], unfollowed := true, recurses := true, named := ["tesserae/varint.errMore", "tesserae/varint.errNone"], apart := false, laid := [("tesserae/varint.errMore", laid_tesserae_varint_errMore), ("tesserae/varint.errNone", laid_tesserae_varint_errNone)] }
def VarintListsSaid : Prop := varintListsRow.holds Tryd.pinned (OpenSpec.ofChange varintListsSpec)

/-- ITS FALSE NEIGHBOUR: 'it returns false'. Refute it at one input. -/
def varintListsWrong : ChangeSpec := { name := "varintLists", fn := fun _ => fun
  | [d1, d2] => { results := [.lit (.bool false)], args := [d1, d2] }
  | _ => none }
def VarintListsWrongFalsely : Prop := varintListsRow.holds Tryd.pinned (OpenSpec.ofChange varintListsWrong)

/-- 'tesseraelaw04.PackedMakes': WHATEVER THE INPUT: true; the input reads as it did. -/
def packedMakesSpec : ChangeSpec := { name := "packedMakes", fn := fun _ => fun
  | [d1, d2, d3] => { results := [.lit (.bool true)], args := [d1, d2, d3] }
  | _ => none }
def packedMakesRow : OpenClaim := { program := "ytpgifmccajcgkaadoor", sum := "830ea03be805d0b5b71654e239ee61919f37c66ef7706083e781471f8ff4184e", func := "tesserae/tesseraelaw04.PackedMakes", spec := "packedMakes", inPlace := ["internal/abi.NoEscape", "internal/reflectlite.TypeOf"], unfollowed := true, recurses := true, named := ["tesserae/varint.errMore", "tesserae/varint.errNone"], apart := false, laid := [("tesserae/varint.errMore", laid_tesserae_varint_errMore), ("tesserae/varint.errNone", laid_tesserae_varint_errNone)] }
def PackedMakesSaid : Prop := packedMakesRow.holds Tryd.pinned (OpenSpec.ofChange packedMakesSpec)

/-- ITS FALSE NEIGHBOUR: 'it returns false'. Refute it at one input. -/
def packedMakesWrong : ChangeSpec := { name := "packedMakes", fn := fun _ => fun
  | [d1, d2, d3] => { results := [.lit (.bool false)], args := [d1, d2, d3] }
  | _ => none }
def PackedMakesWrongFalsely : Prop := packedMakesRow.holds Tryd.pinned (OpenSpec.ofChange packedMakesWrong)

/-- 'tesseraelaw04.PackedSizes': WHATEVER THE INPUT: true; the input reads as it did. -/
def packedSizesSpec : ChangeSpec := { name := "packedSizes", fn := fun _ => fun
  | [d1, d2] => { results := [.lit (.bool true)], args := [d1, d2] }
  | _ => none }
def packedSizesRow : OpenClaim := { program := "ytpgifmccajcgkaadoor", sum := "830ea03be805d0b5b71654e239ee61919f37c66ef7706083e781471f8ff4184e", func := "tesserae/tesseraelaw04.PackedSizes", spec := "packedSizes", inPlace := ["internal/abi.NoEscape", "internal/reflectlite.TypeOf"], unfollowed := true, recurses := true, named := ["tesserae/varint.errMore", "tesserae/varint.errNone"], apart := false, laid := [("tesserae/varint.errMore", laid_tesserae_varint_errMore), ("tesserae/varint.errNone", laid_tesserae_varint_errNone)] }
def PackedSizesSaid : Prop := packedSizesRow.holds Tryd.pinned (OpenSpec.ofChange packedSizesSpec)

/-- ITS FALSE NEIGHBOUR: 'it returns false'. Refute it at one input. -/
def packedSizesWrong : ChangeSpec := { name := "packedSizes", fn := fun _ => fun
  | [d1, d2] => { results := [.lit (.bool false)], args := [d1, d2] }
  | _ => none }
def PackedSizesWrongFalsely : Prop := packedSizesRow.holds Tryd.pinned (OpenSpec.ofChange packedSizesWrong)

/-- 'tesseraelaw04.PackedBack': WHATEVER THE INPUT: true; the input reads as it did. -/
def packedBackSpec : ChangeSpec := { name := "packedBack", fn := fun _ => fun
  | [d1, d2] => { results := [.lit (.bool true)], args := [d1, d2] }
  | _ => none }
def packedBackRow : OpenClaim := { program := "ytpgifmccajcgkaadoor", sum := "830ea03be805d0b5b71654e239ee61919f37c66ef7706083e781471f8ff4184e", func := "tesserae/tesseraelaw04.PackedBack", spec := "packedBack", inPlace := ["internal/abi.NoEscape", "internal/reflectlite.TypeOf"], unfollowed := true, recurses := true, named := ["tesserae/varint.errMore", "tesserae/varint.errNone"], apart := false, laid := [("tesserae/varint.errMore", laid_tesserae_varint_errMore), ("tesserae/varint.errNone", laid_tesserae_varint_errNone)] }
def PackedBackSaid : Prop := packedBackRow.holds Tryd.pinned (OpenSpec.ofChange packedBackSpec)

/-- ITS FALSE NEIGHBOUR: 'it returns false'. Refute it at one input. -/
def packedBackWrong : ChangeSpec := { name := "packedBack", fn := fun _ => fun
  | [d1, d2] => { results := [.lit (.bool false)], args := [d1, d2] }
  | _ => none }
def PackedBackWrongFalsely : Prop := packedBackRow.holds Tryd.pinned (OpenSpec.ofChange packedBackWrong)

/-- 'tesseraelaw04.PackedMore': WHATEVER THE INPUT: true; the input reads as it did. -/
def packedMoreSpec : ChangeSpec := { name := "packedMore", fn := fun _ => fun
  | [d1, d2] => { results := [.lit (.bool true)], args := [d1, d2] }
  | _ => none }
def packedMoreRow : OpenClaim := { program := "ytpgifmccajcgkaadoor", sum := "830ea03be805d0b5b71654e239ee61919f37c66ef7706083e781471f8ff4184e", func := "tesserae/tesseraelaw04.PackedMore", spec := "packedMore", inPlace := ["internal/abi.NoEscape", "internal/reflectlite.TypeOf"], unfollowed := true, recurses := true, named := ["tesserae/varint.errMore", "tesserae/varint.errNone"], apart := false, laid := [("tesserae/varint.errMore", laid_tesserae_varint_errMore), ("tesserae/varint.errNone", laid_tesserae_varint_errNone)] }
def PackedMoreSaid : Prop := packedMoreRow.holds Tryd.pinned (OpenSpec.ofChange packedMoreSpec)

/-- ITS FALSE NEIGHBOUR: 'it returns false'. Refute it at one input. -/
def packedMoreWrong : ChangeSpec := { name := "packedMore", fn := fun _ => fun
  | [d1, d2] => { results := [.lit (.bool false)], args := [d1, d2] }
  | _ => none }
def PackedMoreWrongFalsely : Prop := packedMoreRow.holds Tryd.pinned (OpenSpec.ofChange packedMoreWrong)

/-- 'tesseraelaw04.PackedWidths': WHATEVER THE INPUT: true; the input reads as it did. -/
def packedWidthsSpec : ChangeSpec := { name := "packedWidths", fn := fun _ => fun
  | [d] => { results := [.lit (.bool true)], args := [d] }
  | _ => none }
def packedWidthsRow : OpenClaim := { program := "ytpgifmccajcgkaadoor", sum := "830ea03be805d0b5b71654e239ee61919f37c66ef7706083e781471f8ff4184e", func := "tesserae/tesseraelaw04.PackedWidths", spec := "packedWidths", inPlace := ["internal/abi.NoEscape", "internal/reflectlite.TypeOf"], unfollowed := true, recurses := true, named := ["tesserae/varint.errMore", "tesserae/varint.errNone"], apart := false, laid := [("tesserae/varint.errMore", laid_tesserae_varint_errMore), ("tesserae/varint.errNone", laid_tesserae_varint_errNone)] }
def PackedWidthsSaid : Prop := packedWidthsRow.holds Tryd.pinned (OpenSpec.ofChange packedWidthsSpec)

/-- ITS FALSE NEIGHBOUR: 'it returns false'. Refute it at one input. -/
def packedWidthsWrong : ChangeSpec := { name := "packedWidths", fn := fun _ => fun
  | [d] => { results := [.lit (.bool false)], args := [d] }
  | _ => none }
def PackedWidthsWrongFalsely : Prop := packedWidthsRow.holds Tryd.pinned (OpenSpec.ofChange packedWidthsWrong)

/-- 'tesseraelaw04.PackedPlaces': WHATEVER THE INPUT: true; the input reads as it did. -/
def packedPlacesSpec : ChangeSpec := { name := "packedPlaces", fn := fun _ => fun
  | [d1, d2] => { results := [.lit (.bool true)], args := [d1, d2] }
  | _ => none }
def packedPlacesRow : OpenClaim := { program := "ytpgifmccajcgkaadoor", sum := "830ea03be805d0b5b71654e239ee61919f37c66ef7706083e781471f8ff4184e", func := "tesserae/tesseraelaw04.PackedPlaces", spec := "packedPlaces", inPlace := ["internal/abi.NoEscape", "internal/reflectlite.TypeOf"], unfollowed := true, recurses := true, named := ["tesserae/varint.errMore", "tesserae/varint.errNone"], apart := false, laid := [("tesserae/varint.errMore", laid_tesserae_varint_errMore), ("tesserae/varint.errNone", laid_tesserae_varint_errNone)] }
def PackedPlacesSaid : Prop := packedPlacesRow.holds Tryd.pinned (OpenSpec.ofChange packedPlacesSpec)

/-- ITS FALSE NEIGHBOUR: 'it returns false'. Refute it at one input. -/
def packedPlacesWrong : ChangeSpec := { name := "packedPlaces", fn := fun _ => fun
  | [d1, d2] => { results := [.lit (.bool false)], args := [d1, d2] }
  | _ => none }
def PackedPlacesWrongFalsely : Prop := packedPlacesRow.holds Tryd.pinned (OpenSpec.ofChange packedPlacesWrong)

/-- 'tesseraelaw10.SchemaCodes': WHATEVER THE INPUT: true; the input reads as it did. -/
def schemaCodesSpec : ChangeSpec := { name := "schemaCodes", fn := fun _ => fun
  | [d1, d2, d3] => { results := [.lit (.bool true)], args := [d1, d2, d3] }
  | _ => none }
def schemaCodesRow : OpenClaim := { program := "ytpgifmccajcgkaadoor", sum := "830ea03be805d0b5b71654e239ee61919f37c66ef7706083e781471f8ff4184e", func := "tesserae/tesseraelaw10.SchemaCodes", spec := "schemaCodes", inPlace := ["internal/abi.NoEscape", "internal/reflectlite.TypeOf", "internal/reflectlite.ValueOf", "(internal/reflectlite.Value).Type", "(internal/reflectlite.Value).IsNil", "(internal/reflectlite.Value).Elem", "(internal/reflectlite.Value).Set"], unfollowed := true, recurses := true, named := ["tesserae/varint.errMore", "tesserae/varint.errNone", "errors.errorType"], apart := false, laid := [("errors.errorType", laid_errors_errorType), ("tesserae/varint.errMore", laid_tesserae_varint_errMore), ("tesserae/varint.errNone", laid_tesserae_varint_errNone)] }
def SchemaCodesSaid : Prop := schemaCodesRow.holds Tryd.pinned (OpenSpec.ofChange schemaCodesSpec)

/-- ITS FALSE NEIGHBOUR: 'it returns false'. Refute it at one input. -/
def schemaCodesWrong : ChangeSpec := { name := "schemaCodes", fn := fun _ => fun
  | [d1, d2, d3] => { results := [.lit (.bool false)], args := [d1, d2, d3] }
  | _ => none }
def SchemaCodesWrongFalsely : Prop := schemaCodesRow.holds Tryd.pinned (OpenSpec.ofChange schemaCodesWrong)

/-- 'tesseraelaw10.SchemaBack': WHATEVER THE INPUT: true; the input reads as it did. -/
def schemaBackSpec : ChangeSpec := { name := "schemaBack", fn := fun _ => fun
  | [d1, d2, d3] => { results := [.lit (.bool true)], args := [d1, d2, d3] }
  | _ => none }
def schemaBackRow : OpenClaim := { program := "ytpgifmccajcgkaadoor", sum := "830ea03be805d0b5b71654e239ee61919f37c66ef7706083e781471f8ff4184e", func := "tesserae/tesseraelaw10.SchemaBack", spec := "schemaBack", inPlace := ["internal/abi.NoEscape", "internal/reflectlite.TypeOf", "internal/reflectlite.ValueOf", "(internal/reflectlite.Value).Type", "(internal/reflectlite.Value).IsNil", "(internal/reflectlite.Value).Elem", "(internal/reflectlite.Value).Set"], unfollowed := true, recurses := true, named := ["tesserae/varint.errMore", "tesserae/varint.errNone", "errors.errorType"], apart := false, laid := [("errors.errorType", laid_errors_errorType), ("tesserae/varint.errMore", laid_tesserae_varint_errMore), ("tesserae/varint.errNone", laid_tesserae_varint_errNone)] }
def SchemaBackSaid : Prop := schemaBackRow.holds Tryd.pinned (OpenSpec.ofChange schemaBackSpec)

/-- ITS FALSE NEIGHBOUR: 'it returns false'. Refute it at one input. -/
def schemaBackWrong : ChangeSpec := { name := "schemaBack", fn := fun _ => fun
  | [d1, d2, d3] => { results := [.lit (.bool false)], args := [d1, d2, d3] }
  | _ => none }
def SchemaBackWrongFalsely : Prop := schemaBackRow.holds Tryd.pinned (OpenSpec.ofChange schemaBackWrong)

/- THE SECOND FORM. 'bulk': how many values and letters a reading holds, each counted each time it is reached (what is shared counts as often as it is met; a slice's spare places count too). A statement '..UptoSaid' is the law's where the arguments, and the package variables that the reading takes, are together of bulk at most 1048576: NARROWER than '..Said'. Prove '..Said' where nothing that the law and all that it calls make is longer than what came in: it says more and counts as full. Else prove '..UptoSaid'. A law counts once. -/
mutual
def uptoBulk {H : Type} : DataW H → Nat
  | .lit (.string bytes) => bytes.length + 1
  | .lit _ => 1
  | .nil => 1
  | .ptr d => uptoBulk d + 1
  | .slice elems spare => uptoBulkAll elems + uptoBulkAll spare + 1
  | .agg parts => uptoBulkAll parts + 1
  | .iface _ d => uptoBulk d + 1
  | .map entries => uptoBulkEntries entries + 1
  | .held _ => 1
def uptoBulkAll {H : Type} : List (DataW H) → Nat
  | [] => 0
  | d :: r => uptoBulk d + uptoBulkAll r
def uptoBulkEntries {H : Type} : List (Lit × DataW H) → Nat
  | [] => 0
  | x :: r => uptoBulkEntry x + uptoBulkEntries r
def uptoBulkEntry {H : Type} : Lit × DataW H → Nat
  | (.string bytes, d) => bytes.length + uptoBulk d + 1
  | (_, d) => uptoBulk d + 1
 end
def uptoSmall : (H : Type) → List (DataW H) → Bool := fun _ ds => decide (uptoBulkAll ds ≤ 1048576)
def OpenSpec.upto (s : _root_.Go.ChangeSpec) : _root_.Go.OpenSpec := { _root_.Go.OpenSpec.ofChange s with cond := some uptoSmall }

/-- 'tesseraelaw02.VarintSizes', WHERE WHAT IT READS IS OF BULK AT MOST 1048576: true; the input reads as it did. -/
def varintSizesUptoRow : OpenClaim := { program := "ytpgifmccajcgkaadoor", sum := "830ea03be805d0b5b71654e239ee61919f37c66ef7706083e781471f8ff4184e", func := "tesserae/tesseraelaw02.VarintSizes", spec := "varintSizes", inPlace := ["internal/abi.NoEscape", "internal/reflectlite.TypeOf"], unfollowed := true, recurses := true, named := ["tesserae/varint.errMore", "tesserae/varint.errNone"], apart := false, laid := [("tesserae/varint.errMore", laid_tesserae_varint_errMore), ("tesserae/varint.errNone", laid_tesserae_varint_errNone)], narrowed := true }
def VarintSizesUptoSaid : Prop := varintSizesUptoRow.holds Tryd.pinned (OpenSpec.upto varintSizesSpec)

/-- 'tesseraelaw02.VarintPuts', WHERE WHAT IT READS IS OF BULK AT MOST 1048576: true; the input reads as it did. -/
def varintPutsUptoRow : OpenClaim := { program := "ytpgifmccajcgkaadoor", sum := "830ea03be805d0b5b71654e239ee61919f37c66ef7706083e781471f8ff4184e", func := "tesserae/tesseraelaw02.VarintPuts", spec := "varintPuts", inPlace := ["internal/abi.NoEscape", "internal/reflectlite.TypeOf"], unfollowed := true, recurses := true, named := ["tesserae/varint.errMore", "tesserae/varint.errNone"], apart := false, laid := [("tesserae/varint.errMore", laid_tesserae_varint_errMore), ("tesserae/varint.errNone", laid_tesserae_varint_errNone)], narrowed := true }
def VarintPutsUptoSaid : Prop := varintPutsUptoRow.holds Tryd.pinned (OpenSpec.upto varintPutsSpec)

/-- 'tesseraelaw02.VarintBack', WHERE WHAT IT READS IS OF BULK AT MOST 1048576: true; the input reads as it did. -/
def varintBackUptoRow : OpenClaim := { program := "ytpgifmccajcgkaadoor", sum := "830ea03be805d0b5b71654e239ee61919f37c66ef7706083e781471f8ff4184e", func := "tesserae/tesseraelaw02.VarintBack", spec := "varintBack", inPlace := ["internal/abi.NoEscape", "internal/reflectlite.TypeOf"], unfollowed := true, recurses := true, named := ["tesserae/varint.errMore", "tesserae/varint.errNone"], apart := false, laid := [("tesserae/varint.errMore", laid_tesserae_varint_errMore), ("tesserae/varint.errNone", laid_tesserae_varint_errNone)], narrowed := true }
def VarintBackUptoSaid : Prop := varintBackUptoRow.holds Tryd.pinned (OpenSpec.upto varintBackSpec)

/-- 'tesseraelaw02.VarintMore', WHERE WHAT IT READS IS OF BULK AT MOST 1048576: true; the input reads as it did. -/
def varintMoreUptoRow : OpenClaim := { program := "ytpgifmccajcgkaadoor", sum := "830ea03be805d0b5b71654e239ee61919f37c66ef7706083e781471f8ff4184e", func := "tesserae/tesseraelaw02.VarintMore", spec := "varintMore", inPlace := ["internal/abi.NoEscape", "internal/reflectlite.TypeOf"], unfollowed := true, recurses := true, named := ["tesserae/varint.errMore", "tesserae/varint.errNone"], apart := false, laid := [("tesserae/varint.errMore", laid_tesserae_varint_errMore), ("tesserae/varint.errNone", laid_tesserae_varint_errNone)], narrowed := true }
def VarintMoreUptoSaid : Prop := varintMoreUptoRow.holds Tryd.pinned (OpenSpec.upto varintMoreSpec)

/-- 'tesseraelaw02.VarintLists', WHERE WHAT IT READS IS OF BULK AT MOST 1048576: true; the input reads as it did. -/
def varintListsUptoRow : OpenClaim := { program := "ytpgifmccajcgkaadoor", sum := "830ea03be805d0b5b71654e239ee61919f37c66ef7706083e781471f8ff4184e", func := "tesserae/tesseraelaw02.VarintLists", spec := "varintLists", inPlace := ["internal/abi.NoEscape", "internal/reflectlite.TypeOf"], unfollowed := true, recurses := true, named := ["tesserae/varint.errMore", "tesserae/varint.errNone"], apart := false, laid := [("tesserae/varint.errMore", laid_tesserae_varint_errMore), ("tesserae/varint.errNone", laid_tesserae_varint_errNone)], narrowed := true }
def VarintListsUptoSaid : Prop := varintListsUptoRow.holds Tryd.pinned (OpenSpec.upto varintListsSpec)

/-- 'tesseraelaw04.PackedMakes', WHERE WHAT IT READS IS OF BULK AT MOST 1048576: true; the input reads as it did. -/
def packedMakesUptoRow : OpenClaim := { program := "ytpgifmccajcgkaadoor", sum := "830ea03be805d0b5b71654e239ee61919f37c66ef7706083e781471f8ff4184e", func := "tesserae/tesseraelaw04.PackedMakes", spec := "packedMakes", inPlace := ["internal/abi.NoEscape", "internal/reflectlite.TypeOf"], unfollowed := true, recurses := true, named := ["tesserae/varint.errMore", "tesserae/varint.errNone"], apart := false, laid := [("tesserae/varint.errMore", laid_tesserae_varint_errMore), ("tesserae/varint.errNone", laid_tesserae_varint_errNone)], narrowed := true }
def PackedMakesUptoSaid : Prop := packedMakesUptoRow.holds Tryd.pinned (OpenSpec.upto packedMakesSpec)

/-- 'tesseraelaw04.PackedSizes', WHERE WHAT IT READS IS OF BULK AT MOST 1048576: true; the input reads as it did. -/
def packedSizesUptoRow : OpenClaim := { program := "ytpgifmccajcgkaadoor", sum := "830ea03be805d0b5b71654e239ee61919f37c66ef7706083e781471f8ff4184e", func := "tesserae/tesseraelaw04.PackedSizes", spec := "packedSizes", inPlace := ["internal/abi.NoEscape", "internal/reflectlite.TypeOf"], unfollowed := true, recurses := true, named := ["tesserae/varint.errMore", "tesserae/varint.errNone"], apart := false, laid := [("tesserae/varint.errMore", laid_tesserae_varint_errMore), ("tesserae/varint.errNone", laid_tesserae_varint_errNone)], narrowed := true }
def PackedSizesUptoSaid : Prop := packedSizesUptoRow.holds Tryd.pinned (OpenSpec.upto packedSizesSpec)

/-- 'tesseraelaw04.PackedBack', WHERE WHAT IT READS IS OF BULK AT MOST 1048576: true; the input reads as it did. -/
def packedBackUptoRow : OpenClaim := { program := "ytpgifmccajcgkaadoor", sum := "830ea03be805d0b5b71654e239ee61919f37c66ef7706083e781471f8ff4184e", func := "tesserae/tesseraelaw04.PackedBack", spec := "packedBack", inPlace := ["internal/abi.NoEscape", "internal/reflectlite.TypeOf"], unfollowed := true, recurses := true, named := ["tesserae/varint.errMore", "tesserae/varint.errNone"], apart := false, laid := [("tesserae/varint.errMore", laid_tesserae_varint_errMore), ("tesserae/varint.errNone", laid_tesserae_varint_errNone)], narrowed := true }
def PackedBackUptoSaid : Prop := packedBackUptoRow.holds Tryd.pinned (OpenSpec.upto packedBackSpec)

/-- 'tesseraelaw04.PackedMore', WHERE WHAT IT READS IS OF BULK AT MOST 1048576: true; the input reads as it did. -/
def packedMoreUptoRow : OpenClaim := { program := "ytpgifmccajcgkaadoor", sum := "830ea03be805d0b5b71654e239ee61919f37c66ef7706083e781471f8ff4184e", func := "tesserae/tesseraelaw04.PackedMore", spec := "packedMore", inPlace := ["internal/abi.NoEscape", "internal/reflectlite.TypeOf"], unfollowed := true, recurses := true, named := ["tesserae/varint.errMore", "tesserae/varint.errNone"], apart := false, laid := [("tesserae/varint.errMore", laid_tesserae_varint_errMore), ("tesserae/varint.errNone", laid_tesserae_varint_errNone)], narrowed := true }
def PackedMoreUptoSaid : Prop := packedMoreUptoRow.holds Tryd.pinned (OpenSpec.upto packedMoreSpec)

/-- 'tesseraelaw04.PackedWidths', WHERE WHAT IT READS IS OF BULK AT MOST 1048576: true; the input reads as it did. -/
def packedWidthsUptoRow : OpenClaim := { program := "ytpgifmccajcgkaadoor", sum := "830ea03be805d0b5b71654e239ee61919f37c66ef7706083e781471f8ff4184e", func := "tesserae/tesseraelaw04.PackedWidths", spec := "packedWidths", inPlace := ["internal/abi.NoEscape", "internal/reflectlite.TypeOf"], unfollowed := true, recurses := true, named := ["tesserae/varint.errMore", "tesserae/varint.errNone"], apart := false, laid := [("tesserae/varint.errMore", laid_tesserae_varint_errMore), ("tesserae/varint.errNone", laid_tesserae_varint_errNone)], narrowed := true }
def PackedWidthsUptoSaid : Prop := packedWidthsUptoRow.holds Tryd.pinned (OpenSpec.upto packedWidthsSpec)

/-- 'tesseraelaw04.PackedPlaces', WHERE WHAT IT READS IS OF BULK AT MOST 1048576: true; the input reads as it did. -/
def packedPlacesUptoRow : OpenClaim := { program := "ytpgifmccajcgkaadoor", sum := "830ea03be805d0b5b71654e239ee61919f37c66ef7706083e781471f8ff4184e", func := "tesserae/tesseraelaw04.PackedPlaces", spec := "packedPlaces", inPlace := ["internal/abi.NoEscape", "internal/reflectlite.TypeOf"], unfollowed := true, recurses := true, named := ["tesserae/varint.errMore", "tesserae/varint.errNone"], apart := false, laid := [("tesserae/varint.errMore", laid_tesserae_varint_errMore), ("tesserae/varint.errNone", laid_tesserae_varint_errNone)], narrowed := true }
def PackedPlacesUptoSaid : Prop := packedPlacesUptoRow.holds Tryd.pinned (OpenSpec.upto packedPlacesSpec)

/-- 'tesseraelaw10.SchemaCodes', WHERE WHAT IT READS IS OF BULK AT MOST 1048576: true; the input reads as it did. -/
def schemaCodesUptoRow : OpenClaim := { program := "ytpgifmccajcgkaadoor", sum := "830ea03be805d0b5b71654e239ee61919f37c66ef7706083e781471f8ff4184e", func := "tesserae/tesseraelaw10.SchemaCodes", spec := "schemaCodes", inPlace := ["internal/abi.NoEscape", "internal/reflectlite.TypeOf", "internal/reflectlite.ValueOf", "(internal/reflectlite.Value).Type", "(internal/reflectlite.Value).IsNil", "(internal/reflectlite.Value).Elem", "(internal/reflectlite.Value).Set"], unfollowed := true, recurses := true, named := ["tesserae/varint.errMore", "tesserae/varint.errNone", "errors.errorType"], apart := false, laid := [("errors.errorType", laid_errors_errorType), ("tesserae/varint.errMore", laid_tesserae_varint_errMore), ("tesserae/varint.errNone", laid_tesserae_varint_errNone)], narrowed := true }
def SchemaCodesUptoSaid : Prop := schemaCodesUptoRow.holds Tryd.pinned (OpenSpec.upto schemaCodesSpec)

/-- 'tesseraelaw10.SchemaBack', WHERE WHAT IT READS IS OF BULK AT MOST 1048576: true; the input reads as it did. -/
def schemaBackUptoRow : OpenClaim := { program := "ytpgifmccajcgkaadoor", sum := "830ea03be805d0b5b71654e239ee61919f37c66ef7706083e781471f8ff4184e", func := "tesserae/tesseraelaw10.SchemaBack", spec := "schemaBack", inPlace := ["internal/abi.NoEscape", "internal/reflectlite.TypeOf", "internal/reflectlite.ValueOf", "(internal/reflectlite.Value).Type", "(internal/reflectlite.Value).IsNil", "(internal/reflectlite.Value).Elem", "(internal/reflectlite.Value).Set"], unfollowed := true, recurses := true, named := ["tesserae/varint.errMore", "tesserae/varint.errNone", "errors.errorType"], apart := false, laid := [("errors.errorType", laid_errors_errorType), ("tesserae/varint.errMore", laid_tesserae_varint_errMore), ("tesserae/varint.errNone", laid_tesserae_varint_errNone)], narrowed := true }
def SchemaBackUptoSaid : Prop := schemaBackUptoRow.holds Tryd.pinned (OpenSpec.upto schemaBackSpec)

end Rows
end Go.Proofs.YtpgifmccajcgkaaDoor
