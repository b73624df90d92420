/-
  No cell of these rows narrows 'for every input' (looked for: loops, veiled, ifaces, maps, wideKeys, modest, calm, conditions, laid).
  DERIVED. THE GIVEN ROWS OF THIS SEAT. 15 by the template 'for every input the law returns true; each argument reads behind the call as it read before'; 0 by the template 'total and deterministic' (their statements: YtekmcomddaoljaaTotals.lean).
  GIVEN WITH THE SEED: the statements are not yours to turn. If you find one false, say at which input.
  Laid BY PROGRAM, IN A SANDBOX (cutbox-rows.mjs): the forced cells as the released guide's own fill.sh prints them over the translation 88292381eb6664ac… (all of the seat's roots in one cut). By AI agents, Wed Nov 11 2026. No macro, syntax, notation, axiom, sorry.
-/
import Derived.Test.YtekmcomddaoljaaChecked
import GoSem.Claim
import GoSem.ClaimJoined
import GoSem.ClaimMapViews
import Derived.JoinedTies
import Derived.KernelRfl
namespace Go.Proofs.Ytekmcomddaoljaa
/- THE CELL 'sum', in the pinned program and in every row, IS THE sha256 OF THE DUMP (.gsa) THAT YtekmcomddaoljaaProg.lean LOADS. Nothing in Lean hashes anything: it is a label: what it is worth is what the hold of that sum in a sandbox is worth. -/
noncomputable def Try.pinned : Pinned := { name := "ytekmcomddaoljaa", sum := "88292381eb6664ac2c79622f2474f56bdb4e6f5322476c27ff1f74b883972175", checked := Try.checked }
namespace Rows
def none {H : Type} : Left H := { results := [], args := [] }

/-- 'tesseraelaw11.GrainTwice': WHATEVER THE INPUT: true; the input reads as it did. -/
def grainTwiceSpec : ChangeSpec := { name := "grainTwice", fn := fun _ => fun
  | [d1, d2, d3] => { results := [.lit (.bool true)], args := [d1, d2, d3] }
  | _ => none }
def grainTwiceRow : OpenClaim := { program := "ytekmcomddaoljaa", sum := "88292381eb6664ac2c79622f2474f56bdb4e6f5322476c27ff1f74b883972175", func := "tesserae/tesseraelaw11.GrainTwice", spec := "grainTwice", unfollowed := true, recurses := true, apart := false }
def GrainTwiceSaid : Prop := grainTwiceRow.holds Try.pinned (OpenSpec.ofChange grainTwiceSpec)

/-- ITS FALSE NEIGHBOUR: 'it returns false'. Refute it at one input. -/
def grainTwiceWrong : ChangeSpec := { name := "grainTwice", fn := fun _ => fun
  | [d1, d2, d3] => { results := [.lit (.bool false)], args := [d1, d2, d3] }
  | _ => none }
def GrainTwiceWrongFalsely : Prop := grainTwiceRow.holds Try.pinned (OpenSpec.ofChange grainTwiceWrong)

/-- 'tesseraelaw11.GrainFits': WHATEVER THE INPUT: true; the input reads as it did. -/
def grainFitsSpec : ChangeSpec := { name := "grainFits", fn := fun _ => fun
  | [d1, d2, d3] => { results := [.lit (.bool true)], args := [d1, d2, d3] }
  | _ => none }
def grainFitsRow : OpenClaim := { program := "ytekmcomddaoljaa", sum := "88292381eb6664ac2c79622f2474f56bdb4e6f5322476c27ff1f74b883972175", func := "tesserae/tesseraelaw11.GrainFits", spec := "grainFits", unfollowed := true, recurses := true, apart := false }
def GrainFitsSaid : Prop := grainFitsRow.holds Try.pinned (OpenSpec.ofChange grainFitsSpec)

/-- ITS FALSE NEIGHBOUR: 'it returns false'. Refute it at one input. -/
def grainFitsWrong : ChangeSpec := { name := "grainFits", fn := fun _ => fun
  | [d1, d2, d3] => { results := [.lit (.bool false)], args := [d1, d2, d3] }
  | _ => none }
def GrainFitsWrongFalsely : Prop := grainFitsRow.holds Try.pinned (OpenSpec.ofChange grainFitsWrong)

/-- 'tesseraelaw11.GrainBuckets': WHATEVER THE INPUT: true; the input reads as it did. -/
def grainBucketsSpec : ChangeSpec := { name := "grainBuckets", fn := fun _ => fun
  | [d1, d2, d3] => { results := [.lit (.bool true)], args := [d1, d2, d3] }
  | _ => none }
def grainBucketsRow : OpenClaim := { program := "ytekmcomddaoljaa", sum := "88292381eb6664ac2c79622f2474f56bdb4e6f5322476c27ff1f74b883972175", func := "tesserae/tesseraelaw11.GrainBuckets", spec := "grainBuckets", unfollowed := true, recurses := true, apart := false }
def GrainBucketsSaid : Prop := grainBucketsRow.holds Try.pinned (OpenSpec.ofChange grainBucketsSpec)

/-- ITS FALSE NEIGHBOUR: 'it returns false'. Refute it at one input. -/
def grainBucketsWrong : ChangeSpec := { name := "grainBuckets", fn := fun _ => fun
  | [d1, d2, d3] => { results := [.lit (.bool false)], args := [d1, d2, d3] }
  | _ => none }
def GrainBucketsWrongFalsely : Prop := grainBucketsRow.holds Try.pinned (OpenSpec.ofChange grainBucketsWrong)

/-- 'tesseraelaw11.GrainCoarser': WHATEVER THE INPUT: true; the input reads as it did. -/
def grainCoarserSpec : ChangeSpec := { name := "grainCoarser", fn := fun _ => fun
  | [d1, d2, d3] => { results := [.lit (.bool true)], args := [d1, d2, d3] }
  | _ => none }
def grainCoarserRow : OpenClaim := { program := "ytekmcomddaoljaa", sum := "88292381eb6664ac2c79622f2474f56bdb4e6f5322476c27ff1f74b883972175", func := "tesserae/tesseraelaw11.GrainCoarser", spec := "grainCoarser", unfollowed := true, recurses := true, apart := false }
def GrainCoarserSaid : Prop := grainCoarserRow.holds Try.pinned (OpenSpec.ofChange grainCoarserSpec)

/-- ITS FALSE NEIGHBOUR: 'it returns false'. Refute it at one input. -/
def grainCoarserWrong : ChangeSpec := { name := "grainCoarser", fn := fun _ => fun
  | [d1, d2, d3] => { results := [.lit (.bool false)], args := [d1, d2, d3] }
  | _ => none }
def GrainCoarserWrongFalsely : Prop := grainCoarserRow.holds Try.pinned (OpenSpec.ofChange grainCoarserWrong)

/-- 'tesseraelaw11.GrainCuts': WHATEVER THE INPUT: true; the input reads as it did. -/
def grainCutsSpec : ChangeSpec := { name := "grainCuts", fn := fun _ => fun
  | [d1, d2, d3, d4] => { results := [.lit (.bool true)], args := [d1, d2, d3, d4] }
  | _ => none }
def grainCutsRow : OpenClaim := { program := "ytekmcomddaoljaa", sum := "88292381eb6664ac2c79622f2474f56bdb4e6f5322476c27ff1f74b883972175", func := "tesserae/tesseraelaw11.GrainCuts", spec := "grainCuts", unfollowed := true, recurses := true, apart := false }
def GrainCutsSaid : Prop := grainCutsRow.holds Try.pinned (OpenSpec.ofChange grainCutsSpec)

/-- ITS FALSE NEIGHBOUR: 'it returns false'. Refute it at one input. -/
def grainCutsWrong : ChangeSpec := { name := "grainCuts", fn := fun _ => fun
  | [d1, d2, d3, d4] => { results := [.lit (.bool false)], args := [d1, d2, d3, d4] }
  | _ => none }
def GrainCutsWrongFalsely : Prop := grainCutsRow.holds Try.pinned (OpenSpec.ofChange grainCutsWrong)

/-- 'tesseraelaw01.WideLists': WHATEVER THE INPUT: true; the input reads as it did. -/
def wideListsSpec : ChangeSpec := { name := "wideLists", fn := fun _ => fun
  | [d] => { results := [.lit (.bool true)], args := [d] }
  | _ => none }
def wideListsRow : OpenClaim := { program := "ytekmcomddaoljaa", sum := "88292381eb6664ac2c79622f2474f56bdb4e6f5322476c27ff1f74b883972175", func := "tesserae/tesseraelaw01.WideLists", spec := "wideLists", inPlace := ["math/bits.Add64"], unfollowed := true, recurses := true, apart := false }
def WideListsSaid : Prop := wideListsRow.holds Try.pinned (OpenSpec.ofChange wideListsSpec)

/-- ITS FALSE NEIGHBOUR: 'it returns false'. Refute it at one input. -/
def wideListsWrong : ChangeSpec := { name := "wideLists", fn := fun _ => fun
  | [d] => { results := [.lit (.bool false)], args := [d] }
  | _ => none }
def WideListsWrongFalsely : Prop := wideListsRow.holds Try.pinned (OpenSpec.ofChange wideListsWrong)

/-- 'tesseraelaw01.WideTurns': WHATEVER THE INPUT: true; the input reads as it did. -/
def wideTurnsSpec : ChangeSpec := { name := "wideTurns", fn := fun _ => fun
  | [d1, d2] => { results := [.lit (.bool true)], args := [d1, d2] }
  | _ => none }
def wideTurnsRow : OpenClaim := { program := "ytekmcomddaoljaa", sum := "88292381eb6664ac2c79622f2474f56bdb4e6f5322476c27ff1f74b883972175", func := "tesserae/tesseraelaw01.WideTurns", spec := "wideTurns", inPlace := ["math/bits.Add64"], unfollowed := true, recurses := true, apart := false }
def WideTurnsSaid : Prop := wideTurnsRow.holds Try.pinned (OpenSpec.ofChange wideTurnsSpec)

/-- ITS FALSE NEIGHBOUR: 'it returns false'. Refute it at one input. -/
def wideTurnsWrong : ChangeSpec := { name := "wideTurns", fn := fun _ => fun
  | [d1, d2] => { results := [.lit (.bool false)], args := [d1, d2] }
  | _ => none }
def WideTurnsWrongFalsely : Prop := wideTurnsRow.holds Try.pinned (OpenSpec.ofChange wideTurnsWrong)

/-- 'tesseraelaw11.GrainSpans': WHATEVER THE INPUT: true; the input reads as it did. -/
def grainSpansSpec : ChangeSpec := { name := "grainSpans", fn := fun _ => fun
  | [d1, d2, d3] => { results := [.lit (.bool true)], args := [d1, d2, d3] }
  | _ => none }
def grainSpansRow : OpenClaim := { program := "ytekmcomddaoljaa", sum := "88292381eb6664ac2c79622f2474f56bdb4e6f5322476c27ff1f74b883972175", func := "tesserae/tesseraelaw11.GrainSpans", spec := "grainSpans", unfollowed := true, recurses := true, apart := false }
def GrainSpansSaid : Prop := grainSpansRow.holds Try.pinned (OpenSpec.ofChange grainSpansSpec)

/-- ITS FALSE NEIGHBOUR: 'it returns false'. Refute it at one input. -/
def grainSpansWrong : ChangeSpec := { name := "grainSpans", fn := fun _ => fun
  | [d1, d2, d3] => { results := [.lit (.bool false)], args := [d1, d2, d3] }
  | _ => none }
def GrainSpansWrongFalsely : Prop := grainSpansRow.holds Try.pinned (OpenSpec.ofChange grainSpansWrong)

/-- 'tesseraelaw11.GrainBoth': WHATEVER THE INPUT: true; the input reads as it did. -/
def grainBothSpec : ChangeSpec := { name := "grainBoth", fn := fun _ => fun
  | [d1, d2, d3] => { results := [.lit (.bool true)], args := [d1, d2, d3] }
  | _ => none }
def grainBothRow : OpenClaim := { program := "ytekmcomddaoljaa", sum := "88292381eb6664ac2c79622f2474f56bdb4e6f5322476c27ff1f74b883972175", func := "tesserae/tesseraelaw11.GrainBoth", spec := "grainBoth", unfollowed := true, recurses := true, apart := false }
def GrainBothSaid : Prop := grainBothRow.holds Try.pinned (OpenSpec.ofChange grainBothSpec)

/-- ITS FALSE NEIGHBOUR: 'it returns false'. Refute it at one input. -/
def grainBothWrong : ChangeSpec := { name := "grainBoth", fn := fun _ => fun
  | [d1, d2, d3] => { results := [.lit (.bool false)], args := [d1, d2, d3] }
  | _ => none }
def GrainBothWrongFalsely : Prop := grainBothRow.holds Try.pinned (OpenSpec.ofChange grainBothWrong)

/-- 'tesseraelaw01.WideTimes': WHATEVER THE INPUT: true; the input reads as it did. -/
def wideTimesSpec : ChangeSpec := { name := "wideTimes", fn := fun _ => fun
  | [d1, d2, d3] => { results := [.lit (.bool true)], args := [d1, d2, d3] }
  | _ => none }
def wideTimesRow : OpenClaim := { program := "ytekmcomddaoljaa", sum := "88292381eb6664ac2c79622f2474f56bdb4e6f5322476c27ff1f74b883972175", func := "tesserae/tesseraelaw01.WideTimes", spec := "wideTimes", inPlace := ["math/bits.Add64"], unfollowed := true, recurses := true, apart := false }
def WideTimesSaid : Prop := wideTimesRow.holds Try.pinned (OpenSpec.ofChange wideTimesSpec)

/-- ITS FALSE NEIGHBOUR: 'it returns false'. Refute it at one input. -/
def wideTimesWrong : ChangeSpec := { name := "wideTimes", fn := fun _ => fun
  | [d1, d2, d3] => { results := [.lit (.bool false)], args := [d1, d2, d3] }
  | _ => none }
def WideTimesWrongFalsely : Prop := wideTimesRow.holds Try.pinned (OpenSpec.ofChange wideTimesWrong)

/-- 'tesseraelaw01.WideProducts': WHATEVER THE INPUT: true; the input reads as it did. -/
def wideProductsSpec : ChangeSpec := { name := "wideProducts", fn := fun _ => fun
  | [d1, d2, d3, d4] => { results := [.lit (.bool true)], args := [d1, d2, d3, d4] }
  | _ => none }
def wideProductsRow : OpenClaim := { program := "ytekmcomddaoljaa", sum := "88292381eb6664ac2c79622f2474f56bdb4e6f5322476c27ff1f74b883972175", func := "tesserae/tesseraelaw01.WideProducts", spec := "wideProducts", inPlace := ["math/bits.Add64"], unfollowed := true, recurses := true, apart := false }
def WideProductsSaid : Prop := wideProductsRow.holds Try.pinned (OpenSpec.ofChange wideProductsSpec)

/-- ITS FALSE NEIGHBOUR: 'it returns false'. Refute it at one input. -/
def wideProductsWrong : ChangeSpec := { name := "wideProducts", fn := fun _ => fun
  | [d1, d2, d3, d4] => { results := [.lit (.bool false)], args := [d1, d2, d3, d4] }
  | _ => none }
def WideProductsWrongFalsely : Prop := wideProductsRow.holds Try.pinned (OpenSpec.ofChange wideProductsWrong)

/-- 'tesseraelaw01.WideShifts': WHATEVER THE INPUT: true; the input reads as it did. -/
def wideShiftsSpec : ChangeSpec := { name := "wideShifts", fn := fun _ => fun
  | [d1, d2, d3, d4] => { results := [.lit (.bool true)], args := [d1, d2, d3, d4] }
  | _ => none }
def wideShiftsRow : OpenClaim := { program := "ytekmcomddaoljaa", sum := "88292381eb6664ac2c79622f2474f56bdb4e6f5322476c27ff1f74b883972175", func := "tesserae/tesseraelaw01.WideShifts", spec := "wideShifts", inPlace := ["math/bits.Add64"], unfollowed := true, recurses := true, apart := false }
def WideShiftsSaid : Prop := wideShiftsRow.holds Try.pinned (OpenSpec.ofChange wideShiftsSpec)

/-- ITS FALSE NEIGHBOUR: 'it returns false'. Refute it at one input. -/
def wideShiftsWrong : ChangeSpec := { name := "wideShifts", fn := fun _ => fun
  | [d1, d2, d3, d4] => { results := [.lit (.bool false)], args := [d1, d2, d3, d4] }
  | _ => none }
def WideShiftsWrongFalsely : Prop := wideShiftsRow.holds Try.pinned (OpenSpec.ofChange wideShiftsWrong)

/-- 'tesseraelaw01.WideCompares': WHATEVER THE INPUT: true; the input reads as it did. -/
def wideComparesSpec : ChangeSpec := { name := "wideCompares", fn := fun _ => fun
  | [d1, d2, d3] => { results := [.lit (.bool true)], args := [d1, d2, d3] }
  | _ => none }
def wideComparesRow : OpenClaim := { program := "ytekmcomddaoljaa", sum := "88292381eb6664ac2c79622f2474f56bdb4e6f5322476c27ff1f74b883972175", func := "tesserae/tesseraelaw01.WideCompares", spec := "wideCompares", inPlace := ["math/bits.Add64"], unfollowed := true, recurses := true, apart := false }
def WideComparesSaid : Prop := wideComparesRow.holds Try.pinned (OpenSpec.ofChange wideComparesSpec)

/-- ITS FALSE NEIGHBOUR: 'it returns false'. Refute it at one input. -/
def wideComparesWrong : ChangeSpec := { name := "wideCompares", fn := fun _ => fun
  | [d1, d2, d3] => { results := [.lit (.bool false)], args := [d1, d2, d3] }
  | _ => none }
def WideComparesWrongFalsely : Prop := wideComparesRow.holds Try.pinned (OpenSpec.ofChange wideComparesWrong)

/-- 'tesseraelaw01.WideSums': WHATEVER THE INPUT: true; the input reads as it did. -/
def wideSumsSpec : ChangeSpec := { name := "wideSums", fn := fun _ => fun
  | [d1, d2] => { results := [.lit (.bool true)], args := [d1, d2] }
  | _ => none }
def wideSumsRow : OpenClaim := { program := "ytekmcomddaoljaa", sum := "88292381eb6664ac2c79622f2474f56bdb4e6f5322476c27ff1f74b883972175", func := "tesserae/tesseraelaw01.WideSums", spec := "wideSums", inPlace := ["math/bits.Add64", "math/bits.Sub64"], unfollowed := true, recurses := true, apart := false }
def WideSumsSaid : Prop := wideSumsRow.holds Try.pinned (OpenSpec.ofChange wideSumsSpec)

/-- ITS FALSE NEIGHBOUR: 'it returns false'. Refute it at one input. -/
def wideSumsWrong : ChangeSpec := { name := "wideSums", fn := fun _ => fun
  | [d1, d2] => { results := [.lit (.bool false)], args := [d1, d2] }
  | _ => none }
def WideSumsWrongFalsely : Prop := wideSumsRow.holds Try.pinned (OpenSpec.ofChange wideSumsWrong)

/-- 'tesseraelaw01.WideBack': WHATEVER THE INPUT: true; the input reads as it did. -/
def wideBackSpec : ChangeSpec := { name := "wideBack", fn := fun _ => fun
  | [d1, d2, d3] => { results := [.lit (.bool true)], args := [d1, d2, d3] }
  | _ => none }
def wideBackRow : OpenClaim := { program := "ytekmcomddaoljaa", sum := "88292381eb6664ac2c79622f2474f56bdb4e6f5322476c27ff1f74b883972175", func := "tesserae/tesseraelaw01.WideBack", spec := "wideBack", inPlace := ["math/bits.Add64", "math/bits.Sub64"], unfollowed := true, recurses := true, apart := false }
def WideBackSaid : Prop := wideBackRow.holds Try.pinned (OpenSpec.ofChange wideBackSpec)

/-- ITS FALSE NEIGHBOUR: 'it returns false'. Refute it at one input. -/
def wideBackWrong : ChangeSpec := { name := "wideBack", fn := fun _ => fun
  | [d1, d2, d3] => { results := [.lit (.bool false)], args := [d1, d2, d3] }
  | _ => none }
def WideBackWrongFalsely : Prop := wideBackRow.holds Try.pinned (OpenSpec.ofChange wideBackWrong)

/- THE SECOND FORM. 'bulk': how many values and letters a reading holds, each counted each time it is reached (what is shared counts as often as it is met; a slice's spare places count too). A statement '..UptoSaid' is the law's where the arguments, and the package variables that the reading takes, are together of bulk at most 1048576: NARROWER than '..Said'. Prove '..Said' where nothing that the law and all that it calls make is longer than what came in: it says more and counts as full. Else prove '..UptoSaid'. A law counts once. -/
mutual
def uptoBulk {H : Type} : DataW H → Nat
  | .lit (.string bytes) => bytes.length + 1
  | .lit _ => 1
  | .nil => 1
  | .ptr d => uptoBulk d + 1
  | .slice elems spare => uptoBulkAll elems + uptoBulkAll spare + 1
  | .agg parts => uptoBulkAll parts + 1
  | .iface _ d => uptoBulk d + 1
  | .map entries => uptoBulkEntries entries + 1
  | .held _ => 1
def uptoBulkAll {H : Type} : List (DataW H) → Nat
  | [] => 0
  | d :: r => uptoBulk d + uptoBulkAll r
def uptoBulkEntries {H : Type} : List (Lit × DataW H) → Nat
  | [] => 0
  | x :: r => uptoBulkEntry x + uptoBulkEntries r
def uptoBulkEntry {H : Type} : Lit × DataW H → Nat
  | (.string bytes, d) => bytes.length + uptoBulk d + 1
  | (_, d) => uptoBulk d + 1
 end
def uptoSmall : (H : Type) → List (DataW H) → Bool := fun _ ds => decide (uptoBulkAll ds ≤ 1048576)
def OpenSpec.upto (s : _root_.Go.ChangeSpec) : _root_.Go.OpenSpec := { _root_.Go.OpenSpec.ofChange s with cond := some uptoSmall }

/-- 'tesseraelaw11.GrainTwice', WHERE WHAT IT READS IS OF BULK AT MOST 1048576: true; the input reads as it did. -/
def grainTwiceUptoRow : OpenClaim := { program := "ytekmcomddaoljaa", sum := "88292381eb6664ac2c79622f2474f56bdb4e6f5322476c27ff1f74b883972175", func := "tesserae/tesseraelaw11.GrainTwice", spec := "grainTwice", unfollowed := true, recurses := true, apart := false, narrowed := true }
def GrainTwiceUptoSaid : Prop := grainTwiceUptoRow.holds Try.pinned (OpenSpec.upto grainTwiceSpec)

/-- 'tesseraelaw11.GrainFits', WHERE WHAT IT READS IS OF BULK AT MOST 1048576: true; the input reads as it did. -/
def grainFitsUptoRow : OpenClaim := { program := "ytekmcomddaoljaa", sum := "88292381eb6664ac2c79622f2474f56bdb4e6f5322476c27ff1f74b883972175", func := "tesserae/tesseraelaw11.GrainFits", spec := "grainFits", unfollowed := true, recurses := true, apart := false, narrowed := true }
def GrainFitsUptoSaid : Prop := grainFitsUptoRow.holds Try.pinned (OpenSpec.upto grainFitsSpec)

/-- 'tesseraelaw11.GrainBuckets', WHERE WHAT IT READS IS OF BULK AT MOST 1048576: true; the input reads as it did. -/
def grainBucketsUptoRow : OpenClaim := { program := "ytekmcomddaoljaa", sum := "88292381eb6664ac2c79622f2474f56bdb4e6f5322476c27ff1f74b883972175", func := "tesserae/tesseraelaw11.GrainBuckets", spec := "grainBuckets", unfollowed := true, recurses := true, apart := false, narrowed := true }
def GrainBucketsUptoSaid : Prop := grainBucketsUptoRow.holds Try.pinned (OpenSpec.upto grainBucketsSpec)

/-- 'tesseraelaw11.GrainCoarser', WHERE WHAT IT READS IS OF BULK AT MOST 1048576: true; the input reads as it did. -/
def grainCoarserUptoRow : OpenClaim := { program := "ytekmcomddaoljaa", sum := "88292381eb6664ac2c79622f2474f56bdb4e6f5322476c27ff1f74b883972175", func := "tesserae/tesseraelaw11.GrainCoarser", spec := "grainCoarser", unfollowed := true, recurses := true, apart := false, narrowed := true }
def GrainCoarserUptoSaid : Prop := grainCoarserUptoRow.holds Try.pinned (OpenSpec.upto grainCoarserSpec)

/-- 'tesseraelaw11.GrainCuts', WHERE WHAT IT READS IS OF BULK AT MOST 1048576: true; the input reads as it did. -/
def grainCutsUptoRow : OpenClaim := { program := "ytekmcomddaoljaa", sum := "88292381eb6664ac2c79622f2474f56bdb4e6f5322476c27ff1f74b883972175", func := "tesserae/tesseraelaw11.GrainCuts", spec := "grainCuts", unfollowed := true, recurses := true, apart := false, narrowed := true }
def GrainCutsUptoSaid : Prop := grainCutsUptoRow.holds Try.pinned (OpenSpec.upto grainCutsSpec)

/-- 'tesseraelaw01.WideLists', WHERE WHAT IT READS IS OF BULK AT MOST 1048576: true; the input reads as it did. -/
def wideListsUptoRow : OpenClaim := { program := "ytekmcomddaoljaa", sum := "88292381eb6664ac2c79622f2474f56bdb4e6f5322476c27ff1f74b883972175", func := "tesserae/tesseraelaw01.WideLists", spec := "wideLists", inPlace := ["math/bits.Add64"], unfollowed := true, recurses := true, apart := false, narrowed := true }
def WideListsUptoSaid : Prop := wideListsUptoRow.holds Try.pinned (OpenSpec.upto wideListsSpec)

/-- 'tesseraelaw01.WideTurns', WHERE WHAT IT READS IS OF BULK AT MOST 1048576: true; the input reads as it did. -/
def wideTurnsUptoRow : OpenClaim := { program := "ytekmcomddaoljaa", sum := "88292381eb6664ac2c79622f2474f56bdb4e6f5322476c27ff1f74b883972175", func := "tesserae/tesseraelaw01.WideTurns", spec := "wideTurns", inPlace := ["math/bits.Add64"], unfollowed := true, recurses := true, apart := false, narrowed := true }
def WideTurnsUptoSaid : Prop := wideTurnsUptoRow.holds Try.pinned (OpenSpec.upto wideTurnsSpec)

/-- 'tesseraelaw11.GrainSpans', WHERE WHAT IT READS IS OF BULK AT MOST 1048576: true; the input reads as it did. -/
def grainSpansUptoRow : OpenClaim := { program := "ytekmcomddaoljaa", sum := "88292381eb6664ac2c79622f2474f56bdb4e6f5322476c27ff1f74b883972175", func := "tesserae/tesseraelaw11.GrainSpans", spec := "grainSpans", unfollowed := true, recurses := true, apart := false, narrowed := true }
def GrainSpansUptoSaid : Prop := grainSpansUptoRow.holds Try.pinned (OpenSpec.upto grainSpansSpec)

/-- 'tesseraelaw11.GrainBoth', WHERE WHAT IT READS IS OF BULK AT MOST 1048576: true; the input reads as it did. -/
def grainBothUptoRow : OpenClaim := { program := "ytekmcomddaoljaa", sum := "88292381eb6664ac2c79622f2474f56bdb4e6f5322476c27ff1f74b883972175", func := "tesserae/tesseraelaw11.GrainBoth", spec := "grainBoth", unfollowed := true, recurses := true, apart := false, narrowed := true }
def GrainBothUptoSaid : Prop := grainBothUptoRow.holds Try.pinned (OpenSpec.upto grainBothSpec)

/-- 'tesseraelaw01.WideTimes', WHERE WHAT IT READS IS OF BULK AT MOST 1048576: true; the input reads as it did. -/
def wideTimesUptoRow : OpenClaim := { program := "ytekmcomddaoljaa", sum := "88292381eb6664ac2c79622f2474f56bdb4e6f5322476c27ff1f74b883972175", func := "tesserae/tesseraelaw01.WideTimes", spec := "wideTimes", inPlace := ["math/bits.Add64"], unfollowed := true, recurses := true, apart := false, narrowed := true }
def WideTimesUptoSaid : Prop := wideTimesUptoRow.holds Try.pinned (OpenSpec.upto wideTimesSpec)

/-- 'tesseraelaw01.WideProducts', WHERE WHAT IT READS IS OF BULK AT MOST 1048576: true; the input reads as it did. -/
def wideProductsUptoRow : OpenClaim := { program := "ytekmcomddaoljaa", sum := "88292381eb6664ac2c79622f2474f56bdb4e6f5322476c27ff1f74b883972175", func := "tesserae/tesseraelaw01.WideProducts", spec := "wideProducts", inPlace := ["math/bits.Add64"], unfollowed := true, recurses := true, apart := false, narrowed := true }
def WideProductsUptoSaid : Prop := wideProductsUptoRow.holds Try.pinned (OpenSpec.upto wideProductsSpec)

/-- 'tesseraelaw01.WideShifts', WHERE WHAT IT READS IS OF BULK AT MOST 1048576: true; the input reads as it did. -/
def wideShiftsUptoRow : OpenClaim := { program := "ytekmcomddaoljaa", sum := "88292381eb6664ac2c79622f2474f56bdb4e6f5322476c27ff1f74b883972175", func := "tesserae/tesseraelaw01.WideShifts", spec := "wideShifts", inPlace := ["math/bits.Add64"], unfollowed := true, recurses := true, apart := false, narrowed := true }
def WideShiftsUptoSaid : Prop := wideShiftsUptoRow.holds Try.pinned (OpenSpec.upto wideShiftsSpec)

/-- 'tesseraelaw01.WideCompares', WHERE WHAT IT READS IS OF BULK AT MOST 1048576: true; the input reads as it did. -/
def wideComparesUptoRow : OpenClaim := { program := "ytekmcomddaoljaa", sum := "88292381eb6664ac2c79622f2474f56bdb4e6f5322476c27ff1f74b883972175", func := "tesserae/tesseraelaw01.WideCompares", spec := "wideCompares", inPlace := ["math/bits.Add64"], unfollowed := true, recurses := true, apart := false, narrowed := true }
def WideComparesUptoSaid : Prop := wideComparesUptoRow.holds Try.pinned (OpenSpec.upto wideComparesSpec)

/-- 'tesseraelaw01.WideSums', WHERE WHAT IT READS IS OF BULK AT MOST 1048576: true; the input reads as it did. -/
def wideSumsUptoRow : OpenClaim := { program := "ytekmcomddaoljaa", sum := "88292381eb6664ac2c79622f2474f56bdb4e6f5322476c27ff1f74b883972175", func := "tesserae/tesseraelaw01.WideSums", spec := "wideSums", inPlace := ["math/bits.Add64", "math/bits.Sub64"], unfollowed := true, recurses := true, apart := false, narrowed := true }
def WideSumsUptoSaid : Prop := wideSumsUptoRow.holds Try.pinned (OpenSpec.upto wideSumsSpec)

/-- 'tesseraelaw01.WideBack', WHERE WHAT IT READS IS OF BULK AT MOST 1048576: true; the input reads as it did. -/
def wideBackUptoRow : OpenClaim := { program := "ytekmcomddaoljaa", sum := "88292381eb6664ac2c79622f2474f56bdb4e6f5322476c27ff1f74b883972175", func := "tesserae/tesseraelaw01.WideBack", spec := "wideBack", inPlace := ["math/bits.Add64", "math/bits.Sub64"], unfollowed := true, recurses := true, apart := false, narrowed := true }
def WideBackUptoSaid : Prop := wideBackUptoRow.holds Try.pinned (OpenSpec.upto wideBackSpec)

end Rows
end Go.Proofs.Ytekmcomddaoljaa
