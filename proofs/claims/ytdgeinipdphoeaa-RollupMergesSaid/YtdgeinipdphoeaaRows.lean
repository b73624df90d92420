/-
  No cell of these rows narrows 'for every input' (looked for: loops, veiled, ifaces, maps, wideKeys, modest, calm, conditions, laid).
  DERIVED. THE GIVEN ROWS OF THIS SEAT. 10 by the template 'for every input the law returns true; each argument reads behind the call as it read before'; 0 by the template 'total and deterministic' (their statements: YtdgeinipdphoeaaTotals.lean).
  GIVEN WITH THE SEED: the statements are not yours to turn. If you find one false, say at which input.
  Laid BY PROGRAM, IN A SANDBOX (cutbox-rows.mjs): the forced cells as the released guide's own fill.sh prints them over the translation ab12142ce9ae71ad… (all of the seat's roots in one cut). By AI agents, Wed Nov 11 2026. No macro, syntax, notation, axiom, sorry.
-/
import Derived.Test.YtdgeinipdphoeaaChecked
import GoSem.Claim
import GoSem.ClaimJoined
import GoSem.ClaimMapViews
import Derived.JoinedTies
import Derived.KernelRfl
namespace Go.Proofs.Ytdgeinipdphoeaa
/- THE CELL 'sum', in the pinned program and in every row, IS THE sha256 OF THE DUMP (.gsa) THAT YtdgeinipdphoeaaProg.lean LOADS. Nothing in Lean hashes anything: it is a label: what it is worth is what the hold of that sum in a sandbox is worth. -/
noncomputable def Try.pinned : Pinned := { name := "ytdgeinipdphoeaa", sum := "ab12142ce9ae71ad8675695c1f4420a8df23ffc37c0cc93a7a971e4c1a4c9723", checked := Try.checked }
namespace Rows
def none {H : Type} : Left H := { results := [], args := [] }

/-- 'tesseraelaw10.SchemaRights': WHATEVER THE INPUT: true; the input reads as it did. -/
def schemaRightsSpec : ChangeSpec := { name := "schemaRights", fn := fun _ => fun
  | [d1, d2, d3] => { results := [.lit (.bool true)], args := [d1, d2, d3] }
  | _ => none }
def schemaRightsRow : OpenClaim := { program := "ytdgeinipdphoeaa", sum := "ab12142ce9ae71ad8675695c1f4420a8df23ffc37c0cc93a7a971e4c1a4c9723", func := "tesserae/tesseraelaw10.SchemaRights", spec := "schemaRights", inPlace := ["internal/abi.NoEscape"], unfollowed := true, recurses := true, apart := false }
def SchemaRightsSaid : Prop := schemaRightsRow.holds Try.pinned (OpenSpec.ofChange schemaRightsSpec)

/-- ITS FALSE NEIGHBOUR: 'it returns false'. Refute it at one input. -/
def schemaRightsWrong : ChangeSpec := { name := "schemaRights", fn := fun _ => fun
  | [d1, d2, d3] => { results := [.lit (.bool false)], args := [d1, d2, d3] }
  | _ => none }
def SchemaRightsWrongFalsely : Prop := schemaRightsRow.holds Try.pinned (OpenSpec.ofChange schemaRightsWrong)

/-- 'tesseraelaw10.SchemaNames': WHATEVER THE INPUT: true; the input reads as it did. -/
def schemaNamesSpec : ChangeSpec := { name := "schemaNames", fn := fun _ => fun
  | [d] => { results := [.lit (.bool true)], args := [d] }
  | _ => none }
def schemaNamesRow : OpenClaim := { program := "ytdgeinipdphoeaa", sum := "ab12142ce9ae71ad8675695c1f4420a8df23ffc37c0cc93a7a971e4c1a4c9723", func := "tesserae/tesseraelaw10.SchemaNames", spec := "schemaNames", inPlace := ["internal/abi.NoEscape"], unfollowed := true, recurses := true, apart := false }
def SchemaNamesSaid : Prop := schemaNamesRow.holds Try.pinned (OpenSpec.ofChange schemaNamesSpec)

/-- ITS FALSE NEIGHBOUR: 'it returns false'. Refute it at one input. -/
def schemaNamesWrong : ChangeSpec := { name := "schemaNames", fn := fun _ => fun
  | [d] => { results := [.lit (.bool false)], args := [d] }
  | _ => none }
def SchemaNamesWrongFalsely : Prop := schemaNamesRow.holds Try.pinned (OpenSpec.ofChange schemaNamesWrong)

/-- 'tesseraelaw12.RollupRolls': WHATEVER THE INPUT: true; the input reads as it did. -/
def rollupRollsSpec : ChangeSpec := { name := "rollupRolls", fn := fun _ => fun
  | [d1, d2, d3] => { results := [.lit (.bool true)], args := [d1, d2, d3] }
  | _ => none }
def rollupRollsRow : OpenClaim := { program := "ytdgeinipdphoeaa", sum := "ab12142ce9ae71ad8675695c1f4420a8df23ffc37c0cc93a7a971e4c1a4c9723", func := "tesserae/tesseraelaw12.RollupRolls", spec := "rollupRolls", inPlace := ["internal/bytealg.abigen_runtime_cmpstring", "math/bits.Add64"], unfollowed := true, recurses := true, apart := false }
def RollupRollsSaid : Prop := rollupRollsRow.holds Try.pinned (OpenSpec.ofChange rollupRollsSpec)

/-- ITS FALSE NEIGHBOUR: 'it returns false'. Refute it at one input. -/
def rollupRollsWrong : ChangeSpec := { name := "rollupRolls", fn := fun _ => fun
  | [d1, d2, d3] => { results := [.lit (.bool false)], args := [d1, d2, d3] }
  | _ => none }
def RollupRollsWrongFalsely : Prop := rollupRollsRow.holds Try.pinned (OpenSpec.ofChange rollupRollsWrong)

/-- 'tesseraelaw12.RollupOwn': WHATEVER THE INPUT: true; the input reads as it did. -/
def rollupOwnSpec : ChangeSpec := { name := "rollupOwn", fn := fun _ => fun
  | [d1, d2] => { results := [.lit (.bool true)], args := [d1, d2] }
  | _ => none }
def rollupOwnRow : OpenClaim := { program := "ytdgeinipdphoeaa", sum := "ab12142ce9ae71ad8675695c1f4420a8df23ffc37c0cc93a7a971e4c1a4c9723", func := "tesserae/tesseraelaw12.RollupOwn", spec := "rollupOwn", inPlace := ["internal/bytealg.abigen_runtime_cmpstring", "math/bits.Add64"], unfollowed := true, recurses := true, apart := false }
def RollupOwnSaid : Prop := rollupOwnRow.holds Try.pinned (OpenSpec.ofChange rollupOwnSpec)

/-- ITS FALSE NEIGHBOUR: 'it returns false'. Refute it at one input. -/
def rollupOwnWrong : ChangeSpec := { name := "rollupOwn", fn := fun _ => fun
  | [d1, d2] => { results := [.lit (.bool false)], args := [d1, d2] }
  | _ => none }
def RollupOwnWrongFalsely : Prop := rollupOwnRow.holds Try.pinned (OpenSpec.ofChange rollupOwnWrong)

/-- 'tesseraelaw12.RollupSums': WHATEVER THE INPUT: true; the input reads as it did. -/
def rollupSumsSpec : ChangeSpec := { name := "rollupSums", fn := fun _ => fun
  | [d1, d2] => { results := [.lit (.bool true)], args := [d1, d2] }
  | _ => none }
def rollupSumsRow : OpenClaim := { program := "ytdgeinipdphoeaa", sum := "ab12142ce9ae71ad8675695c1f4420a8df23ffc37c0cc93a7a971e4c1a4c9723", func := "tesserae/tesseraelaw12.RollupSums", spec := "rollupSums", inPlace := ["internal/bytealg.abigen_runtime_cmpstring", "math/bits.Add64"], unfollowed := true, recurses := true, apart := false }
def RollupSumsSaid : Prop := rollupSumsRow.holds Try.pinned (OpenSpec.ofChange rollupSumsSpec)

/-- ITS FALSE NEIGHBOUR: 'it returns false'. Refute it at one input. -/
def rollupSumsWrong : ChangeSpec := { name := "rollupSums", fn := fun _ => fun
  | [d1, d2] => { results := [.lit (.bool false)], args := [d1, d2] }
  | _ => none }
def RollupSumsWrongFalsely : Prop := rollupSumsRow.holds Try.pinned (OpenSpec.ofChange rollupSumsWrong)

/-- 'tesseraelaw12.RollupTurns': WHATEVER THE INPUT: true; the input reads as it did. -/
def rollupTurnsSpec : ChangeSpec := { name := "rollupTurns", fn := fun _ => fun
  | [d1, d2] => { results := [.lit (.bool true)], args := [d1, d2] }
  | _ => none }
def rollupTurnsRow : OpenClaim := { program := "ytdgeinipdphoeaa", sum := "ab12142ce9ae71ad8675695c1f4420a8df23ffc37c0cc93a7a971e4c1a4c9723", func := "tesserae/tesseraelaw12.RollupTurns", spec := "rollupTurns", inPlace := ["internal/bytealg.abigen_runtime_cmpstring", "math/bits.Add64"], unfollowed := true, recurses := true, apart := false }
def RollupTurnsSaid : Prop := rollupTurnsRow.holds Try.pinned (OpenSpec.ofChange rollupTurnsSpec)

/-- ITS FALSE NEIGHBOUR: 'it returns false'. Refute it at one input. -/
def rollupTurnsWrong : ChangeSpec := { name := "rollupTurns", fn := fun _ => fun
  | [d1, d2] => { results := [.lit (.bool false)], args := [d1, d2] }
  | _ => none }
def RollupTurnsWrongFalsely : Prop := rollupTurnsRow.holds Try.pinned (OpenSpec.ofChange rollupTurnsWrong)

/-- 'tesseraelaw12.RollupCounts': WHATEVER THE INPUT: true; the input reads as it did. -/
def rollupCountsSpec : ChangeSpec := { name := "rollupCounts", fn := fun _ => fun
  | [d1, d2, d3] => { results := [.lit (.bool true)], args := [d1, d2, d3] }
  | _ => none }
def rollupCountsRow : OpenClaim := { program := "ytdgeinipdphoeaa", sum := "ab12142ce9ae71ad8675695c1f4420a8df23ffc37c0cc93a7a971e4c1a4c9723", func := "tesserae/tesseraelaw12.RollupCounts", spec := "rollupCounts", inPlace := ["internal/bytealg.abigen_runtime_cmpstring", "math/bits.Add64"], unfollowed := true, recurses := true, apart := false }
def RollupCountsSaid : Prop := rollupCountsRow.holds Try.pinned (OpenSpec.ofChange rollupCountsSpec)

/-- ITS FALSE NEIGHBOUR: 'it returns false'. Refute it at one input. -/
def rollupCountsWrong : ChangeSpec := { name := "rollupCounts", fn := fun _ => fun
  | [d1, d2, d3] => { results := [.lit (.bool false)], args := [d1, d2, d3] }
  | _ => none }
def RollupCountsWrongFalsely : Prop := rollupCountsRow.holds Try.pinned (OpenSpec.ofChange rollupCountsWrong)

/-- 'tesseraelaw12.RollupFull': WHATEVER THE INPUT: true; the input reads as it did. -/
def rollupFullSpec : ChangeSpec := { name := "rollupFull", fn := fun _ => fun
  | [d1, d2] => { results := [.lit (.bool true)], args := [d1, d2] }
  | _ => none }
def rollupFullRow : OpenClaim := { program := "ytdgeinipdphoeaa", sum := "ab12142ce9ae71ad8675695c1f4420a8df23ffc37c0cc93a7a971e4c1a4c9723", func := "tesserae/tesseraelaw12.RollupFull", spec := "rollupFull", inPlace := ["internal/bytealg.abigen_runtime_cmpstring", "math/bits.Add64"], unfollowed := true, recurses := true, apart := false }
def RollupFullSaid : Prop := rollupFullRow.holds Try.pinned (OpenSpec.ofChange rollupFullSpec)

/-- ITS FALSE NEIGHBOUR: 'it returns false'. Refute it at one input. -/
def rollupFullWrong : ChangeSpec := { name := "rollupFull", fn := fun _ => fun
  | [d1, d2] => { results := [.lit (.bool false)], args := [d1, d2] }
  | _ => none }
def RollupFullWrongFalsely : Prop := rollupFullRow.holds Try.pinned (OpenSpec.ofChange rollupFullWrong)

/-- 'tesseraelaw12.RollupMerges': WHATEVER THE INPUT: true; the input reads as it did. -/
def rollupMergesSpec : ChangeSpec := { name := "rollupMerges", fn := fun _ => fun
  | [d1, d2, d3, d4] => { results := [.lit (.bool true)], args := [d1, d2, d3, d4] }
  | _ => none }
def rollupMergesRow : OpenClaim := { program := "ytdgeinipdphoeaa", sum := "ab12142ce9ae71ad8675695c1f4420a8df23ffc37c0cc93a7a971e4c1a4c9723", func := "tesserae/tesseraelaw12.RollupMerges", spec := "rollupMerges", inPlace := ["internal/bytealg.abigen_runtime_cmpstring", "math/bits.Add64"], unfollowed := true, recurses := true, apart := false }
def RollupMergesSaid : Prop := rollupMergesRow.holds Try.pinned (OpenSpec.ofChange rollupMergesSpec)

/-- ITS FALSE NEIGHBOUR: 'it returns false'. Refute it at one input. -/
def rollupMergesWrong : ChangeSpec := { name := "rollupMerges", fn := fun _ => fun
  | [d1, d2, d3, d4] => { results := [.lit (.bool false)], args := [d1, d2, d3, d4] }
  | _ => none }
def RollupMergesWrongFalsely : Prop := rollupMergesRow.holds Try.pinned (OpenSpec.ofChange rollupMergesWrong)

/-- 'tesseraelaw12.RollupParts': WHATEVER THE INPUT: true; the input reads as it did. -/
def rollupPartsSpec : ChangeSpec := { name := "rollupParts", fn := fun _ => fun
  | [d1, d2, d3] => { results := [.lit (.bool true)], args := [d1, d2, d3] }
  | _ => none }
def rollupPartsRow : OpenClaim := { program := "ytdgeinipdphoeaa", sum := "ab12142ce9ae71ad8675695c1f4420a8df23ffc37c0cc93a7a971e4c1a4c9723", func := "tesserae/tesseraelaw12.RollupParts", spec := "rollupParts", inPlace := ["internal/bytealg.abigen_runtime_cmpstring", "math/bits.Add64"], unfollowed := true, recurses := true, apart := false }
def RollupPartsSaid : Prop := rollupPartsRow.holds Try.pinned (OpenSpec.ofChange rollupPartsSpec)

/-- ITS FALSE NEIGHBOUR: 'it returns false'. Refute it at one input. -/
def rollupPartsWrong : ChangeSpec := { name := "rollupParts", fn := fun _ => fun
  | [d1, d2, d3] => { results := [.lit (.bool false)], args := [d1, d2, d3] }
  | _ => none }
def RollupPartsWrongFalsely : Prop := rollupPartsRow.holds Try.pinned (OpenSpec.ofChange rollupPartsWrong)

/- THE SECOND FORM. 'bulk': how many values and letters a reading holds, each counted each time it is reached (what is shared counts as often as it is met; a slice's spare places count too). A statement '..UptoSaid' is the law's where the arguments, and the package variables that the reading takes, are together of bulk at most 1048576: NARROWER than '..Said'. Prove '..Said' where nothing that the law and all that it calls make is longer than what came in: it says more and counts as full. Else prove '..UptoSaid'. A law counts once. -/
mutual
def uptoBulk {H : Type} : DataW H → Nat
  | .lit (.string bytes) => bytes.length + 1
  | .lit _ => 1
  | .nil => 1
  | .ptr d => uptoBulk d + 1
  | .slice elems spare => uptoBulkAll elems + uptoBulkAll spare + 1
  | .agg parts => uptoBulkAll parts + 1
  | .iface _ d => uptoBulk d + 1
  | .map entries => uptoBulkEntries entries + 1
  | .held _ => 1
def uptoBulkAll {H : Type} : List (DataW H) → Nat
  | [] => 0
  | d :: r => uptoBulk d + uptoBulkAll r
def uptoBulkEntries {H : Type} : List (Lit × DataW H) → Nat
  | [] => 0
  | x :: r => uptoBulkEntry x + uptoBulkEntries r
def uptoBulkEntry {H : Type} : Lit × DataW H → Nat
  | (.string bytes, d) => bytes.length + uptoBulk d + 1
  | (_, d) => uptoBulk d + 1
 end
def uptoSmall : (H : Type) → List (DataW H) → Bool := fun _ ds => decide (uptoBulkAll ds ≤ 1048576)
def OpenSpec.upto (s : _root_.Go.ChangeSpec) : _root_.Go.OpenSpec := { _root_.Go.OpenSpec.ofChange s with cond := some uptoSmall }

/-- 'tesseraelaw10.SchemaRights', WHERE WHAT IT READS IS OF BULK AT MOST 1048576: true; the input reads as it did. -/
def schemaRightsUptoRow : OpenClaim := { program := "ytdgeinipdphoeaa", sum := "ab12142ce9ae71ad8675695c1f4420a8df23ffc37c0cc93a7a971e4c1a4c9723", func := "tesserae/tesseraelaw10.SchemaRights", spec := "schemaRights", inPlace := ["internal/abi.NoEscape"], unfollowed := true, recurses := true, apart := false, narrowed := true }
def SchemaRightsUptoSaid : Prop := schemaRightsUptoRow.holds Try.pinned (OpenSpec.upto schemaRightsSpec)

/-- 'tesseraelaw10.SchemaNames', WHERE WHAT IT READS IS OF BULK AT MOST 1048576: true; the input reads as it did. -/
def schemaNamesUptoRow : OpenClaim := { program := "ytdgeinipdphoeaa", sum := "ab12142ce9ae71ad8675695c1f4420a8df23ffc37c0cc93a7a971e4c1a4c9723", func := "tesserae/tesseraelaw10.SchemaNames", spec := "schemaNames", inPlace := ["internal/abi.NoEscape"], unfollowed := true, recurses := true, apart := false, narrowed := true }
def SchemaNamesUptoSaid : Prop := schemaNamesUptoRow.holds Try.pinned (OpenSpec.upto schemaNamesSpec)

/-- 'tesseraelaw12.RollupRolls', WHERE WHAT IT READS IS OF BULK AT MOST 1048576: true; the input reads as it did. -/
def rollupRollsUptoRow : OpenClaim := { program := "ytdgeinipdphoeaa", sum := "ab12142ce9ae71ad8675695c1f4420a8df23ffc37c0cc93a7a971e4c1a4c9723", func := "tesserae/tesseraelaw12.RollupRolls", spec := "rollupRolls", inPlace := ["internal/bytealg.abigen_runtime_cmpstring", "math/bits.Add64"], unfollowed := true, recurses := true, apart := false, narrowed := true }
def RollupRollsUptoSaid : Prop := rollupRollsUptoRow.holds Try.pinned (OpenSpec.upto rollupRollsSpec)

/-- 'tesseraelaw12.RollupOwn', WHERE WHAT IT READS IS OF BULK AT MOST 1048576: true; the input reads as it did. -/
def rollupOwnUptoRow : OpenClaim := { program := "ytdgeinipdphoeaa", sum := "ab12142ce9ae71ad8675695c1f4420a8df23ffc37c0cc93a7a971e4c1a4c9723", func := "tesserae/tesseraelaw12.RollupOwn", spec := "rollupOwn", inPlace := ["internal/bytealg.abigen_runtime_cmpstring", "math/bits.Add64"], unfollowed := true, recurses := true, apart := false, narrowed := true }
def RollupOwnUptoSaid : Prop := rollupOwnUptoRow.holds Try.pinned (OpenSpec.upto rollupOwnSpec)

/-- 'tesseraelaw12.RollupSums', WHERE WHAT IT READS IS OF BULK AT MOST 1048576: true; the input reads as it did. -/
def rollupSumsUptoRow : OpenClaim := { program := "ytdgeinipdphoeaa", sum := "ab12142ce9ae71ad8675695c1f4420a8df23ffc37c0cc93a7a971e4c1a4c9723", func := "tesserae/tesseraelaw12.RollupSums", spec := "rollupSums", inPlace := ["internal/bytealg.abigen_runtime_cmpstring", "math/bits.Add64"], unfollowed := true, recurses := true, apart := false, narrowed := true }
def RollupSumsUptoSaid : Prop := rollupSumsUptoRow.holds Try.pinned (OpenSpec.upto rollupSumsSpec)

/-- 'tesseraelaw12.RollupTurns', WHERE WHAT IT READS IS OF BULK AT MOST 1048576: true; the input reads as it did. -/
def rollupTurnsUptoRow : OpenClaim := { program := "ytdgeinipdphoeaa", sum := "ab12142ce9ae71ad8675695c1f4420a8df23ffc37c0cc93a7a971e4c1a4c9723", func := "tesserae/tesseraelaw12.RollupTurns", spec := "rollupTurns", inPlace := ["internal/bytealg.abigen_runtime_cmpstring", "math/bits.Add64"], unfollowed := true, recurses := true, apart := false, narrowed := true }
def RollupTurnsUptoSaid : Prop := rollupTurnsUptoRow.holds Try.pinned (OpenSpec.upto rollupTurnsSpec)

/-- 'tesseraelaw12.RollupCounts', WHERE WHAT IT READS IS OF BULK AT MOST 1048576: true; the input reads as it did. -/
def rollupCountsUptoRow : OpenClaim := { program := "ytdgeinipdphoeaa", sum := "ab12142ce9ae71ad8675695c1f4420a8df23ffc37c0cc93a7a971e4c1a4c9723", func := "tesserae/tesseraelaw12.RollupCounts", spec := "rollupCounts", inPlace := ["internal/bytealg.abigen_runtime_cmpstring", "math/bits.Add64"], unfollowed := true, recurses := true, apart := false, narrowed := true }
def RollupCountsUptoSaid : Prop := rollupCountsUptoRow.holds Try.pinned (OpenSpec.upto rollupCountsSpec)

/-- 'tesseraelaw12.RollupFull', WHERE WHAT IT READS IS OF BULK AT MOST 1048576: true; the input reads as it did. -/
def rollupFullUptoRow : OpenClaim := { program := "ytdgeinipdphoeaa", sum := "ab12142ce9ae71ad8675695c1f4420a8df23ffc37c0cc93a7a971e4c1a4c9723", func := "tesserae/tesseraelaw12.RollupFull", spec := "rollupFull", inPlace := ["internal/bytealg.abigen_runtime_cmpstring", "math/bits.Add64"], unfollowed := true, recurses := true, apart := false, narrowed := true }
def RollupFullUptoSaid : Prop := rollupFullUptoRow.holds Try.pinned (OpenSpec.upto rollupFullSpec)

/-- 'tesseraelaw12.RollupMerges', WHERE WHAT IT READS IS OF BULK AT MOST 1048576: true; the input reads as it did. -/
def rollupMergesUptoRow : OpenClaim := { program := "ytdgeinipdphoeaa", sum := "ab12142ce9ae71ad8675695c1f4420a8df23ffc37c0cc93a7a971e4c1a4c9723", func := "tesserae/tesseraelaw12.RollupMerges", spec := "rollupMerges", inPlace := ["internal/bytealg.abigen_runtime_cmpstring", "math/bits.Add64"], unfollowed := true, recurses := true, apart := false, narrowed := true }
def RollupMergesUptoSaid : Prop := rollupMergesUptoRow.holds Try.pinned (OpenSpec.upto rollupMergesSpec)

/-- 'tesseraelaw12.RollupParts', WHERE WHAT IT READS IS OF BULK AT MOST 1048576: true; the input reads as it did. -/
def rollupPartsUptoRow : OpenClaim := { program := "ytdgeinipdphoeaa", sum := "ab12142ce9ae71ad8675695c1f4420a8df23ffc37c0cc93a7a971e4c1a4c9723", func := "tesserae/tesseraelaw12.RollupParts", spec := "rollupParts", inPlace := ["internal/bytealg.abigen_runtime_cmpstring", "math/bits.Add64"], unfollowed := true, recurses := true, apart := false, narrowed := true }
def RollupPartsUptoSaid : Prop := rollupPartsUptoRow.holds Try.pinned (OpenSpec.upto rollupPartsSpec)

end Rows
end Go.Proofs.Ytdgeinipdphoeaa
