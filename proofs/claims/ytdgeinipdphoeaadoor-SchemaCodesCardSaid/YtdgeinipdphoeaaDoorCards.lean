/-
  DERIVED. GIVEN WITH THE SEED: THE CARDS: each row of YtdgeinipdphoeaaDoorRows.lean that lists a variable, with what it lists TIED to the program's text (the seventh form; the later family's looks); each row that meets fmt, with fmt's text TOLD by the authors' own Lean function (tested against real Go, not proved from fmt's source: count such statements apart). THE CARD IS WHAT COUNTS. Prove the row's statement (the work); the ties are given (YtdgeinipdphoeaaDoorTie.lean); close each card by the builder's one call (the guide's Derived/Test/ToyasCard.lean, 'card_holds'). Laid BY PROGRAM, IN A SANDBOX (cutbox-door.mjs). By AI agents, Wed Nov 11 2026. No macro, syntax, notation, axiom, sorry.
-/
import Derived.Test.YtdgeinipdphoeaaDoorRows
import GoSem.ClaimSeven
namespace Go.Proofs.YtdgeinipdphoeaaDoor
namespace Rows

/-- THE TIED CARD OF 'tesseraelaw10.SchemaCodes'. -/
def schemaCodesCard : Claim7 := { stood := { row := schemaCodesRow, standIns := [], harness := (true, "659a1eeb9906eb86536ba3e759d2c34deefcd11c5dd0f326077c70c5aa5fa7de"), looks := true }, kinds := [], alts := [], laidByText := true, laidKinds := [.handle, .sentinel, .sentinel], laidTests := true, laidLooks := .later }
def SchemaCodesCardSaid : Prop := Claim7.holds Tryd.pinned (.plain (OpenSpec.ofChange schemaCodesSpec)) schemaCodesCard

/-- THE TIED CARD OF 'tesseraelaw10.SchemaBack'. -/
def schemaBackCard : Claim7 := { stood := { row := schemaBackRow, standIns := [], harness := (true, "659a1eeb9906eb86536ba3e759d2c34deefcd11c5dd0f326077c70c5aa5fa7de"), looks := true }, kinds := [], alts := [], laidByText := true, laidKinds := [.handle, .sentinel, .sentinel], laidTests := true, laidLooks := .later }
def SchemaBackCardSaid : Prop := Claim7.holds Tryd.pinned (.plain (OpenSpec.ofChange schemaBackSpec)) schemaBackCard

/-- THE SECOND FORM's CARD OF 'tesseraelaw10.SchemaCodes'. -/
def schemaCodesUptoCard : Claim7 := { stood := { row := schemaCodesUptoRow, standIns := [], harness := (true, "659a1eeb9906eb86536ba3e759d2c34deefcd11c5dd0f326077c70c5aa5fa7de"), looks := true }, kinds := [], alts := [], laidByText := true, laidKinds := [.handle, .sentinel, .sentinel], laidTests := true, laidLooks := .later }
def SchemaCodesUptoCardSaid : Prop := Claim7.holds Tryd.pinned (.plain (OpenSpec.upto schemaCodesSpec)) schemaCodesUptoCard

/-- THE SECOND FORM's CARD OF 'tesseraelaw10.SchemaBack'. -/
def schemaBackUptoCard : Claim7 := { stood := { row := schemaBackUptoRow, standIns := [], harness := (true, "659a1eeb9906eb86536ba3e759d2c34deefcd11c5dd0f326077c70c5aa5fa7de"), looks := true }, kinds := [], alts := [], laidByText := true, laidKinds := [.handle, .sentinel, .sentinel], laidTests := true, laidLooks := .later }
def SchemaBackUptoCardSaid : Prop := Claim7.holds Tryd.pinned (.plain (OpenSpec.upto schemaBackSpec)) schemaBackUptoCard
end Rows
end Go.Proofs.YtdgeinipdphoeaaDoor
