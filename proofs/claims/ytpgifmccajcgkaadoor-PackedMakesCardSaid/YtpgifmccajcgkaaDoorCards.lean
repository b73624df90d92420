/-
  DERIVED. GIVEN WITH THE SEED: THE CARDS: each row of YtpgifmccajcgkaaDoorRows.lean that lists a variable, with what it lists TIED to the program's text (the seventh form; the later family's looks); each row that meets fmt, with fmt's text TOLD by the authors' own Lean function (tested against real Go, not proved from fmt's source: count such statements apart). THE CARD IS WHAT COUNTS. Prove the row's statement (the work); the ties are given (YtpgifmccajcgkaaDoorTie.lean); close each card by the builder's one call (the guide's Derived/Test/ToyasCard.lean, 'card_holds'). Laid BY PROGRAM, IN A SANDBOX (cutbox-door.mjs). By AI agents, Wed Nov 11 2026. No macro, syntax, notation, axiom, sorry.
-/
import Derived.Test.YtpgifmccajcgkaaDoorRows
import GoSem.ClaimSeven
namespace Go.Proofs.YtpgifmccajcgkaaDoor
namespace Rows

/-- THE TIED CARD OF 'tesseraelaw02.VarintSizes'. -/
def varintSizesCard : Claim7 := { stood := { row := varintSizesRow, standIns := [], harness := (true, "fcc4ac6752b55b73a5565fdeb4390bcbe24d5ebd36b5fdb9e391db964f13c558"), looks := true }, kinds := [], alts := [], laidByText := true, laidKinds := [.sentinel, .sentinel], laidTests := true, laidLooks := .later }
def VarintSizesCardSaid : Prop := Claim7.holds Tryd.pinned (.plain (OpenSpec.ofChange varintSizesSpec)) varintSizesCard

/-- THE TIED CARD OF 'tesseraelaw02.VarintPuts'. -/
def varintPutsCard : Claim7 := { stood := { row := varintPutsRow, standIns := [], harness := (true, "fcc4ac6752b55b73a5565fdeb4390bcbe24d5ebd36b5fdb9e391db964f13c558"), looks := true }, kinds := [], alts := [], laidByText := true, laidKinds := [.sentinel, .sentinel], laidTests := true, laidLooks := .later }
def VarintPutsCardSaid : Prop := Claim7.holds Tryd.pinned (.plain (OpenSpec.ofChange varintPutsSpec)) varintPutsCard

/-- THE TIED CARD OF 'tesseraelaw02.VarintBack'. -/
def varintBackCard : Claim7 := { stood := { row := varintBackRow, standIns := [], harness := (true, "fcc4ac6752b55b73a5565fdeb4390bcbe24d5ebd36b5fdb9e391db964f13c558"), looks := true }, kinds := [], alts := [], laidByText := true, laidKinds := [.sentinel, .sentinel], laidTests := true, laidLooks := .later }
def VarintBackCardSaid : Prop := Claim7.holds Tryd.pinned (.plain (OpenSpec.ofChange varintBackSpec)) varintBackCard

/-- THE TIED CARD OF 'tesseraelaw02.VarintMore'. -/
def varintMoreCard : Claim7 := { stood := { row := varintMoreRow, standIns := [], harness := (true, "fcc4ac6752b55b73a5565fdeb4390bcbe24d5ebd36b5fdb9e391db964f13c558"), looks := true }, kinds := [], alts := [], laidByText := true, laidKinds := [.sentinel, .sentinel], laidTests := true, laidLooks := .later }
def VarintMoreCardSaid : Prop := Claim7.holds Tryd.pinned (.plain (OpenSpec.ofChange varintMoreSpec)) varintMoreCard

/-- THE TIED CARD OF 'tesseraelaw02.VarintLists'. -/
def varintListsCard : Claim7 := { stood := { row := varintListsRow, standIns := [], harness := (true, "fcc4ac6752b55b73a5565fdeb4390bcbe24d5ebd36b5fdb9e391db964f13c558"), looks := true }, kinds := [], alts := [], laidByText := true, laidKinds := [.sentinel, .sentinel], laidTests := true, laidLooks := .later }
def VarintListsCardSaid : Prop := Claim7.holds Tryd.pinned (.plain (OpenSpec.ofChange varintListsSpec)) varintListsCard

/-- THE TIED CARD OF 'tesseraelaw04.PackedMakes'. -/
def packedMakesCard : Claim7 := { stood := { row := packedMakesRow, standIns := [], harness := (true, "fcc4ac6752b55b73a5565fdeb4390bcbe24d5ebd36b5fdb9e391db964f13c558"), looks := true }, kinds := [], alts := [], laidByText := true, laidKinds := [.sentinel, .sentinel], laidTests := true, laidLooks := .later }
def PackedMakesCardSaid : Prop := Claim7.holds Tryd.pinned (.plain (OpenSpec.ofChange packedMakesSpec)) packedMakesCard

/-- THE TIED CARD OF 'tesseraelaw04.PackedSizes'. -/
def packedSizesCard : Claim7 := { stood := { row := packedSizesRow, standIns := [], harness := (true, "fcc4ac6752b55b73a5565fdeb4390bcbe24d5ebd36b5fdb9e391db964f13c558"), looks := true }, kinds := [], alts := [], laidByText := true, laidKinds := [.sentinel, .sentinel], laidTests := true, laidLooks := .later }
def PackedSizesCardSaid : Prop := Claim7.holds Tryd.pinned (.plain (OpenSpec.ofChange packedSizesSpec)) packedSizesCard

/-- THE TIED CARD OF 'tesseraelaw04.PackedBack'. -/
def packedBackCard : Claim7 := { stood := { row := packedBackRow, standIns := [], harness := (true, "fcc4ac6752b55b73a5565fdeb4390bcbe24d5ebd36b5fdb9e391db964f13c558"), looks := true }, kinds := [], alts := [], laidByText := true, laidKinds := [.sentinel, .sentinel], laidTests := true, laidLooks := .later }
def PackedBackCardSaid : Prop := Claim7.holds Tryd.pinned (.plain (OpenSpec.ofChange packedBackSpec)) packedBackCard

/-- THE TIED CARD OF 'tesseraelaw04.PackedMore'. -/
def packedMoreCard : Claim7 := { stood := { row := packedMoreRow, standIns := [], harness := (true, "fcc4ac6752b55b73a5565fdeb4390bcbe24d5ebd36b5fdb9e391db964f13c558"), looks := true }, kinds := [], alts := [], laidByText := true, laidKinds := [.sentinel, .sentinel], laidTests := true, laidLooks := .later }
def PackedMoreCardSaid : Prop := Claim7.holds Tryd.pinned (.plain (OpenSpec.ofChange packedMoreSpec)) packedMoreCard

/-- THE TIED CARD OF 'tesseraelaw04.PackedWidths'. -/
def packedWidthsCard : Claim7 := { stood := { row := packedWidthsRow, standIns := [], harness := (true, "fcc4ac6752b55b73a5565fdeb4390bcbe24d5ebd36b5fdb9e391db964f13c558"), looks := true }, kinds := [], alts := [], laidByText := true, laidKinds := [.sentinel, .sentinel], laidTests := true, laidLooks := .later }
def PackedWidthsCardSaid : Prop := Claim7.holds Tryd.pinned (.plain (OpenSpec.ofChange packedWidthsSpec)) packedWidthsCard

/-- THE TIED CARD OF 'tesseraelaw04.PackedPlaces'. -/
def packedPlacesCard : Claim7 := { stood := { row := packedPlacesRow, standIns := [], harness := (true, "fcc4ac6752b55b73a5565fdeb4390bcbe24d5ebd36b5fdb9e391db964f13c558"), looks := true }, kinds := [], alts := [], laidByText := true, laidKinds := [.sentinel, .sentinel], laidTests := true, laidLooks := .later }
def PackedPlacesCardSaid : Prop := Claim7.holds Tryd.pinned (.plain (OpenSpec.ofChange packedPlacesSpec)) packedPlacesCard

/-- THE TIED CARD OF 'tesseraelaw10.SchemaCodes'. -/
def schemaCodesCard : Claim7 := { stood := { row := schemaCodesRow, standIns := [], harness := (true, "fcc4ac6752b55b73a5565fdeb4390bcbe24d5ebd36b5fdb9e391db964f13c558"), looks := true }, kinds := [], alts := [], laidByText := true, laidKinds := [.handle, .sentinel, .sentinel], laidTests := true, laidLooks := .later }
def SchemaCodesCardSaid : Prop := Claim7.holds Tryd.pinned (.plain (OpenSpec.ofChange schemaCodesSpec)) schemaCodesCard

/-- THE TIED CARD OF 'tesseraelaw10.SchemaBack'. -/
def schemaBackCard : Claim7 := { stood := { row := schemaBackRow, standIns := [], harness := (true, "fcc4ac6752b55b73a5565fdeb4390bcbe24d5ebd36b5fdb9e391db964f13c558"), looks := true }, kinds := [], alts := [], laidByText := true, laidKinds := [.handle, .sentinel, .sentinel], laidTests := true, laidLooks := .later }
def SchemaBackCardSaid : Prop := Claim7.holds Tryd.pinned (.plain (OpenSpec.ofChange schemaBackSpec)) schemaBackCard

/-- THE SECOND FORM's CARD OF 'tesseraelaw02.VarintSizes'. -/
def varintSizesUptoCard : Claim7 := { stood := { row := varintSizesUptoRow, standIns := [], harness := (true, "fcc4ac6752b55b73a5565fdeb4390bcbe24d5ebd36b5fdb9e391db964f13c558"), looks := true }, kinds := [], alts := [], laidByText := true, laidKinds := [.sentinel, .sentinel], laidTests := true, laidLooks := .later }
def VarintSizesUptoCardSaid : Prop := Claim7.holds Tryd.pinned (.plain (OpenSpec.upto varintSizesSpec)) varintSizesUptoCard

/-- THE SECOND FORM's CARD OF 'tesseraelaw02.VarintPuts'. -/
def varintPutsUptoCard : Claim7 := { stood := { row := varintPutsUptoRow, standIns := [], harness := (true, "fcc4ac6752b55b73a5565fdeb4390bcbe24d5ebd36b5fdb9e391db964f13c558"), looks := true }, kinds := [], alts := [], laidByText := true, laidKinds := [.sentinel, .sentinel], laidTests := true, laidLooks := .later }
def VarintPutsUptoCardSaid : Prop := Claim7.holds Tryd.pinned (.plain (OpenSpec.upto varintPutsSpec)) varintPutsUptoCard

/-- THE SECOND FORM's CARD OF 'tesseraelaw02.VarintBack'. -/
def varintBackUptoCard : Claim7 := { stood := { row := varintBackUptoRow, standIns := [], harness := (true, "fcc4ac6752b55b73a5565fdeb4390bcbe24d5ebd36b5fdb9e391db964f13c558"), looks := true }, kinds := [], alts := [], laidByText := true, laidKinds := [.sentinel, .sentinel], laidTests := true, laidLooks := .later }
def VarintBackUptoCardSaid : Prop := Claim7.holds Tryd.pinned (.plain (OpenSpec.upto varintBackSpec)) varintBackUptoCard

/-- THE SECOND FORM's CARD OF 'tesseraelaw02.VarintMore'. -/
def varintMoreUptoCard : Claim7 := { stood := { row := varintMoreUptoRow, standIns := [], harness := (true, "fcc4ac6752b55b73a5565fdeb4390bcbe24d5ebd36b5fdb9e391db964f13c558"), looks := true }, kinds := [], alts := [], laidByText := true, laidKinds := [.sentinel, .sentinel], laidTests := true, laidLooks := .later }
def VarintMoreUptoCardSaid : Prop := Claim7.holds Tryd.pinned (.plain (OpenSpec.upto varintMoreSpec)) varintMoreUptoCard

/-- THE SECOND FORM's CARD OF 'tesseraelaw02.VarintLists'. -/
def varintListsUptoCard : Claim7 := { stood := { row := varintListsUptoRow, standIns := [], harness := (true, "fcc4ac6752b55b73a5565fdeb4390bcbe24d5ebd36b5fdb9e391db964f13c558"), looks := true }, kinds := [], alts := [], laidByText := true, laidKinds := [.sentinel, .sentinel], laidTests := true, laidLooks := .later }
def VarintListsUptoCardSaid : Prop := Claim7.holds Tryd.pinned (.plain (OpenSpec.upto varintListsSpec)) varintListsUptoCard

/-- THE SECOND FORM's CARD OF 'tesseraelaw04.PackedMakes'. -/
def packedMakesUptoCard : Claim7 := { stood := { row := packedMakesUptoRow, standIns := [], harness := (true, "fcc4ac6752b55b73a5565fdeb4390bcbe24d5ebd36b5fdb9e391db964f13c558"), looks := true }, kinds := [], alts := [], laidByText := true, laidKinds := [.sentinel, .sentinel], laidTests := true, laidLooks := .later }
def PackedMakesUptoCardSaid : Prop := Claim7.holds Tryd.pinned (.plain (OpenSpec.upto packedMakesSpec)) packedMakesUptoCard

/-- THE SECOND FORM's CARD OF 'tesseraelaw04.PackedSizes'. -/
def packedSizesUptoCard : Claim7 := { stood := { row := packedSizesUptoRow, standIns := [], harness := (true, "fcc4ac6752b55b73a5565fdeb4390bcbe24d5ebd36b5fdb9e391db964f13c558"), looks := true }, kinds := [], alts := [], laidByText := true, laidKinds := [.sentinel, .sentinel], laidTests := true, laidLooks := .later }
def PackedSizesUptoCardSaid : Prop := Claim7.holds Tryd.pinned (.plain (OpenSpec.upto packedSizesSpec)) packedSizesUptoCard

/-- THE SECOND FORM's CARD OF 'tesseraelaw04.PackedBack'. -/
def packedBackUptoCard : Claim7 := { stood := { row := packedBackUptoRow, standIns := [], harness := (true, "fcc4ac6752b55b73a5565fdeb4390bcbe24d5ebd36b5fdb9e391db964f13c558"), looks := true }, kinds := [], alts := [], laidByText := true, laidKinds := [.sentinel, .sentinel], laidTests := true, laidLooks := .later }
def PackedBackUptoCardSaid : Prop := Claim7.holds Tryd.pinned (.plain (OpenSpec.upto packedBackSpec)) packedBackUptoCard

/-- THE SECOND FORM's CARD OF 'tesseraelaw04.PackedMore'. -/
def packedMoreUptoCard : Claim7 := { stood := { row := packedMoreUptoRow, standIns := [], harness := (true, "fcc4ac6752b55b73a5565fdeb4390bcbe24d5ebd36b5fdb9e391db964f13c558"), looks := true }, kinds := [], alts := [], laidByText := true, laidKinds := [.sentinel, .sentinel], laidTests := true, laidLooks := .later }
def PackedMoreUptoCardSaid : Prop := Claim7.holds Tryd.pinned (.plain (OpenSpec.upto packedMoreSpec)) packedMoreUptoCard

/-- THE SECOND FORM's CARD OF 'tesseraelaw04.PackedWidths'. -/
def packedWidthsUptoCard : Claim7 := { stood := { row := packedWidthsUptoRow, standIns := [], harness := (true, "fcc4ac6752b55b73a5565fdeb4390bcbe24d5ebd36b5fdb9e391db964f13c558"), looks := true }, kinds := [], alts := [], laidByText := true, laidKinds := [.sentinel, .sentinel], laidTests := true, laidLooks := .later }
def PackedWidthsUptoCardSaid : Prop := Claim7.holds Tryd.pinned (.plain (OpenSpec.upto packedWidthsSpec)) packedWidthsUptoCard

/-- THE SECOND FORM's CARD OF 'tesseraelaw04.PackedPlaces'. -/
def packedPlacesUptoCard : Claim7 := { stood := { row := packedPlacesUptoRow, standIns := [], harness := (true, "fcc4ac6752b55b73a5565fdeb4390bcbe24d5ebd36b5fdb9e391db964f13c558"), looks := true }, kinds := [], alts := [], laidByText := true, laidKinds := [.sentinel, .sentinel], laidTests := true, laidLooks := .later }
def PackedPlacesUptoCardSaid : Prop := Claim7.holds Tryd.pinned (.plain (OpenSpec.upto packedPlacesSpec)) packedPlacesUptoCard

/-- THE SECOND FORM's CARD OF 'tesseraelaw10.SchemaCodes'. -/
def schemaCodesUptoCard : Claim7 := { stood := { row := schemaCodesUptoRow, standIns := [], harness := (true, "fcc4ac6752b55b73a5565fdeb4390bcbe24d5ebd36b5fdb9e391db964f13c558"), looks := true }, kinds := [], alts := [], laidByText := true, laidKinds := [.handle, .sentinel, .sentinel], laidTests := true, laidLooks := .later }
def SchemaCodesUptoCardSaid : Prop := Claim7.holds Tryd.pinned (.plain (OpenSpec.upto schemaCodesSpec)) schemaCodesUptoCard

/-- THE SECOND FORM's CARD OF 'tesseraelaw10.SchemaBack'. -/
def schemaBackUptoCard : Claim7 := { stood := { row := schemaBackUptoRow, standIns := [], harness := (true, "fcc4ac6752b55b73a5565fdeb4390bcbe24d5ebd36b5fdb9e391db964f13c558"), looks := true }, kinds := [], alts := [], laidByText := true, laidKinds := [.handle, .sentinel, .sentinel], laidTests := true, laidLooks := .later }
def SchemaBackUptoCardSaid : Prop := Claim7.holds Tryd.pinned (.plain (OpenSpec.upto schemaBackSpec)) schemaBackUptoCard
end Rows
end Go.Proofs.YtpgifmccajcgkaaDoor
