/-
  DERIVED. GIVEN WITH THE SEED: THE CARDS: each row of YtejleplhmkmegaaGreatDoorRows.lean that lists a variable, with what it lists TIED to the program's text (the seventh form; the later family's looks); each row that meets fmt, with fmt's text TOLD by the authors' own Lean function (tested against real Go, not proved from fmt's source: count such statements apart). THE CARD IS WHAT COUNTS. Prove the row's statement (the work); the ties are given (YtejleplhmkmegaaGreatDoorTie.lean); close each card by the builder's one call (the guide's Derived/Test/ToyasCard.lean, 'card_holds'). Laid BY PROGRAM, IN A SANDBOX (cutbox-door.mjs). By AI agents, Wed Nov 11 2026. No macro, syntax, notation, axiom, sorry.
-/
import Derived.Test.YtejleplhmkmegaaGreatDoorRows
import GoSem.ClaimSeven
namespace Go.Proofs.YtejleplhmkmegaaGreatDoor
namespace Rows

/-- THE TIED CARD OF 'tesseraelaw18.OrderOne'. -/
def orderOneCard : Claim7 := { stood := { row := orderOneRow, standIns := [], harness := (true, "5d782815e7fdddf95676eb5b4e2dd427eaca8bbaa8f93fbe6197e7f81362b465"), looks := true }, kinds := [], alts := [], laidByText := true, laidKinds := [.data, .data, .data], laidTests := true, laidLooks := .later }
def OrderOneCardSaid : Prop := Claim7.holds Tryz.pinned (.plain (OpenSpec.ofChange orderOneSpec)) orderOneCard

/-- THE TIED CARD OF 'tesseraelaw18.OrderLines'. -/
def orderLinesCard : Claim7 := { stood := { row := orderLinesRow, standIns := [], harness := (true, "5d782815e7fdddf95676eb5b4e2dd427eaca8bbaa8f93fbe6197e7f81362b465"), looks := true }, kinds := [], alts := [], laidByText := true, laidKinds := [.data, .data, .data, .handle, .sentinel, .sentinel], laidTests := true, laidLooks := .later }
def OrderLinesCardSaid : Prop := Claim7.holds Tryz.pinned (.plain (OpenSpec.ofChange orderLinesSpec)) orderLinesCard

/-- THE TIED CARD OF 'tesseraelaw18.OrderLimits'. -/
def orderLimitsCard : Claim7 := { stood := { row := orderLimitsRow, standIns := [], harness := (true, "5d782815e7fdddf95676eb5b4e2dd427eaca8bbaa8f93fbe6197e7f81362b465"), looks := true }, kinds := [], alts := [], laidByText := true, laidKinds := [.data, .data, .data, .handle, .sentinel, .sentinel], laidTests := true, laidLooks := .later }
def OrderLimitsCardSaid : Prop := Claim7.holds Tryz.pinned (.plain (OpenSpec.ofChange orderLimitsSpec)) orderLimitsCard

/-- THE TIED CARD OF 'tesseraelaw18.OrderHalves'. -/
def orderHalvesCard : Claim7 := { stood := { row := orderHalvesRow, standIns := [], harness := (true, "5d782815e7fdddf95676eb5b4e2dd427eaca8bbaa8f93fbe6197e7f81362b465"), looks := true }, kinds := [], alts := [], laidByText := true, laidKinds := [.data, .data, .data, .handle, .sentinel, .sentinel], laidTests := true, laidLooks := .later }
def OrderHalvesCardSaid : Prop := Claim7.holds Tryz.pinned (.plain (OpenSpec.ofChange orderHalvesSpec)) orderHalvesCard

/-- THE TIED CARD OF 'tesseraelaw18.OrderSorted'. -/
def orderSortedCard : Claim7 := { stood := { row := orderSortedRow, standIns := [], harness := (true, "5d782815e7fdddf95676eb5b4e2dd427eaca8bbaa8f93fbe6197e7f81362b465"), looks := true }, kinds := [], alts := [], laidByText := true, laidKinds := [.data, .data, .data, .handle, .sentinel, .sentinel], laidTests := true, laidLooks := .later }
def OrderSortedCardSaid : Prop := Claim7.holds Tryz.pinned (.plain (OpenSpec.ofChange orderSortedSpec)) orderSortedCard

/-- THE SECOND FORM's CARD OF 'tesseraelaw18.OrderOne'. -/
def orderOneUptoCard : Claim7 := { stood := { row := orderOneUptoRow, standIns := [], harness := (true, "5d782815e7fdddf95676eb5b4e2dd427eaca8bbaa8f93fbe6197e7f81362b465"), looks := true }, kinds := [], alts := [], laidByText := true, laidKinds := [.data, .data, .data], laidTests := true, laidLooks := .later }
def OrderOneUptoCardSaid : Prop := Claim7.holds Tryz.pinned (.plain (OpenSpec.upto orderOneSpec)) orderOneUptoCard

/-- THE SECOND FORM's CARD OF 'tesseraelaw18.OrderLines'. -/
def orderLinesUptoCard : Claim7 := { stood := { row := orderLinesUptoRow, standIns := [], harness := (true, "5d782815e7fdddf95676eb5b4e2dd427eaca8bbaa8f93fbe6197e7f81362b465"), looks := true }, kinds := [], alts := [], laidByText := true, laidKinds := [.data, .data, .data, .handle, .sentinel, .sentinel], laidTests := true, laidLooks := .later }
def OrderLinesUptoCardSaid : Prop := Claim7.holds Tryz.pinned (.plain (OpenSpec.upto orderLinesSpec)) orderLinesUptoCard

/-- THE SECOND FORM's CARD OF 'tesseraelaw18.OrderLimits'. -/
def orderLimitsUptoCard : Claim7 := { stood := { row := orderLimitsUptoRow, standIns := [], harness := (true, "5d782815e7fdddf95676eb5b4e2dd427eaca8bbaa8f93fbe6197e7f81362b465"), looks := true }, kinds := [], alts := [], laidByText := true, laidKinds := [.data, .data, .data, .handle, .sentinel, .sentinel], laidTests := true, laidLooks := .later }
def OrderLimitsUptoCardSaid : Prop := Claim7.holds Tryz.pinned (.plain (OpenSpec.upto orderLimitsSpec)) orderLimitsUptoCard

/-- THE SECOND FORM's CARD OF 'tesseraelaw18.OrderHalves'. -/
def orderHalvesUptoCard : Claim7 := { stood := { row := orderHalvesUptoRow, standIns := [], harness := (true, "5d782815e7fdddf95676eb5b4e2dd427eaca8bbaa8f93fbe6197e7f81362b465"), looks := true }, kinds := [], alts := [], laidByText := true, laidKinds := [.data, .data, .data, .handle, .sentinel, .sentinel], laidTests := true, laidLooks := .later }
def OrderHalvesUptoCardSaid : Prop := Claim7.holds Tryz.pinned (.plain (OpenSpec.upto orderHalvesSpec)) orderHalvesUptoCard

/-- THE SECOND FORM's CARD OF 'tesseraelaw18.OrderSorted'. -/
def orderSortedUptoCard : Claim7 := { stood := { row := orderSortedUptoRow, standIns := [], harness := (true, "5d782815e7fdddf95676eb5b4e2dd427eaca8bbaa8f93fbe6197e7f81362b465"), looks := true }, kinds := [], alts := [], laidByText := true, laidKinds := [.data, .data, .data, .handle, .sentinel, .sentinel], laidTests := true, laidLooks := .later }
def OrderSortedUptoCardSaid : Prop := Claim7.holds Tryz.pinned (.plain (OpenSpec.upto orderSortedSpec)) orderSortedUptoCard
end Rows
end Go.Proofs.YtejleplhmkmegaaGreatDoor
