/-
  DERIVED. GIVEN WITH THE SEED: THE CARDS: each row of YtcdfbcmhikhnjaaDoorRows.lean that lists a variable, with what it lists TIED to the program's text (the seventh form; the later family's looks); each row that meets fmt, with fmt's text TOLD by the authors' own Lean function (tested against real Go, not proved from fmt's source: count such statements apart). THE CARD IS WHAT COUNTS. Prove the row's statement (the work); the ties are given (YtcdfbcmhikhnjaaDoorTie.lean); close each card by the builder's one call (the guide's Derived/Test/ToyasCard.lean, 'card_holds'). Laid BY PROGRAM, IN A SANDBOX (cutbox-door.mjs). By AI agents, Wed Nov 11 2026. No macro, syntax, notation, axiom, sorry.
-/
import Derived.Test.YtcdfbcmhikhnjaaDoorRows
import GoSem.ClaimSeven
namespace Go.Proofs.YtcdfbcmhikhnjaaDoor
namespace Rows

/-- THE TIED CARD OF 'tesseraelaw09.RatioOne'. -/
def ratioOneCard : Claim7 := { stood := { row := ratioOneRow, standIns := [], harness := (true, "3fd1db1805379c94ca0f033bef2549d43d0cb053ccef5510583f520674463b5b"), looks := false }, kinds := [], alts := [], laidByText := true, laidKinds := [.data, .data, .data], laidTests := true, laidLooks := .later }
def RatioOneCardSaid : Prop := Claim7.holds Tryd.pinned (.plain (OpenSpec.ofChange ratioOneSpec)) ratioOneCard

/-- THE TIED CARD OF 'tesseraelaw09.RatioSigns'. -/
def ratioSignsCard : Claim7 := { stood := { row := ratioSignsRow, standIns := [], harness := (true, "3fd1db1805379c94ca0f033bef2549d43d0cb053ccef5510583f520674463b5b"), looks := false }, kinds := [], alts := [], laidByText := true, laidKinds := [.data, .data, .data], laidTests := true, laidLooks := .later }
def RatioSignsCardSaid : Prop := Claim7.holds Tryd.pinned (.plain (OpenSpec.ofChange ratioSignsSpec)) ratioSignsCard

/-- THE TIED CARD OF 'tesseraelaw09.RatioOf'. -/
def ratioOfCard : Claim7 := { stood := { row := ratioOfRow, standIns := [], harness := (true, "3fd1db1805379c94ca0f033bef2549d43d0cb053ccef5510583f520674463b5b"), looks := false }, kinds := [], alts := [], laidByText := true, laidKinds := [.data, .data, .data], laidTests := true, laidLooks := .later }
def RatioOfCardSaid : Prop := Claim7.holds Tryd.pinned (.plain (OpenSpec.ofChange ratioOfSpec)) ratioOfCard

/-- THE TIED CARD OF 'tesseraelaw09.RatioWhole'. -/
def ratioWholeCard : Claim7 := { stood := { row := ratioWholeRow, standIns := [], harness := (true, "3fd1db1805379c94ca0f033bef2549d43d0cb053ccef5510583f520674463b5b"), looks := false }, kinds := [], alts := [], laidByText := true, laidKinds := [.data, .data, .data], laidTests := true, laidLooks := .later }
def RatioWholeCardSaid : Prop := Claim7.holds Tryd.pinned (.plain (OpenSpec.ofChange ratioWholeSpec)) ratioWholeCard

/-- THE TIED CARD OF 'tesseraelaw09.RatioBetween'. -/
def ratioBetweenCard : Claim7 := { stood := { row := ratioBetweenRow, standIns := [], harness := (true, "3fd1db1805379c94ca0f033bef2549d43d0cb053ccef5510583f520674463b5b"), looks := false }, kinds := [], alts := [], laidByText := true, laidKinds := [.data, .data, .data], laidTests := true, laidLooks := .later }
def RatioBetweenCardSaid : Prop := Claim7.holds Tryd.pinned (.plain (OpenSpec.ofChange ratioBetweenSpec)) ratioBetweenCard

/-- THE TIED CARD OF 'tesseraelaw09.RatioOrders'. -/
def ratioOrdersCard : Claim7 := { stood := { row := ratioOrdersRow, standIns := [], harness := (true, "3fd1db1805379c94ca0f033bef2549d43d0cb053ccef5510583f520674463b5b"), looks := false }, kinds := [], alts := [], laidByText := true, laidKinds := [.data, .data, .data], laidTests := true, laidLooks := .later }
def RatioOrdersCardSaid : Prop := Claim7.holds Tryd.pinned (.plain (OpenSpec.ofChange ratioOrdersSpec)) ratioOrdersCard

/-- THE TIED CARD OF 'tesseraelaw09.RatioBack'. -/
def ratioBackCard : Claim7 := { stood := { row := ratioBackRow, standIns := [], harness := (true, "3fd1db1805379c94ca0f033bef2549d43d0cb053ccef5510583f520674463b5b"), looks := false }, kinds := [], alts := [], laidByText := true, laidKinds := [.data, .data, .data], laidTests := true, laidLooks := .later }
def RatioBackCardSaid : Prop := Claim7.holds Tryd.pinned (.plain (OpenSpec.ofChange ratioBackSpec)) ratioBackCard

/-- THE SECOND FORM's CARD OF 'tesseraelaw09.RatioOne'. -/
def ratioOneUptoCard : Claim7 := { stood := { row := ratioOneUptoRow, standIns := [], harness := (true, "3fd1db1805379c94ca0f033bef2549d43d0cb053ccef5510583f520674463b5b"), looks := false }, kinds := [], alts := [], laidByText := true, laidKinds := [.data, .data, .data], laidTests := true, laidLooks := .later }
def RatioOneUptoCardSaid : Prop := Claim7.holds Tryd.pinned (.plain (OpenSpec.upto ratioOneSpec)) ratioOneUptoCard

/-- THE SECOND FORM's CARD OF 'tesseraelaw09.RatioSigns'. -/
def ratioSignsUptoCard : Claim7 := { stood := { row := ratioSignsUptoRow, standIns := [], harness := (true, "3fd1db1805379c94ca0f033bef2549d43d0cb053ccef5510583f520674463b5b"), looks := false }, kinds := [], alts := [], laidByText := true, laidKinds := [.data, .data, .data], laidTests := true, laidLooks := .later }
def RatioSignsUptoCardSaid : Prop := Claim7.holds Tryd.pinned (.plain (OpenSpec.upto ratioSignsSpec)) ratioSignsUptoCard

/-- THE SECOND FORM's CARD OF 'tesseraelaw09.RatioOf'. -/
def ratioOfUptoCard : Claim7 := { stood := { row := ratioOfUptoRow, standIns := [], harness := (true, "3fd1db1805379c94ca0f033bef2549d43d0cb053ccef5510583f520674463b5b"), looks := false }, kinds := [], alts := [], laidByText := true, laidKinds := [.data, .data, .data], laidTests := true, laidLooks := .later }
def RatioOfUptoCardSaid : Prop := Claim7.holds Tryd.pinned (.plain (OpenSpec.upto ratioOfSpec)) ratioOfUptoCard

/-- THE SECOND FORM's CARD OF 'tesseraelaw09.RatioWhole'. -/
def ratioWholeUptoCard : Claim7 := { stood := { row := ratioWholeUptoRow, standIns := [], harness := (true, "3fd1db1805379c94ca0f033bef2549d43d0cb053ccef5510583f520674463b5b"), looks := false }, kinds := [], alts := [], laidByText := true, laidKinds := [.data, .data, .data], laidTests := true, laidLooks := .later }
def RatioWholeUptoCardSaid : Prop := Claim7.holds Tryd.pinned (.plain (OpenSpec.upto ratioWholeSpec)) ratioWholeUptoCard

/-- THE SECOND FORM's CARD OF 'tesseraelaw09.RatioBetween'. -/
def ratioBetweenUptoCard : Claim7 := { stood := { row := ratioBetweenUptoRow, standIns := [], harness := (true, "3fd1db1805379c94ca0f033bef2549d43d0cb053ccef5510583f520674463b5b"), looks := false }, kinds := [], alts := [], laidByText := true, laidKinds := [.data, .data, .data], laidTests := true, laidLooks := .later }
def RatioBetweenUptoCardSaid : Prop := Claim7.holds Tryd.pinned (.plain (OpenSpec.upto ratioBetweenSpec)) ratioBetweenUptoCard

/-- THE SECOND FORM's CARD OF 'tesseraelaw09.RatioOrders'. -/
def ratioOrdersUptoCard : Claim7 := { stood := { row := ratioOrdersUptoRow, standIns := [], harness := (true, "3fd1db1805379c94ca0f033bef2549d43d0cb053ccef5510583f520674463b5b"), looks := false }, kinds := [], alts := [], laidByText := true, laidKinds := [.data, .data, .data], laidTests := true, laidLooks := .later }
def RatioOrdersUptoCardSaid : Prop := Claim7.holds Tryd.pinned (.plain (OpenSpec.upto ratioOrdersSpec)) ratioOrdersUptoCard

/-- THE SECOND FORM's CARD OF 'tesseraelaw09.RatioBack'. -/
def ratioBackUptoCard : Claim7 := { stood := { row := ratioBackUptoRow, standIns := [], harness := (true, "3fd1db1805379c94ca0f033bef2549d43d0cb053ccef5510583f520674463b5b"), looks := false }, kinds := [], alts := [], laidByText := true, laidKinds := [.data, .data, .data], laidTests := true, laidLooks := .later }
def RatioBackUptoCardSaid : Prop := Claim7.holds Tryd.pinned (.plain (OpenSpec.upto ratioBackSpec)) ratioBackUptoCard
end Rows
end Go.Proofs.YtcdfbcmhikhnjaaDoor
