/-
  DERIVED. GIVEN WITH THE SEED: THE CARDS: each row of YtddhkfdfhbpblaaGreatDoorRows.lean that lists a variable, with what it lists TIED to the program's text (the seventh form; the later family's looks); each row that meets fmt, with fmt's text TOLD by the authors' own Lean function (tested against real Go, not proved from fmt's source: count such statements apart). THE CARD IS WHAT COUNTS. Prove the row's statement (the work); the ties are given (YtddhkfdfhbpblaaGreatDoorTie.lean); close each card by the builder's one call (the guide's Derived/Test/ToyasCard.lean, 'card_holds'). Laid BY PROGRAM, IN A SANDBOX (cutbox-door.mjs). By AI agents, Wed Nov 11 2026. No macro, syntax, notation, axiom, sorry.
-/
import Derived.Test.YtddhkfdfhbpblaaGreatDoorRows
import GoSem.ClaimSeven
namespace Go.Proofs.YtddhkfdfhbpblaaGreatDoor
namespace Rows

/-- THE TIED CARD OF 'oakumlaw15.StepBlocks'. -/
def stepBlocksCard : Claim7 := { stood := { row := stepBlocksRow, standIns := [], harness := (true, "40d2eaa0a5fa4a9602381e7a380304c8bb9a457bcb64925020520ef80d4d5bbf"), looks := true }, kinds := [], alts := [], laidByText := true, laidKinds := [.data, .data, .data, .data, .sentinel, .sentinel, .pinned], laidTests := true, laidLooks := .later }
def StepBlocksCardSaid : Prop := Claim7.holds Tryz.pinned (.plain (OpenSpec.ofChange stepBlocksSpec)) stepBlocksCard

/-- THE TIED CARD OF 'oakumlaw15.StepArgs'. -/
def stepArgsCard : Claim7 := { stood := { row := stepArgsRow, standIns := [], harness := (true, "40d2eaa0a5fa4a9602381e7a380304c8bb9a457bcb64925020520ef80d4d5bbf"), looks := true }, kinds := [], alts := [], laidByText := true, laidKinds := [.data, .data, .data, .data, .sentinel, .sentinel, .pinned], laidTests := true, laidLooks := .later }
def StepArgsCardSaid : Prop := Claim7.holds Tryz.pinned (.plain (OpenSpec.ofChange stepArgsSpec)) stepArgsCard

/-- THE TIED CARD OF 'oakumlaw15.StepRight'. -/
def stepRightCard : Claim7 := { stood := { row := stepRightRow, standIns := [], harness := (true, "40d2eaa0a5fa4a9602381e7a380304c8bb9a457bcb64925020520ef80d4d5bbf"), looks := true }, kinds := [], alts := [], laidByText := true, laidKinds := [.data, .data, .data, .data, .sentinel, .sentinel, .pinned], laidTests := true, laidLooks := .later }
def StepRightCardSaid : Prop := Claim7.holds Tryz.pinned (.plain (OpenSpec.ofChange stepRightSpec)) stepRightCard

/-- THE TIED CARD OF 'oakumlaw16.DenReads'. -/
def denReadsCard : Claim7 := { stood := { row := denReadsRow, standIns := [], harness := (true, "40d2eaa0a5fa4a9602381e7a380304c8bb9a457bcb64925020520ef80d4d5bbf"), looks := true }, kinds := [], alts := [], laidByText := true, laidKinds := [.data, .data, .data, .data, .sentinel, .sentinel, .pinned], laidTests := true, laidLooks := .later }
def DenReadsCardSaid : Prop := Claim7.holds Tryz.pinned (.plain (OpenSpec.ofChange denReadsSpec)) denReadsCard

/-- THE TIED CARD OF 'oakumlaw16.DenItems'. -/
def denItemsCard : Claim7 := { stood := { row := denItemsRow, standIns := [], harness := (true, "40d2eaa0a5fa4a9602381e7a380304c8bb9a457bcb64925020520ef80d4d5bbf"), looks := true }, kinds := [], alts := [], laidByText := true, laidKinds := [.data, .data, .data, .data, .sentinel, .sentinel, .pinned], laidTests := true, laidLooks := .later }
def DenItemsCardSaid : Prop := Claim7.holds Tryz.pinned (.plain (OpenSpec.ofChange denItemsSpec)) denItemsCard

/-- THE TIED CARD OF 'oakumlaw16.DenSizes'. -/
def denSizesCard : Claim7 := { stood := { row := denSizesRow, standIns := [], harness := (true, "40d2eaa0a5fa4a9602381e7a380304c8bb9a457bcb64925020520ef80d4d5bbf"), looks := true }, kinds := [], alts := [], laidByText := true, laidKinds := [.data, .data, .data, .data, .sentinel, .sentinel, .pinned], laidTests := true, laidLooks := .later }
def DenSizesCardSaid : Prop := Claim7.holds Tryz.pinned (.plain (OpenSpec.ofChange denSizesSpec)) denSizesCard

/-- THE TIED CARD OF 'oakumlaw16.DenJoins'. -/
def denJoinsCard : Claim7 := { stood := { row := denJoinsRow, standIns := [], harness := (true, "40d2eaa0a5fa4a9602381e7a380304c8bb9a457bcb64925020520ef80d4d5bbf"), looks := true }, kinds := [], alts := [], laidByText := true, laidKinds := [.data, .data, .data, .data, .sentinel, .sentinel, .pinned], laidTests := true, laidLooks := .later }
def DenJoinsCardSaid : Prop := Claim7.holds Tryz.pinned (.plain (OpenSpec.ofChange denJoinsSpec)) denJoinsCard

/-- THE SECOND FORM's CARD OF 'oakumlaw15.StepBlocks'. -/
def stepBlocksUptoCard : Claim7 := { stood := { row := stepBlocksUptoRow, standIns := [], harness := (true, "40d2eaa0a5fa4a9602381e7a380304c8bb9a457bcb64925020520ef80d4d5bbf"), looks := true }, kinds := [], alts := [], laidByText := true, laidKinds := [.data, .data, .data, .data, .sentinel, .sentinel, .pinned], laidTests := true, laidLooks := .later }
def StepBlocksUptoCardSaid : Prop := Claim7.holds Tryz.pinned (.plain (OpenSpec.upto stepBlocksSpec)) stepBlocksUptoCard

/-- THE SECOND FORM's CARD OF 'oakumlaw15.StepArgs'. -/
def stepArgsUptoCard : Claim7 := { stood := { row := stepArgsUptoRow, standIns := [], harness := (true, "40d2eaa0a5fa4a9602381e7a380304c8bb9a457bcb64925020520ef80d4d5bbf"), looks := true }, kinds := [], alts := [], laidByText := true, laidKinds := [.data, .data, .data, .data, .sentinel, .sentinel, .pinned], laidTests := true, laidLooks := .later }
def StepArgsUptoCardSaid : Prop := Claim7.holds Tryz.pinned (.plain (OpenSpec.upto stepArgsSpec)) stepArgsUptoCard

/-- THE SECOND FORM's CARD OF 'oakumlaw15.StepRight'. -/
def stepRightUptoCard : Claim7 := { stood := { row := stepRightUptoRow, standIns := [], harness := (true, "40d2eaa0a5fa4a9602381e7a380304c8bb9a457bcb64925020520ef80d4d5bbf"), looks := true }, kinds := [], alts := [], laidByText := true, laidKinds := [.data, .data, .data, .data, .sentinel, .sentinel, .pinned], laidTests := true, laidLooks := .later }
def StepRightUptoCardSaid : Prop := Claim7.holds Tryz.pinned (.plain (OpenSpec.upto stepRightSpec)) stepRightUptoCard

/-- THE SECOND FORM's CARD OF 'oakumlaw16.DenReads'. -/
def denReadsUptoCard : Claim7 := { stood := { row := denReadsUptoRow, standIns := [], harness := (true, "40d2eaa0a5fa4a9602381e7a380304c8bb9a457bcb64925020520ef80d4d5bbf"), looks := true }, kinds := [], alts := [], laidByText := true, laidKinds := [.data, .data, .data, .data, .sentinel, .sentinel, .pinned], laidTests := true, laidLooks := .later }
def DenReadsUptoCardSaid : Prop := Claim7.holds Tryz.pinned (.plain (OpenSpec.upto denReadsSpec)) denReadsUptoCard

/-- THE SECOND FORM's CARD OF 'oakumlaw16.DenItems'. -/
def denItemsUptoCard : Claim7 := { stood := { row := denItemsUptoRow, standIns := [], harness := (true, "40d2eaa0a5fa4a9602381e7a380304c8bb9a457bcb64925020520ef80d4d5bbf"), looks := true }, kinds := [], alts := [], laidByText := true, laidKinds := [.data, .data, .data, .data, .sentinel, .sentinel, .pinned], laidTests := true, laidLooks := .later }
def DenItemsUptoCardSaid : Prop := Claim7.holds Tryz.pinned (.plain (OpenSpec.upto denItemsSpec)) denItemsUptoCard

/-- THE SECOND FORM's CARD OF 'oakumlaw16.DenSizes'. -/
def denSizesUptoCard : Claim7 := { stood := { row := denSizesUptoRow, standIns := [], harness := (true, "40d2eaa0a5fa4a9602381e7a380304c8bb9a457bcb64925020520ef80d4d5bbf"), looks := true }, kinds := [], alts := [], laidByText := true, laidKinds := [.data, .data, .data, .data, .sentinel, .sentinel, .pinned], laidTests := true, laidLooks := .later }
def DenSizesUptoCardSaid : Prop := Claim7.holds Tryz.pinned (.plain (OpenSpec.upto denSizesSpec)) denSizesUptoCard

/-- THE SECOND FORM's CARD OF 'oakumlaw16.DenJoins'. -/
def denJoinsUptoCard : Claim7 := { stood := { row := denJoinsUptoRow, standIns := [], harness := (true, "40d2eaa0a5fa4a9602381e7a380304c8bb9a457bcb64925020520ef80d4d5bbf"), looks := true }, kinds := [], alts := [], laidByText := true, laidKinds := [.data, .data, .data, .data, .sentinel, .sentinel, .pinned], laidTests := true, laidLooks := .later }
def DenJoinsUptoCardSaid : Prop := Claim7.holds Tryz.pinned (.plain (OpenSpec.upto denJoinsSpec)) denJoinsUptoCard
end Rows
end Go.Proofs.YtddhkfdfhbpblaaGreatDoor
