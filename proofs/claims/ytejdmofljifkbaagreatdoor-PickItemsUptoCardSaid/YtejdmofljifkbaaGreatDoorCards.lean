/-
  DERIVED. GIVEN WITH THE SEED: THE CARDS: each row of YtejdmofljifkbaaGreatDoorRows.lean that lists a variable, with what it lists TIED to the program's text (the seventh form; the later family's looks); each row that meets fmt, with fmt's text TOLD by the authors' own Lean function (tested against real Go, not proved from fmt's source: count such statements apart). THE CARD IS WHAT COUNTS. Prove the row's statement (the work); the ties are given (YtejdmofljifkbaaGreatDoorTie.lean); close each card by the builder's one call (the guide's Derived/Test/ToyasCard.lean, 'card_holds'). Laid BY PROGRAM, IN A SANDBOX (cutbox-door.mjs). By AI agents, Wed Nov 11 2026. No macro, syntax, notation, axiom, sorry.
-/
import Derived.Test.YtejdmofljifkbaaGreatDoorRows
import GoSem.ClaimSeven
namespace Go.Proofs.YtejdmofljifkbaaGreatDoor
namespace Rows

/-- THE TIED CARD OF 'oakumlaw23.ListLines'. -/
def listLinesCard : Claim7 := { stood := { row := listLinesRow, standIns := [], harness := (true, "081cbda7f479248fc50a38094f6b73d16e0c31562e50f615f4d5e609a277a357"), looks := true }, kinds := [], alts := [], laidByText := true, laidKinds := [.data, .data, .data, .data, .sentinel, .sentinel, .pinned], laidTests := true, laidLooks := .later }
def ListLinesCardSaid : Prop := Claim7.holds Tryz.pinned (.plain (OpenSpec.ofChange listLinesSpec)) listLinesCard

/-- THE TIED CARD OF 'oakumlaw26.PickAll'. -/
def pickAllCard : Claim7 := { stood := { row := pickAllRow, standIns := [], harness := (true, "081cbda7f479248fc50a38094f6b73d16e0c31562e50f615f4d5e609a277a357"), looks := true }, kinds := [], alts := [], laidByText := true, laidKinds := [.data, .data, .data, .data, .sentinel, .sentinel, .pinned], laidTests := true, laidLooks := .later }
def PickAllCardSaid : Prop := Claim7.holds Tryz.pinned (.plain (OpenSpec.ofChange pickAllSpec)) pickAllCard

/-- THE TIED CARD OF 'oakumlaw26.PickItems'. -/
def pickItemsCard : Claim7 := { stood := { row := pickItemsRow, standIns := [], harness := (true, "081cbda7f479248fc50a38094f6b73d16e0c31562e50f615f4d5e609a277a357"), looks := true }, kinds := [], alts := [], laidByText := true, laidKinds := [.data, .data, .data, .data, .sentinel, .sentinel, .pinned], laidTests := true, laidLooks := .later }
def PickItemsCardSaid : Prop := Claim7.holds Tryz.pinned (.plain (OpenSpec.ofChange pickItemsSpec)) pickItemsCard

/-- THE TIED CARD OF 'oakumlaw26.PickTwice'. -/
def pickTwiceCard : Claim7 := { stood := { row := pickTwiceRow, standIns := [], harness := (true, "081cbda7f479248fc50a38094f6b73d16e0c31562e50f615f4d5e609a277a357"), looks := true }, kinds := [], alts := [], laidByText := true, laidKinds := [.data, .data, .data, .data, .sentinel, .sentinel, .pinned], laidTests := true, laidLooks := .later }
def PickTwiceCardSaid : Prop := Claim7.holds Tryz.pinned (.plain (OpenSpec.ofChange pickTwiceSpec)) pickTwiceCard

/-- THE SECOND FORM's CARD OF 'oakumlaw23.ListLines'. -/
def listLinesUptoCard : Claim7 := { stood := { row := listLinesUptoRow, standIns := [], harness := (true, "081cbda7f479248fc50a38094f6b73d16e0c31562e50f615f4d5e609a277a357"), looks := true }, kinds := [], alts := [], laidByText := true, laidKinds := [.data, .data, .data, .data, .sentinel, .sentinel, .pinned], laidTests := true, laidLooks := .later }
def ListLinesUptoCardSaid : Prop := Claim7.holds Tryz.pinned (.plain (OpenSpec.upto listLinesSpec)) listLinesUptoCard

/-- THE SECOND FORM's CARD OF 'oakumlaw26.PickAll'. -/
def pickAllUptoCard : Claim7 := { stood := { row := pickAllUptoRow, standIns := [], harness := (true, "081cbda7f479248fc50a38094f6b73d16e0c31562e50f615f4d5e609a277a357"), looks := true }, kinds := [], alts := [], laidByText := true, laidKinds := [.data, .data, .data, .data, .sentinel, .sentinel, .pinned], laidTests := true, laidLooks := .later }
def PickAllUptoCardSaid : Prop := Claim7.holds Tryz.pinned (.plain (OpenSpec.upto pickAllSpec)) pickAllUptoCard

/-- THE SECOND FORM's CARD OF 'oakumlaw26.PickItems'. -/
def pickItemsUptoCard : Claim7 := { stood := { row := pickItemsUptoRow, standIns := [], harness := (true, "081cbda7f479248fc50a38094f6b73d16e0c31562e50f615f4d5e609a277a357"), looks := true }, kinds := [], alts := [], laidByText := true, laidKinds := [.data, .data, .data, .data, .sentinel, .sentinel, .pinned], laidTests := true, laidLooks := .later }
def PickItemsUptoCardSaid : Prop := Claim7.holds Tryz.pinned (.plain (OpenSpec.upto pickItemsSpec)) pickItemsUptoCard

/-- THE SECOND FORM's CARD OF 'oakumlaw26.PickTwice'. -/
def pickTwiceUptoCard : Claim7 := { stood := { row := pickTwiceUptoRow, standIns := [], harness := (true, "081cbda7f479248fc50a38094f6b73d16e0c31562e50f615f4d5e609a277a357"), looks := true }, kinds := [], alts := [], laidByText := true, laidKinds := [.data, .data, .data, .data, .sentinel, .sentinel, .pinned], laidTests := true, laidLooks := .later }
def PickTwiceUptoCardSaid : Prop := Claim7.holds Tryz.pinned (.plain (OpenSpec.upto pickTwiceSpec)) pickTwiceUptoCard
end Rows
end Go.Proofs.YtejdmofljifkbaaGreatDoor
