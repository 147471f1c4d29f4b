/-
  DERIVED. GIVEN WITH THE SEED: THE CARDS: each row of YtdjbkppdppdcgaaGreatDoorRows.lean that lists a variable, with what it lists TIED to the program's text (the seventh form; the later family's looks); each row that meets fmt, with fmt's text TOLD by the authors' own Lean function (tested against real Go, not proved from fmt's source: count such statements apart). THE CARD IS WHAT COUNTS. Prove the row's statement (the work); the ties are given (YtdjbkppdppdcgaaGreatDoorTie.lean); close each card by the builder's one call (the guide's Derived/Test/ToyasCard.lean, 'card_holds'). Laid BY PROGRAM, IN A SANDBOX (cutbox-door.mjs). By AI agents, Wed Nov 11 2026. No macro, syntax, notation, axiom, sorry.
-/
import Derived.Test.YtdjbkppdppdcgaaGreatDoorRows
import GoSem.ClaimSeven
namespace Go.Proofs.YtdjbkppdppdcgaaGreatDoor
namespace Rows

/-- THE TIED CARD OF 'guiselaw13.CodeSames'. -/
def codeSamesCard : Claim7 := { stood := { row := codeSamesRow, standIns := [], harness := (true, "80ca6a302f28e0810337e9d47de292a80774425751c61d7da81bfa1c6b70abb7"), looks := true }, kinds := [], alts := [], laidByText := true, laidKinds := [.data, .data, .data, .data, .handle, .sentinel, .sentinel, .listed, .data, .pinned, .pinned], laidTests := true, laidLooks := .later }
def CodeSamesCardSaid : Prop := Claim7.holds Tryz.pinned (.plain (OpenSpec.ofChange codeSamesSpec)) codeSamesCard

/-- THE TIED CARD OF 'guiselaw13.CodeBack'. -/
def codeBackCard : Claim7 := { stood := { row := codeBackRow, standIns := [], harness := (true, "80ca6a302f28e0810337e9d47de292a80774425751c61d7da81bfa1c6b70abb7"), looks := true }, kinds := [], alts := [], laidByText := true, laidKinds := [.data, .data, .data, .data, .handle, .sentinel, .sentinel, .listed, .data, .pinned, .pinned], laidTests := true, laidLooks := .later }
def CodeBackCardSaid : Prop := Claim7.holds Tryz.pinned (.plain (OpenSpec.ofChange codeBackSpec)) codeBackCard

/-- THE TIED CARD OF 'guiselaw13.CodeAny'. -/
def codeAnyCard : Claim7 := { stood := { row := codeAnyRow, standIns := [], harness := (true, "80ca6a302f28e0810337e9d47de292a80774425751c61d7da81bfa1c6b70abb7"), looks := true }, kinds := [], alts := [], laidByText := true, laidKinds := [.data, .data, .data, .data, .handle, .sentinel, .sentinel, .listed, .data, .pinned, .pinned], laidTests := true, laidLooks := .later }
def CodeAnyCardSaid : Prop := Claim7.holds Tryz.pinned (.plain (OpenSpec.ofChange codeAnySpec)) codeAnyCard

/-- THE TIED CARD OF 'guiselaw13.CodeTurns'. -/
def codeTurnsCard : Claim7 := { stood := { row := codeTurnsRow, standIns := [], harness := (true, "80ca6a302f28e0810337e9d47de292a80774425751c61d7da81bfa1c6b70abb7"), looks := true }, kinds := [], alts := [], laidByText := true, laidKinds := [.data, .data, .data, .data, .handle, .sentinel, .sentinel, .listed, .data, .pinned, .pinned], laidTests := true, laidLooks := .later }
def CodeTurnsCardSaid : Prop := Claim7.holds Tryz.pinned (.plain (OpenSpec.ofChange codeTurnsSpec)) codeTurnsCard

/-- THE SECOND FORM's CARD OF 'guiselaw13.CodeSames'. -/
def codeSamesUptoCard : Claim7 := { stood := { row := codeSamesUptoRow, standIns := [], harness := (true, "80ca6a302f28e0810337e9d47de292a80774425751c61d7da81bfa1c6b70abb7"), looks := true }, kinds := [], alts := [], laidByText := true, laidKinds := [.data, .data, .data, .data, .handle, .sentinel, .sentinel, .listed, .data, .pinned, .pinned], laidTests := true, laidLooks := .later }
def CodeSamesUptoCardSaid : Prop := Claim7.holds Tryz.pinned (.plain (OpenSpec.upto codeSamesSpec)) codeSamesUptoCard

/-- THE SECOND FORM's CARD OF 'guiselaw13.CodeBack'. -/
def codeBackUptoCard : Claim7 := { stood := { row := codeBackUptoRow, standIns := [], harness := (true, "80ca6a302f28e0810337e9d47de292a80774425751c61d7da81bfa1c6b70abb7"), looks := true }, kinds := [], alts := [], laidByText := true, laidKinds := [.data, .data, .data, .data, .handle, .sentinel, .sentinel, .listed, .data, .pinned, .pinned], laidTests := true, laidLooks := .later }
def CodeBackUptoCardSaid : Prop := Claim7.holds Tryz.pinned (.plain (OpenSpec.upto codeBackSpec)) codeBackUptoCard

/-- THE SECOND FORM's CARD OF 'guiselaw13.CodeAny'. -/
def codeAnyUptoCard : Claim7 := { stood := { row := codeAnyUptoRow, standIns := [], harness := (true, "80ca6a302f28e0810337e9d47de292a80774425751c61d7da81bfa1c6b70abb7"), looks := true }, kinds := [], alts := [], laidByText := true, laidKinds := [.data, .data, .data, .data, .handle, .sentinel, .sentinel, .listed, .data, .pinned, .pinned], laidTests := true, laidLooks := .later }
def CodeAnyUptoCardSaid : Prop := Claim7.holds Tryz.pinned (.plain (OpenSpec.upto codeAnySpec)) codeAnyUptoCard

/-- THE SECOND FORM's CARD OF 'guiselaw13.CodeTurns'. -/
def codeTurnsUptoCard : Claim7 := { stood := { row := codeTurnsUptoRow, standIns := [], harness := (true, "80ca6a302f28e0810337e9d47de292a80774425751c61d7da81bfa1c6b70abb7"), looks := true }, kinds := [], alts := [], laidByText := true, laidKinds := [.data, .data, .data, .data, .handle, .sentinel, .sentinel, .listed, .data, .pinned, .pinned], laidTests := true, laidLooks := .later }
def CodeTurnsUptoCardSaid : Prop := Claim7.holds Tryz.pinned (.plain (OpenSpec.upto codeTurnsSpec)) codeTurnsUptoCard
end Rows
end Go.Proofs.YtdjbkppdppdcgaaGreatDoor
