/-
  DERIVED. GIVEN WITH THE SEED: THE CARDS: each row of YtagnicbknbmccaaGreatDoorRows.lean that lists a variable, with what it lists TIED to the program's text (the seventh form; the later family's looks); each row that meets fmt, with fmt's text TOLD by the authors' own Lean function (tested against real Go, not proved from fmt's source: count such statements apart). THE CARD IS WHAT COUNTS. Prove the row's statement (the work); the ties are given (YtagnicbknbmccaaGreatDoorTie.lean); close each card by the builder's one call (the guide's Derived/Test/ToyasCard.lean, 'card_holds'). Laid BY PROGRAM, IN A SANDBOX (cutbox-door.mjs). By AI agents, Wed Nov 11 2026. No macro, syntax, notation, axiom, sorry.
-/
import Derived.Test.YtagnicbknbmccaaGreatDoorRows
import GoSem.ClaimSeven
namespace Go.Proofs.YtagnicbknbmccaaGreatDoor
namespace Rows

/-- THE TIED CARD OF 'guiselaw13.CodeSpoilt'. -/
def codeSpoiltCard : Claim7 := { stood := { row := codeSpoiltRow, standIns := [], harness := (true, "17330d438cbc6a0926674e15050135ce17074efe2de43817bb51a3ad74372fd1"), looks := true }, kinds := [], alts := [], laidByText := true, laidKinds := [.data, .data, .data, .data, .handle, .sentinel, .sentinel, .listed, .data, .pinned, .pinned], laidTests := true, laidLooks := .later }
def CodeSpoiltCardSaid : Prop := Claim7.holds Tryz.pinned (.plain (OpenSpec.ofChange codeSpoiltSpec)) codeSpoiltCard

/-- THE TIED CARD OF 'guiselaw13.CodeRights'. -/
def codeRightsCard : Claim7 := { stood := { row := codeRightsRow, standIns := [], harness := (true, "17330d438cbc6a0926674e15050135ce17074efe2de43817bb51a3ad74372fd1"), looks := true }, kinds := [], alts := [], laidByText := true, laidKinds := [.data, .data, .data, .data, .handle, .sentinel, .sentinel, .listed, .data, .pinned, .pinned], laidTests := true, laidLooks := .later }
def CodeRightsCardSaid : Prop := Claim7.holds Tryz.pinned (.plain (OpenSpec.ofChange codeRightsSpec)) codeRightsCard

/-- THE TIED CARD OF 'guiselaw13.CodeWrites'. -/
def codeWritesCard : Claim7 := { stood := { row := codeWritesRow, standIns := [], harness := (true, "17330d438cbc6a0926674e15050135ce17074efe2de43817bb51a3ad74372fd1"), looks := true }, kinds := [], alts := [], laidByText := true, laidKinds := [.data, .data, .data, .data, .handle, .sentinel, .sentinel, .listed, .data, .pinned, .pinned], laidTests := true, laidLooks := .later }
def CodeWritesCardSaid : Prop := Claim7.holds Tryz.pinned (.plain (OpenSpec.ofChange codeWritesSpec)) codeWritesCard

/-- THE TIED CARD OF 'guiselaw13.CodeDecodes'. -/
def codeDecodesCard : Claim7 := { stood := { row := codeDecodesRow, standIns := [], harness := (true, "17330d438cbc6a0926674e15050135ce17074efe2de43817bb51a3ad74372fd1"), looks := true }, kinds := [], alts := [], laidByText := true, laidKinds := [.data, .data, .data, .data, .handle, .sentinel, .sentinel, .listed, .data, .pinned, .pinned], laidTests := true, laidLooks := .later }
def CodeDecodesCardSaid : Prop := Claim7.holds Tryz.pinned (.plain (OpenSpec.ofChange codeDecodesSpec)) codeDecodesCard

/-- THE TIED CARD OF 'guiselaw13.CodeReads'. -/
def codeReadsCard : Claim7 := { stood := { row := codeReadsRow, standIns := [], harness := (true, "17330d438cbc6a0926674e15050135ce17074efe2de43817bb51a3ad74372fd1"), looks := true }, kinds := [], alts := [], laidByText := true, laidKinds := [.data, .data, .data, .data, .handle, .sentinel, .sentinel, .listed, .data, .pinned, .pinned], laidTests := true, laidLooks := .later }
def CodeReadsCardSaid : Prop := Claim7.holds Tryz.pinned (.plain (OpenSpec.ofChange codeReadsSpec)) codeReadsCard

/-- THE SECOND FORM's CARD OF 'guiselaw13.CodeSpoilt'. -/
def codeSpoiltUptoCard : Claim7 := { stood := { row := codeSpoiltUptoRow, standIns := [], harness := (true, "17330d438cbc6a0926674e15050135ce17074efe2de43817bb51a3ad74372fd1"), looks := true }, kinds := [], alts := [], laidByText := true, laidKinds := [.data, .data, .data, .data, .handle, .sentinel, .sentinel, .listed, .data, .pinned, .pinned], laidTests := true, laidLooks := .later }
def CodeSpoiltUptoCardSaid : Prop := Claim7.holds Tryz.pinned (.plain (OpenSpec.upto codeSpoiltSpec)) codeSpoiltUptoCard

/-- THE SECOND FORM's CARD OF 'guiselaw13.CodeRights'. -/
def codeRightsUptoCard : Claim7 := { stood := { row := codeRightsUptoRow, standIns := [], harness := (true, "17330d438cbc6a0926674e15050135ce17074efe2de43817bb51a3ad74372fd1"), looks := true }, kinds := [], alts := [], laidByText := true, laidKinds := [.data, .data, .data, .data, .handle, .sentinel, .sentinel, .listed, .data, .pinned, .pinned], laidTests := true, laidLooks := .later }
def CodeRightsUptoCardSaid : Prop := Claim7.holds Tryz.pinned (.plain (OpenSpec.upto codeRightsSpec)) codeRightsUptoCard

/-- THE SECOND FORM's CARD OF 'guiselaw13.CodeWrites'. -/
def codeWritesUptoCard : Claim7 := { stood := { row := codeWritesUptoRow, standIns := [], harness := (true, "17330d438cbc6a0926674e15050135ce17074efe2de43817bb51a3ad74372fd1"), looks := true }, kinds := [], alts := [], laidByText := true, laidKinds := [.data, .data, .data, .data, .handle, .sentinel, .sentinel, .listed, .data, .pinned, .pinned], laidTests := true, laidLooks := .later }
def CodeWritesUptoCardSaid : Prop := Claim7.holds Tryz.pinned (.plain (OpenSpec.upto codeWritesSpec)) codeWritesUptoCard

/-- THE SECOND FORM's CARD OF 'guiselaw13.CodeDecodes'. -/
def codeDecodesUptoCard : Claim7 := { stood := { row := codeDecodesUptoRow, standIns := [], harness := (true, "17330d438cbc6a0926674e15050135ce17074efe2de43817bb51a3ad74372fd1"), looks := true }, kinds := [], alts := [], laidByText := true, laidKinds := [.data, .data, .data, .data, .handle, .sentinel, .sentinel, .listed, .data, .pinned, .pinned], laidTests := true, laidLooks := .later }
def CodeDecodesUptoCardSaid : Prop := Claim7.holds Tryz.pinned (.plain (OpenSpec.upto codeDecodesSpec)) codeDecodesUptoCard

/-- THE SECOND FORM's CARD OF 'guiselaw13.CodeReads'. -/
def codeReadsUptoCard : Claim7 := { stood := { row := codeReadsUptoRow, standIns := [], harness := (true, "17330d438cbc6a0926674e15050135ce17074efe2de43817bb51a3ad74372fd1"), looks := true }, kinds := [], alts := [], laidByText := true, laidKinds := [.data, .data, .data, .data, .handle, .sentinel, .sentinel, .listed, .data, .pinned, .pinned], laidTests := true, laidLooks := .later }
def CodeReadsUptoCardSaid : Prop := Claim7.holds Tryz.pinned (.plain (OpenSpec.upto codeReadsSpec)) codeReadsUptoCard
end Rows
end Go.Proofs.YtagnicbknbmccaaGreatDoor
