/-
  DERIVED. GIVEN WITH THE SEED: THE CARDS: each row of YtokhfhibdeneeaaGreatDoorRows.lean that lists a variable, with what it lists TIED to the program's text (the seventh form; the later family's looks); each row that meets fmt, with fmt's text TOLD by the authors' own Lean function (tested against real Go, not proved from fmt's source: count such statements apart). THE CARD IS WHAT COUNTS. Prove the row's statement (the work); the ties are given (YtokhfhibdeneeaaGreatDoorTie.lean); close each card by the builder's one call (the guide's Derived/Test/ToyasCard.lean, 'card_holds'). Laid BY PROGRAM, IN A SANDBOX (cutbox-door.mjs). By AI agents, Wed Nov 11 2026. No macro, syntax, notation, axiom, sorry.
-/
import Derived.Test.YtokhfhibdeneeaaGreatDoorRows
import GoSem.ClaimSeven
namespace Go.Proofs.YtokhfhibdeneeaaGreatDoor
namespace Rows

/-- THE TIED CARD OF 'guiselaw3.ParseReads'. -/
def parseReadsCard : Claim7 := { stood := { row := parseReadsRow, standIns := [], harness := (true, "1ab4fa460bfc81a4748f1b876b0d90e81ca1e453e1f9b6bc5614f132704bfd0e"), looks := true }, kinds := [], alts := [], laidByText := true, laidKinds := [.data, .data, .data, .sentinel, .sentinel, .listed, .data, .data], laidTests := true, laidLooks := .later }
def ParseReadsCardSaid : Prop := Claim7.holds Tryz.pinned (.plain (OpenSpec.ofChange parseReadsSpec)) parseReadsCard

/-- THE TIED CARD OF 'guiselaw3.ParseFirst'. -/
def parseFirstCard : Claim7 := { stood := { row := parseFirstRow, standIns := [], harness := (true, "1ab4fa460bfc81a4748f1b876b0d90e81ca1e453e1f9b6bc5614f132704bfd0e"), looks := true }, kinds := [], alts := [], laidByText := true, laidKinds := [.data, .data, .data, .sentinel, .sentinel, .listed, .data, .data], laidTests := true, laidLooks := .later }
def ParseFirstCardSaid : Prop := Claim7.holds Tryz.pinned (.plain (OpenSpec.ofChange parseFirstSpec)) parseFirstCard

/-- THE TIED CARD OF 'guiselaw3.ParseBlanks'. -/
def parseBlanksCard : Claim7 := { stood := { row := parseBlanksRow, standIns := [], harness := (true, "1ab4fa460bfc81a4748f1b876b0d90e81ca1e453e1f9b6bc5614f132704bfd0e"), looks := true }, kinds := [], alts := [], laidByText := true, laidKinds := [.data, .data, .data, .sentinel, .sentinel, .listed, .data, .data], laidTests := true, laidLooks := .later }
def ParseBlanksCardSaid : Prop := Claim7.holds Tryz.pinned (.plain (OpenSpec.ofChange parseBlanksSpec)) parseBlanksCard

/-- THE TIED CARD OF 'guiselaw3.ParseAgain'. -/
def parseAgainCard : Claim7 := { stood := { row := parseAgainRow, standIns := [], harness := (true, "1ab4fa460bfc81a4748f1b876b0d90e81ca1e453e1f9b6bc5614f132704bfd0e"), looks := true }, kinds := [], alts := [], laidByText := true, laidKinds := [.data, .data, .data, .sentinel, .sentinel, .listed, .data, .data], laidTests := true, laidLooks := .later }
def ParseAgainCardSaid : Prop := Claim7.holds Tryz.pinned (.plain (OpenSpec.ofChange parseAgainSpec)) parseAgainCard

/-- THE SECOND FORM's CARD OF 'guiselaw3.ParseReads'. -/
def parseReadsUptoCard : Claim7 := { stood := { row := parseReadsUptoRow, standIns := [], harness := (true, "1ab4fa460bfc81a4748f1b876b0d90e81ca1e453e1f9b6bc5614f132704bfd0e"), looks := true }, kinds := [], alts := [], laidByText := true, laidKinds := [.data, .data, .data, .sentinel, .sentinel, .listed, .data, .data], laidTests := true, laidLooks := .later }
def ParseReadsUptoCardSaid : Prop := Claim7.holds Tryz.pinned (.plain (OpenSpec.upto parseReadsSpec)) parseReadsUptoCard

/-- THE SECOND FORM's CARD OF 'guiselaw3.ParseFirst'. -/
def parseFirstUptoCard : Claim7 := { stood := { row := parseFirstUptoRow, standIns := [], harness := (true, "1ab4fa460bfc81a4748f1b876b0d90e81ca1e453e1f9b6bc5614f132704bfd0e"), looks := true }, kinds := [], alts := [], laidByText := true, laidKinds := [.data, .data, .data, .sentinel, .sentinel, .listed, .data, .data], laidTests := true, laidLooks := .later }
def ParseFirstUptoCardSaid : Prop := Claim7.holds Tryz.pinned (.plain (OpenSpec.upto parseFirstSpec)) parseFirstUptoCard

/-- THE SECOND FORM's CARD OF 'guiselaw3.ParseBlanks'. -/
def parseBlanksUptoCard : Claim7 := { stood := { row := parseBlanksUptoRow, standIns := [], harness := (true, "1ab4fa460bfc81a4748f1b876b0d90e81ca1e453e1f9b6bc5614f132704bfd0e"), looks := true }, kinds := [], alts := [], laidByText := true, laidKinds := [.data, .data, .data, .sentinel, .sentinel, .listed, .data, .data], laidTests := true, laidLooks := .later }
def ParseBlanksUptoCardSaid : Prop := Claim7.holds Tryz.pinned (.plain (OpenSpec.upto parseBlanksSpec)) parseBlanksUptoCard

/-- THE SECOND FORM's CARD OF 'guiselaw3.ParseAgain'. -/
def parseAgainUptoCard : Claim7 := { stood := { row := parseAgainUptoRow, standIns := [], harness := (true, "1ab4fa460bfc81a4748f1b876b0d90e81ca1e453e1f9b6bc5614f132704bfd0e"), looks := true }, kinds := [], alts := [], laidByText := true, laidKinds := [.data, .data, .data, .sentinel, .sentinel, .listed, .data, .data], laidTests := true, laidLooks := .later }
def ParseAgainUptoCardSaid : Prop := Claim7.holds Tryz.pinned (.plain (OpenSpec.upto parseAgainSpec)) parseAgainUptoCard
end Rows
end Go.Proofs.YtokhfhibdeneeaaGreatDoor
