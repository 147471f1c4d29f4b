/-
  DERIVED. GIVEN WITH THE SEED: THE CARDS: each row of YtjpmghgmmeemkaaGreatDoorRows.lean that lists a variable, with what it lists TIED to the program's text (the seventh form; the later family's looks); each row that meets fmt, with fmt's text TOLD by the authors' own Lean function (tested against real Go, not proved from fmt's source: count such statements apart). THE CARD IS WHAT COUNTS. Prove the row's statement (the work); the ties are given (YtjpmghgmmeemkaaGreatDoorTie.lean); close each card by the builder's one call (the guide's Derived/Test/ToyasCard.lean, 'card_holds'). Laid BY PROGRAM, IN A SANDBOX (cutbox-door.mjs). By AI agents, Wed Nov 11 2026. No macro, syntax, notation, axiom, sorry.
-/
import Derived.Test.YtjpmghgmmeemkaaGreatDoorRows
import GoSem.ClaimSeven
namespace Go.Proofs.YtjpmghgmmeemkaaGreatDoor
namespace Rows

/-- THE TIED CARD OF 'guiselaw2.TreeSames'. -/
def treeSamesCard : Claim7 := { stood := { row := treeSamesRow, standIns := [], harness := (true, "25a973eb611655ae1334e49b9c0f5354ea3cb48aff4225e23588d89d361353d7"), looks := true }, kinds := [], alts := [], laidByText := true, laidKinds := [.data, .data, .data, .handle, .listed, .data, .data], laidTests := true, laidLooks := .later }
def TreeSamesCardSaid : Prop := Claim7.holds Tryz.pinned (.plain (OpenSpec.ofChange treeSamesSpec)) treeSamesCard

/-- THE TIED CARD OF 'guiselaw2.TreePlaces'. -/
def treePlacesCard : Claim7 := { stood := { row := treePlacesRow, standIns := [], harness := (true, "25a973eb611655ae1334e49b9c0f5354ea3cb48aff4225e23588d89d361353d7"), looks := true }, kinds := [], alts := [], laidByText := true, laidKinds := [.data, .data, .data, .handle, .listed, .data, .data], laidTests := true, laidLooks := .later }
def TreePlacesCardSaid : Prop := Claim7.holds Tryz.pinned (.plain (OpenSpec.ofChange treePlacesSpec)) treePlacesCard

/-- THE TIED CARD OF 'guiselaw2.TreeAll'. -/
def treeAllCard : Claim7 := { stood := { row := treeAllRow, standIns := [], harness := (true, "25a973eb611655ae1334e49b9c0f5354ea3cb48aff4225e23588d89d361353d7"), looks := true }, kinds := [], alts := [], laidByText := true, laidKinds := [.data, .data, .data, .handle, .listed, .data, .data], laidTests := true, laidLooks := .later }
def TreeAllCardSaid : Prop := Claim7.holds Tryz.pinned (.plain (OpenSpec.ofChange treeAllSpec)) treeAllCard

/-- THE TIED CARD OF 'guiselaw2.TreeMore'. -/
def treeMoreCard : Claim7 := { stood := { row := treeMoreRow, standIns := [], harness := (true, "25a973eb611655ae1334e49b9c0f5354ea3cb48aff4225e23588d89d361353d7"), looks := true }, kinds := [], alts := [], laidByText := true, laidKinds := [.data, .data, .data, .handle, .listed, .data, .data], laidTests := true, laidLooks := .later }
def TreeMoreCardSaid : Prop := Claim7.holds Tryz.pinned (.plain (OpenSpec.ofChange treeMoreSpec)) treeMoreCard

/-- THE SECOND FORM's CARD OF 'guiselaw2.TreeSames'. -/
def treeSamesUptoCard : Claim7 := { stood := { row := treeSamesUptoRow, standIns := [], harness := (true, "25a973eb611655ae1334e49b9c0f5354ea3cb48aff4225e23588d89d361353d7"), looks := true }, kinds := [], alts := [], laidByText := true, laidKinds := [.data, .data, .data, .handle, .listed, .data, .data], laidTests := true, laidLooks := .later }
def TreeSamesUptoCardSaid : Prop := Claim7.holds Tryz.pinned (.plain (OpenSpec.upto treeSamesSpec)) treeSamesUptoCard

/-- THE SECOND FORM's CARD OF 'guiselaw2.TreePlaces'. -/
def treePlacesUptoCard : Claim7 := { stood := { row := treePlacesUptoRow, standIns := [], harness := (true, "25a973eb611655ae1334e49b9c0f5354ea3cb48aff4225e23588d89d361353d7"), looks := true }, kinds := [], alts := [], laidByText := true, laidKinds := [.data, .data, .data, .handle, .listed, .data, .data], laidTests := true, laidLooks := .later }
def TreePlacesUptoCardSaid : Prop := Claim7.holds Tryz.pinned (.plain (OpenSpec.upto treePlacesSpec)) treePlacesUptoCard

/-- THE SECOND FORM's CARD OF 'guiselaw2.TreeAll'. -/
def treeAllUptoCard : Claim7 := { stood := { row := treeAllUptoRow, standIns := [], harness := (true, "25a973eb611655ae1334e49b9c0f5354ea3cb48aff4225e23588d89d361353d7"), looks := true }, kinds := [], alts := [], laidByText := true, laidKinds := [.data, .data, .data, .handle, .listed, .data, .data], laidTests := true, laidLooks := .later }
def TreeAllUptoCardSaid : Prop := Claim7.holds Tryz.pinned (.plain (OpenSpec.upto treeAllSpec)) treeAllUptoCard

/-- THE SECOND FORM's CARD OF 'guiselaw2.TreeMore'. -/
def treeMoreUptoCard : Claim7 := { stood := { row := treeMoreUptoRow, standIns := [], harness := (true, "25a973eb611655ae1334e49b9c0f5354ea3cb48aff4225e23588d89d361353d7"), looks := true }, kinds := [], alts := [], laidByText := true, laidKinds := [.data, .data, .data, .handle, .listed, .data, .data], laidTests := true, laidLooks := .later }
def TreeMoreUptoCardSaid : Prop := Claim7.holds Tryz.pinned (.plain (OpenSpec.upto treeMoreSpec)) treeMoreUptoCard
end Rows
end Go.Proofs.YtjpmghgmmeemkaaGreatDoor
