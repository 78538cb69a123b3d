/-
  DERIVED. GIVEN WITH THE SEED: THE CARDS: each row of YthkilodnghiocaaGreatDoorRows.lean that lists a variable, with what it lists TIED to the program's text (the seventh form; the later family's looks); each row that meets fmt, with fmt's text TOLD by the authors' own Lean function (tested against real Go, not proved from fmt's source: count such statements apart). THE CARD IS WHAT COUNTS. Prove the row's statement (the work); the ties are given (YthkilodnghiocaaGreatDoorTie.lean); close each card by the builder's one call (the guide's Derived/Test/ToyasCard.lean, 'card_holds'). Laid BY PROGRAM, IN A SANDBOX (cutbox-door.mjs). By AI agents, Wed Nov 11 2026. No macro, syntax, notation, axiom, sorry.
-/
import Derived.Test.YthkilodnghiocaaGreatDoorRows
import GoSem.ClaimSeven
namespace Go.Proofs.YthkilodnghiocaaGreatDoor
namespace Rows

/-- THE TIED CARD OF 'campaniletop.TopRouted'. -/
def topRoutedCard : Claim7 := { stood := { row := topRoutedRow, standIns := [], harness := (true, "0d029196f5bae1b5d53f10aaa6a3d4dc26239f65685d1a1b02a8ca870f516626"), looks := false }, kinds := [], alts := [], laidByText := true, laidKinds := [.data, .pinned], laidTests := true, laidLooks := .later }
def TopRoutedCardSaid : Prop := Claim7.holds Tryz.pinned (.plain (OpenSpec.ofChange topRoutedSpec)) topRoutedCard

/-- THE SECOND FORM's CARD OF 'campaniletop.TopRouted'. -/
def topRoutedUptoCard : Claim7 := { stood := { row := topRoutedUptoRow, standIns := [], harness := (true, "0d029196f5bae1b5d53f10aaa6a3d4dc26239f65685d1a1b02a8ca870f516626"), looks := false }, kinds := [], alts := [], laidByText := true, laidKinds := [.data, .pinned], laidTests := true, laidLooks := .later }
def TopRoutedUptoCardSaid : Prop := Claim7.holds Tryz.pinned (.plain (OpenSpec.upto topRoutedSpec)) topRoutedUptoCard
end Rows
end Go.Proofs.YthkilodnghiocaaGreatDoor
