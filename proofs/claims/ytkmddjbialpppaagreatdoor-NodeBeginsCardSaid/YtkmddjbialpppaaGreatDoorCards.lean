/-
  DERIVED. GIVEN WITH THE SEED: THE CARDS: each row of YtkmddjbialpppaaGreatDoorRows.lean that lists a variable, with what it lists TIED to the program's text (the seventh form; the later family's looks); each row that meets fmt, with fmt's text TOLD by the authors' own Lean function (tested against real Go, not proved from fmt's source: count such statements apart). THE CARD IS WHAT COUNTS. Prove the row's statement (the work); the ties are given (YtkmddjbialpppaaGreatDoorTie.lean); close each card by the builder's one call (the guide's Derived/Test/ToyasCard.lean, 'card_holds'). Laid BY PROGRAM, IN A SANDBOX (cutbox-door.mjs). By AI agents, Wed Nov 11 2026. No macro, syntax, notation, axiom, sorry.
-/
import Derived.Test.YtkmddjbialpppaaGreatDoorRows
import GoSem.ClaimSeven
namespace Go.Proofs.YtkmddjbialpppaaGreatDoor
namespace Rows

/-- THE TIED CARD OF 'campanilelaw28.NodeBegins'. -/
def nodeBeginsCard : Claim7 := { stood := { row := nodeBeginsRow, standIns := [], harness := (true, "6b39d98cf1158af9365eae7aa3ecdc9aabd4247d1584ccc3c76946d522c4d49f"), looks := true }, kinds := [], alts := [], laidByText := true, laidKinds := [.data, .pinned], laidTests := true, laidLooks := .later }
def NodeBeginsCardSaid : Prop := Claim7.holds Tryz.pinned (.plain (OpenSpec.ofChange nodeBeginsSpec)) nodeBeginsCard

/-- THE TIED CARD OF 'campanilelaw28.NodeRests'. -/
def nodeRestsCard : Claim7 := { stood := { row := nodeRestsRow, standIns := [], harness := (true, "6b39d98cf1158af9365eae7aa3ecdc9aabd4247d1584ccc3c76946d522c4d49f"), looks := true }, kinds := [], alts := [], laidByText := true, laidKinds := [.data, .pinned], laidTests := true, laidLooks := .later }
def NodeRestsCardSaid : Prop := Claim7.holds Tryz.pinned (.plain (OpenSpec.ofChange nodeRestsSpec)) nodeRestsCard

/-- THE SECOND FORM's CARD OF 'campanilelaw28.NodeBegins'. -/
def nodeBeginsUptoCard : Claim7 := { stood := { row := nodeBeginsUptoRow, standIns := [], harness := (true, "6b39d98cf1158af9365eae7aa3ecdc9aabd4247d1584ccc3c76946d522c4d49f"), looks := true }, kinds := [], alts := [], laidByText := true, laidKinds := [.data, .pinned], laidTests := true, laidLooks := .later }
def NodeBeginsUptoCardSaid : Prop := Claim7.holds Tryz.pinned (.plain (OpenSpec.upto nodeBeginsSpec)) nodeBeginsUptoCard

/-- THE SECOND FORM's CARD OF 'campanilelaw28.NodeRests'. -/
def nodeRestsUptoCard : Claim7 := { stood := { row := nodeRestsUptoRow, standIns := [], harness := (true, "6b39d98cf1158af9365eae7aa3ecdc9aabd4247d1584ccc3c76946d522c4d49f"), looks := true }, kinds := [], alts := [], laidByText := true, laidKinds := [.data, .pinned], laidTests := true, laidLooks := .later }
def NodeRestsUptoCardSaid : Prop := Claim7.holds Tryz.pinned (.plain (OpenSpec.upto nodeRestsSpec)) nodeRestsUptoCard
end Rows
end Go.Proofs.YtkmddjbialpppaaGreatDoor
