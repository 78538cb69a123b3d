/-
  DERIVED. GIVEN WITH THE SEED: THE CARDS: each row of YtkfedgjepiljiaaGreatDoorRows.lean that lists a variable, with what it lists TIED to the program's text (the seventh form; the later family's looks); each row that meets fmt, with fmt's text TOLD by the authors' own Lean function (tested against real Go, not proved from fmt's source: count such statements apart). THE CARD IS WHAT COUNTS. Prove the row's statement (the work); the ties are given (YtkfedgjepiljiaaGreatDoorTie.lean); close each card by the builder's one call (the guide's Derived/Test/ToyasCard.lean, 'card_holds'). Laid BY PROGRAM, IN A SANDBOX (cutbox-door.mjs). By AI agents, Wed Nov 11 2026. No macro, syntax, notation, axiom, sorry.
-/
import Derived.Test.YtkfedgjepiljiaaGreatDoorRows
import GoSem.ClaimSeven
namespace Go.Proofs.YtkfedgjepiljiaaGreatDoor
namespace Rows

/-- THE TIED CARD OF 'campanilelaw08.BusWild'. -/
def busWildCard : Claim7 := { stood := { row := busWildRow, standIns := [], harness := (true, "b57d3143a23168d3af64b6ad1372186f3e43a464aeb9c15b124dd745db821857"), looks := false }, kinds := [], alts := [], laidByText := true, laidKinds := [.data, .pinned], laidTests := true, laidLooks := .later }
def BusWildCardSaid : Prop := Claim7.holds Tryz.pinned (.plain (OpenSpec.ofChange busWildSpec)) busWildCard

/-- THE SECOND FORM's CARD OF 'campanilelaw08.BusWild'. -/
def busWildUptoCard : Claim7 := { stood := { row := busWildUptoRow, standIns := [], harness := (true, "b57d3143a23168d3af64b6ad1372186f3e43a464aeb9c15b124dd745db821857"), looks := false }, kinds := [], alts := [], laidByText := true, laidKinds := [.data, .pinned], laidTests := true, laidLooks := .later }
def BusWildUptoCardSaid : Prop := Claim7.holds Tryz.pinned (.plain (OpenSpec.upto busWildSpec)) busWildUptoCard
end Rows
end Go.Proofs.YtkfedgjepiljiaaGreatDoor
