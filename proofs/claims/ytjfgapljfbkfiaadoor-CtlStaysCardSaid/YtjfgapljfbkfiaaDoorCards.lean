/-
  DERIVED. GIVEN WITH THE SEED: THE CARDS: each row of YtjfgapljfbkfiaaDoorRows.lean that lists a variable, with what it lists TIED to the program's text (the seventh form; the later family's looks); each row that meets fmt, with fmt's text TOLD by the authors' own Lean function (tested against real Go, not proved from fmt's source: count such statements apart). THE CARD IS WHAT COUNTS. Prove the row's statement (the work); the ties are given (YtjfgapljfbkfiaaDoorTie.lean); close each card by the builder's one call (the guide's Derived/Test/ToyasCard.lean, 'card_holds'). Laid BY PROGRAM, IN A SANDBOX (cutbox-door.mjs). By AI agents, Wed Nov 11 2026. No macro, syntax, notation, axiom, sorry.
-/
import Derived.Test.YtjfgapljfbkfiaaDoorRows
import GoSem.ClaimSeven
namespace Go.Proofs.YtjfgapljfbkfiaaDoor
namespace Rows

/-- THE TIED CARD OF 'campanilelaw07.CtlStays'. -/
def ctlStaysCard : Claim7 := { stood := { row := ctlStaysRow, standIns := [], harness := (true, "3885b0c70585418b0059721a50df9dca819eb9e0bc765a646e70553d31d63d5a"), looks := false }, kinds := [], alts := [], laidByText := true, laidKinds := [.data, .pinned], laidTests := true, laidLooks := .later }
def CtlStaysCardSaid : Prop := Claim7.holds Tryd.pinned (.plain (OpenSpec.ofChange ctlStaysSpec)) ctlStaysCard

/-- THE SECOND FORM's CARD OF 'campanilelaw07.CtlStays'. -/
def ctlStaysUptoCard : Claim7 := { stood := { row := ctlStaysUptoRow, standIns := [], harness := (true, "3885b0c70585418b0059721a50df9dca819eb9e0bc765a646e70553d31d63d5a"), looks := false }, kinds := [], alts := [], laidByText := true, laidKinds := [.data, .pinned], laidTests := true, laidLooks := .later }
def CtlStaysUptoCardSaid : Prop := Claim7.holds Tryd.pinned (.plain (OpenSpec.upto ctlStaysSpec)) ctlStaysUptoCard
end Rows
end Go.Proofs.YtjfgapljfbkfiaaDoor
