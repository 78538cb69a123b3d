/-
  DERIVED. GIVEN WITH THE SEED: THE CARDS: each row of YtkfedgjepiljiaaDoorRows.lean that lists a variable, with what it lists TIED to the program's text (the seventh form; the later family's looks); each row that meets fmt, with fmt's text TOLD by the authors' own Lean function (tested against real Go, not proved from fmt's source: count such statements apart). THE CARD IS WHAT COUNTS. Prove the row's statement (the work); the ties are given (YtkfedgjepiljiaaDoorTie.lean); close each card by the builder's one call (the guide's Derived/Test/ToyasCard.lean, 'card_holds'). Laid BY PROGRAM, IN A SANDBOX (cutbox-door.mjs). By AI agents, Wed Nov 11 2026. No macro, syntax, notation, axiom, sorry.
-/
import Derived.Test.YtkfedgjepiljiaaDoorRows
import GoSem.ClaimSeven
namespace Go.Proofs.YtkfedgjepiljiaaDoor
namespace Rows

/-- THE TIED CARD OF 'campanilelaw23.CanifOne'. -/
def canifOneCard : Claim7 := { stood := { row := canifOneRow, standIns := [], harness := (true, "511638fe7927273272161317bd19aad7d6874ff613868e2f5100c6fecd0af7e7"), looks := true }, kinds := [], alts := [], laidByText := true, laidKinds := [.data, .pinned], laidTests := true, laidLooks := .later }
def CanifOneCardSaid : Prop := Claim7.holds Tryd.pinned (.plain (OpenSpec.ofChange canifOneSpec)) canifOneCard

/-- THE TIED CARD OF 'campanilelaw23.CanifOrder'. -/
def canifOrderCard : Claim7 := { stood := { row := canifOrderRow, standIns := [], harness := (true, "511638fe7927273272161317bd19aad7d6874ff613868e2f5100c6fecd0af7e7"), looks := true }, kinds := [], alts := [], laidByText := true, laidKinds := [.data, .pinned], laidTests := true, laidLooks := .later }
def CanifOrderCardSaid : Prop := Claim7.holds Tryd.pinned (.plain (OpenSpec.ofChange canifOrderSpec)) canifOrderCard

/-- THE SECOND FORM's CARD OF 'campanilelaw23.CanifOne'. -/
def canifOneUptoCard : Claim7 := { stood := { row := canifOneUptoRow, standIns := [], harness := (true, "511638fe7927273272161317bd19aad7d6874ff613868e2f5100c6fecd0af7e7"), looks := true }, kinds := [], alts := [], laidByText := true, laidKinds := [.data, .pinned], laidTests := true, laidLooks := .later }
def CanifOneUptoCardSaid : Prop := Claim7.holds Tryd.pinned (.plain (OpenSpec.upto canifOneSpec)) canifOneUptoCard

/-- THE SECOND FORM's CARD OF 'campanilelaw23.CanifOrder'. -/
def canifOrderUptoCard : Claim7 := { stood := { row := canifOrderUptoRow, standIns := [], harness := (true, "511638fe7927273272161317bd19aad7d6874ff613868e2f5100c6fecd0af7e7"), looks := true }, kinds := [], alts := [], laidByText := true, laidKinds := [.data, .pinned], laidTests := true, laidLooks := .later }
def CanifOrderUptoCardSaid : Prop := Claim7.holds Tryd.pinned (.plain (OpenSpec.upto canifOrderSpec)) canifOrderUptoCard
end Rows
end Go.Proofs.YtkfedgjepiljiaaDoor
