/-
  DERIVED. GIVEN WITH THE SEED: THE CARDS: each row of YtpfbobcilphncaaDoorRows.lean that lists a variable, with what it lists TIED to the program's text (the seventh form; the later family's looks); each row that meets fmt, with fmt's text TOLD by the authors' own Lean function (tested against real Go, not proved from fmt's source: count such statements apart). THE CARD IS WHAT COUNTS. Prove the row's statement (the work); the ties are given (YtpfbobcilphncaaDoorTie.lean); close each card by the builder's one call (the guide's Derived/Test/ToyasCard.lean, 'card_holds'). Laid BY PROGRAM, IN A SANDBOX (cutbox-door.mjs). By AI agents, Wed Nov 11 2026. No macro, syntax, notation, axiom, sorry.
-/
import Derived.Test.YtpfbobcilphncaaDoorRows
import GoSem.ClaimSeven
namespace Go.Proofs.YtpfbobcilphncaaDoor
namespace Rows

/-- THE TIED CARD OF 'campanilelaw07.CtlComes'. -/
def ctlComesCard : Claim7 := { stood := { row := ctlComesRow, standIns := [], harness := (true, "a88f9f7f506ece1c415e3796433af45e49045ca62b9c9e67518c665196f1ce44"), looks := false }, kinds := [], alts := [], laidByText := true, laidKinds := [.data, .pinned], laidTests := true, laidLooks := .later }
def CtlComesCardSaid : Prop := Claim7.holds Tryd.pinned (.plain (OpenSpec.ofChange ctlComesSpec)) ctlComesCard

/-- THE TIED CARD OF 'campanilelaw07.CtlOff'. -/
def ctlOffCard : Claim7 := { stood := { row := ctlOffRow, standIns := [], harness := (true, "a88f9f7f506ece1c415e3796433af45e49045ca62b9c9e67518c665196f1ce44"), looks := false }, kinds := [], alts := [], laidByText := true, laidKinds := [.data, .pinned], laidTests := true, laidLooks := .later }
def CtlOffCardSaid : Prop := Claim7.holds Tryd.pinned (.plain (OpenSpec.ofChange ctlOffSpec)) ctlOffCard

/-- THE TIED CARD OF 'campanilelaw07.CtlStays'. -/
def ctlStaysCard : Claim7 := { stood := { row := ctlStaysRow, standIns := [], harness := (true, "a88f9f7f506ece1c415e3796433af45e49045ca62b9c9e67518c665196f1ce44"), looks := false }, kinds := [], alts := [], laidByText := true, laidKinds := [.data, .pinned], laidTests := true, laidLooks := .later }
def CtlStaysCardSaid : Prop := Claim7.holds Tryd.pinned (.plain (OpenSpec.ofChange ctlStaysSpec)) ctlStaysCard

/-- THE TIED CARD OF 'campanilelaw07.CtlTurned'. -/
def ctlTurnedCard : Claim7 := { stood := { row := ctlTurnedRow, standIns := [], harness := (true, "a88f9f7f506ece1c415e3796433af45e49045ca62b9c9e67518c665196f1ce44"), looks := false }, kinds := [], alts := [], laidByText := true, laidKinds := [.data, .pinned], laidTests := true, laidLooks := .later }
def CtlTurnedCardSaid : Prop := Claim7.holds Tryd.pinned (.plain (OpenSpec.ofChange ctlTurnedSpec)) ctlTurnedCard

/-- THE SECOND FORM's CARD OF 'campanilelaw07.CtlComes'. -/
def ctlComesUptoCard : Claim7 := { stood := { row := ctlComesUptoRow, standIns := [], harness := (true, "a88f9f7f506ece1c415e3796433af45e49045ca62b9c9e67518c665196f1ce44"), looks := false }, kinds := [], alts := [], laidByText := true, laidKinds := [.data, .pinned], laidTests := true, laidLooks := .later }
def CtlComesUptoCardSaid : Prop := Claim7.holds Tryd.pinned (.plain (OpenSpec.upto ctlComesSpec)) ctlComesUptoCard

/-- THE SECOND FORM's CARD OF 'campanilelaw07.CtlOff'. -/
def ctlOffUptoCard : Claim7 := { stood := { row := ctlOffUptoRow, standIns := [], harness := (true, "a88f9f7f506ece1c415e3796433af45e49045ca62b9c9e67518c665196f1ce44"), looks := false }, kinds := [], alts := [], laidByText := true, laidKinds := [.data, .pinned], laidTests := true, laidLooks := .later }
def CtlOffUptoCardSaid : Prop := Claim7.holds Tryd.pinned (.plain (OpenSpec.upto ctlOffSpec)) ctlOffUptoCard

/-- THE SECOND FORM's CARD OF 'campanilelaw07.CtlStays'. -/
def ctlStaysUptoCard : Claim7 := { stood := { row := ctlStaysUptoRow, standIns := [], harness := (true, "a88f9f7f506ece1c415e3796433af45e49045ca62b9c9e67518c665196f1ce44"), looks := false }, kinds := [], alts := [], laidByText := true, laidKinds := [.data, .pinned], laidTests := true, laidLooks := .later }
def CtlStaysUptoCardSaid : Prop := Claim7.holds Tryd.pinned (.plain (OpenSpec.upto ctlStaysSpec)) ctlStaysUptoCard

/-- THE SECOND FORM's CARD OF 'campanilelaw07.CtlTurned'. -/
def ctlTurnedUptoCard : Claim7 := { stood := { row := ctlTurnedUptoRow, standIns := [], harness := (true, "a88f9f7f506ece1c415e3796433af45e49045ca62b9c9e67518c665196f1ce44"), looks := false }, kinds := [], alts := [], laidByText := true, laidKinds := [.data, .pinned], laidTests := true, laidLooks := .later }
def CtlTurnedUptoCardSaid : Prop := Claim7.holds Tryd.pinned (.plain (OpenSpec.upto ctlTurnedSpec)) ctlTurnedUptoCard
end Rows
end Go.Proofs.YtpfbobcilphncaaDoor
