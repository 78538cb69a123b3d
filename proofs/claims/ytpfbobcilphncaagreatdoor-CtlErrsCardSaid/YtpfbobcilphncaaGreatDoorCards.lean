/-
  DERIVED. GIVEN WITH THE SEED: THE CARDS: each row of YtpfbobcilphncaaGreatDoorRows.lean that lists a variable, with what it lists TIED to the program's text (the seventh form; the later family's looks); each row that meets fmt, with fmt's text TOLD by the authors' own Lean function (tested against real Go, not proved from fmt's source: count such statements apart). THE CARD IS WHAT COUNTS. Prove the row's statement (the work); the ties are given (YtpfbobcilphncaaGreatDoorTie.lean); close each card by the builder's one call (the guide's Derived/Test/ToyasCard.lean, 'card_holds'). Laid BY PROGRAM, IN A SANDBOX (cutbox-door.mjs). By AI agents, Wed Nov 11 2026. No macro, syntax, notation, axiom, sorry.
-/
import Derived.Test.YtpfbobcilphncaaGreatDoorRows
import GoSem.ClaimSeven
namespace Go.Proofs.YtpfbobcilphncaaGreatDoor
namespace Rows

/-- THE TIED CARD OF 'campanilelaw07.CtlErrs'. -/
def ctlErrsCard : Claim7 := { stood := { row := ctlErrsRow, standIns := [], harness := (true, "ed6cdc9652dab8ed325248517a7b88820b0fc276c13a124bd24323a81e7860da"), looks := false }, kinds := [], alts := [], laidByText := true, laidKinds := [.data, .pinned], laidTests := true, laidLooks := .later }
def CtlErrsCardSaid : Prop := Claim7.holds Tryz.pinned (.plain (OpenSpec.ofChange ctlErrsSpec)) ctlErrsCard

/-- THE TIED CARD OF 'campanilelaw07.CtlSends'. -/
def ctlSendsCard : Claim7 := { stood := { row := ctlSendsRow, standIns := [], harness := (true, "ed6cdc9652dab8ed325248517a7b88820b0fc276c13a124bd24323a81e7860da"), looks := false }, kinds := [], alts := [], laidByText := true, laidKinds := [.data, .pinned], laidTests := true, laidLooks := .later }
def CtlSendsCardSaid : Prop := Claim7.holds Tryz.pinned (.plain (OpenSpec.ofChange ctlSendsSpec)) ctlSendsCard

/-- THE TIED CARD OF 'campanilelaw07.CtlLoses'. -/
def ctlLosesCard : Claim7 := { stood := { row := ctlLosesRow, standIns := [], harness := (true, "ed6cdc9652dab8ed325248517a7b88820b0fc276c13a124bd24323a81e7860da"), looks := false }, kinds := [], alts := [], laidByText := true, laidKinds := [.data, .pinned], laidTests := true, laidLooks := .later }
def CtlLosesCardSaid : Prop := Claim7.holds Tryz.pinned (.plain (OpenSpec.ofChange ctlLosesSpec)) ctlLosesCard

/-- THE SECOND FORM's CARD OF 'campanilelaw07.CtlErrs'. -/
def ctlErrsUptoCard : Claim7 := { stood := { row := ctlErrsUptoRow, standIns := [], harness := (true, "ed6cdc9652dab8ed325248517a7b88820b0fc276c13a124bd24323a81e7860da"), looks := false }, kinds := [], alts := [], laidByText := true, laidKinds := [.data, .pinned], laidTests := true, laidLooks := .later }
def CtlErrsUptoCardSaid : Prop := Claim7.holds Tryz.pinned (.plain (OpenSpec.upto ctlErrsSpec)) ctlErrsUptoCard

/-- THE SECOND FORM's CARD OF 'campanilelaw07.CtlSends'. -/
def ctlSendsUptoCard : Claim7 := { stood := { row := ctlSendsUptoRow, standIns := [], harness := (true, "ed6cdc9652dab8ed325248517a7b88820b0fc276c13a124bd24323a81e7860da"), looks := false }, kinds := [], alts := [], laidByText := true, laidKinds := [.data, .pinned], laidTests := true, laidLooks := .later }
def CtlSendsUptoCardSaid : Prop := Claim7.holds Tryz.pinned (.plain (OpenSpec.upto ctlSendsSpec)) ctlSendsUptoCard

/-- THE SECOND FORM's CARD OF 'campanilelaw07.CtlLoses'. -/
def ctlLosesUptoCard : Claim7 := { stood := { row := ctlLosesUptoRow, standIns := [], harness := (true, "ed6cdc9652dab8ed325248517a7b88820b0fc276c13a124bd24323a81e7860da"), looks := false }, kinds := [], alts := [], laidByText := true, laidKinds := [.data, .pinned], laidTests := true, laidLooks := .later }
def CtlLosesUptoCardSaid : Prop := Claim7.holds Tryz.pinned (.plain (OpenSpec.upto ctlLosesSpec)) ctlLosesUptoCard
end Rows
end Go.Proofs.YtpfbobcilphncaaGreatDoor
