/-
  DERIVED. GIVEN WITH THE SEED: THE CARDS: each row of YtjfgapljfbkfiaaGreatDoorRows.lean that lists a variable, with what it lists TIED to the program's text (the seventh form; the later family's looks); each row that meets fmt, with fmt's text TOLD by the authors' own Lean function (tested against real Go, not proved from fmt's source: count such statements apart). THE CARD IS WHAT COUNTS. Prove the row's statement (the work); the ties are given (YtjfgapljfbkfiaaGreatDoorTie.lean); close each card by the builder's one call (the guide's Derived/Test/ToyasCard.lean, 'card_holds'). Laid BY PROGRAM, IN A SANDBOX (cutbox-door.mjs). By AI agents, Wed Nov 11 2026. No macro, syntax, notation, axiom, sorry.
-/
import Derived.Test.YtjfgapljfbkfiaaGreatDoorRows
import GoSem.ClaimSeven
namespace Go.Proofs.YtjfgapljfbkfiaaGreatDoor
namespace Rows

/-- THE TIED CARD OF 'campanilelaw08.BusOrder'. -/
def busOrderCard : Claim7 := { stood := { row := busOrderRow, standIns := [], harness := (true, "d292010fb8955719e9fd6dd8dca2826fbfaa0b4130d23ef4982605736c33db0f"), looks := false }, kinds := [], alts := [], laidByText := true, laidKinds := [.data, .pinned], laidTests := true, laidLooks := .later }
def BusOrderCardSaid : Prop := Claim7.holds Tryz.pinned (.plain (OpenSpec.ofChange busOrderSpec)) busOrderCard

/-- THE TIED CARD OF 'campanilelaw08.BusCuts'. -/
def busCutsCard : Claim7 := { stood := { row := busCutsRow, standIns := [], harness := (true, "d292010fb8955719e9fd6dd8dca2826fbfaa0b4130d23ef4982605736c33db0f"), looks := false }, kinds := [], alts := [], laidByText := true, laidKinds := [.data, .pinned], laidTests := true, laidLooks := .later }
def BusCutsCardSaid : Prop := Claim7.holds Tryz.pinned (.plain (OpenSpec.ofChange busCutsSpec)) busCutsCard

/-- THE TIED CARD OF 'campanilelaw08.BusAlone'. -/
def busAloneCard : Claim7 := { stood := { row := busAloneRow, standIns := [], harness := (true, "d292010fb8955719e9fd6dd8dca2826fbfaa0b4130d23ef4982605736c33db0f"), looks := false }, kinds := [], alts := [], laidByText := true, laidKinds := [.data, .pinned], laidTests := true, laidLooks := .later }
def BusAloneCardSaid : Prop := Claim7.holds Tryz.pinned (.plain (OpenSpec.ofChange busAloneSpec)) busAloneCard

/-- THE TIED CARD OF 'campanilelaw08.BusWild'. -/
def busWildCard : Claim7 := { stood := { row := busWildRow, standIns := [], harness := (true, "d292010fb8955719e9fd6dd8dca2826fbfaa0b4130d23ef4982605736c33db0f"), looks := false }, kinds := [], alts := [], laidByText := true, laidKinds := [.data, .pinned], laidTests := true, laidLooks := .later }
def BusWildCardSaid : Prop := Claim7.holds Tryz.pinned (.plain (OpenSpec.ofChange busWildSpec)) busWildCard

/-- THE SECOND FORM's CARD OF 'campanilelaw08.BusOrder'. -/
def busOrderUptoCard : Claim7 := { stood := { row := busOrderUptoRow, standIns := [], harness := (true, "d292010fb8955719e9fd6dd8dca2826fbfaa0b4130d23ef4982605736c33db0f"), looks := false }, kinds := [], alts := [], laidByText := true, laidKinds := [.data, .pinned], laidTests := true, laidLooks := .later }
def BusOrderUptoCardSaid : Prop := Claim7.holds Tryz.pinned (.plain (OpenSpec.upto busOrderSpec)) busOrderUptoCard

/-- THE SECOND FORM's CARD OF 'campanilelaw08.BusCuts'. -/
def busCutsUptoCard : Claim7 := { stood := { row := busCutsUptoRow, standIns := [], harness := (true, "d292010fb8955719e9fd6dd8dca2826fbfaa0b4130d23ef4982605736c33db0f"), looks := false }, kinds := [], alts := [], laidByText := true, laidKinds := [.data, .pinned], laidTests := true, laidLooks := .later }
def BusCutsUptoCardSaid : Prop := Claim7.holds Tryz.pinned (.plain (OpenSpec.upto busCutsSpec)) busCutsUptoCard

/-- THE SECOND FORM's CARD OF 'campanilelaw08.BusAlone'. -/
def busAloneUptoCard : Claim7 := { stood := { row := busAloneUptoRow, standIns := [], harness := (true, "d292010fb8955719e9fd6dd8dca2826fbfaa0b4130d23ef4982605736c33db0f"), looks := false }, kinds := [], alts := [], laidByText := true, laidKinds := [.data, .pinned], laidTests := true, laidLooks := .later }
def BusAloneUptoCardSaid : Prop := Claim7.holds Tryz.pinned (.plain (OpenSpec.upto busAloneSpec)) busAloneUptoCard

/-- THE SECOND FORM's CARD OF 'campanilelaw08.BusWild'. -/
def busWildUptoCard : Claim7 := { stood := { row := busWildUptoRow, standIns := [], harness := (true, "d292010fb8955719e9fd6dd8dca2826fbfaa0b4130d23ef4982605736c33db0f"), looks := false }, kinds := [], alts := [], laidByText := true, laidKinds := [.data, .pinned], laidTests := true, laidLooks := .later }
def BusWildUptoCardSaid : Prop := Claim7.holds Tryz.pinned (.plain (OpenSpec.upto busWildSpec)) busWildUptoCard
end Rows
end Go.Proofs.YtjfgapljfbkfiaaGreatDoor
