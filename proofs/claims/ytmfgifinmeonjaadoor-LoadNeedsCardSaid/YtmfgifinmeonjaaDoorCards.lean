/-
  DERIVED. GIVEN WITH THE SEED: THE CARDS: each row of YtmfgifinmeonjaaDoorRows.lean that lists a variable, with what it lists TIED to the program's text (the seventh form; the later family's looks); each row that meets fmt, with fmt's text TOLD by the authors' own Lean function (tested against real Go, not proved from fmt's source: count such statements apart). THE CARD IS WHAT COUNTS. Prove the row's statement (the work); the ties are given (YtmfgifinmeonjaaDoorTie.lean); close each card by the builder's one call (the guide's Derived/Test/ToyasCard.lean, 'card_holds'). Laid BY PROGRAM, IN A SANDBOX (cutbox-door.mjs). By AI agents, Wed Nov 11 2026. No macro, syntax, notation, axiom, sorry.
-/
import Derived.Test.YtmfgifinmeonjaaDoorRows
import GoSem.ClaimSeven
namespace Go.Proofs.YtmfgifinmeonjaaDoor
namespace Rows

/-- THE TIED CARD OF 'campanilelaw04.FrameBits'. -/
def frameBitsCard : Claim7 := { stood := { row := frameBitsRow, standIns := [], harness := (true, "f3411a2ec3917b0eac5c21af7e46ae930f455f6ca1aeb3f0d97c0b4cd74c3d45"), looks := false }, kinds := [], alts := [], laidByText := true, laidKinds := [.data, .pinned], laidTests := true, laidLooks := .later }
def FrameBitsCardSaid : Prop := Claim7.holds Tryd.pinned (.plain (OpenSpec.ofChange frameBitsSpec)) frameBitsCard

/-- THE TIED CARD OF 'campanilelaw22.LoadWorst'. -/
def loadWorstCard : Claim7 := { stood := { row := loadWorstRow, standIns := [], harness := (true, "f3411a2ec3917b0eac5c21af7e46ae930f455f6ca1aeb3f0d97c0b4cd74c3d45"), looks := false }, kinds := [], alts := [], laidByText := true, laidKinds := [.data, .pinned], laidTests := true, laidLooks := .later }
def LoadWorstCardSaid : Prop := Claim7.holds Tryd.pinned (.plain (OpenSpec.ofChange loadWorstSpec)) loadWorstCard

/-- THE TIED CARD OF 'campanilelaw22.LoadNeeds'. -/
def loadNeedsCard : Claim7 := { stood := { row := loadNeedsRow, standIns := [], harness := (true, "f3411a2ec3917b0eac5c21af7e46ae930f455f6ca1aeb3f0d97c0b4cd74c3d45"), looks := false }, kinds := [], alts := [], laidByText := true, laidKinds := [.data, .pinned], laidTests := true, laidLooks := .later }
def LoadNeedsCardSaid : Prop := Claim7.holds Tryd.pinned (.plain (OpenSpec.ofChange loadNeedsSpec)) loadNeedsCard

/-- THE TIED CARD OF 'campanilelaw04.FrameReads'. -/
def frameReadsCard : Claim7 := { stood := { row := frameReadsRow, standIns := [], harness := (true, "f3411a2ec3917b0eac5c21af7e46ae930f455f6ca1aeb3f0d97c0b4cd74c3d45"), looks := false }, kinds := [], alts := [], laidByText := true, laidKinds := [.data, .pinned], laidTests := true, laidLooks := .later }
def FrameReadsCardSaid : Prop := Claim7.holds Tryd.pinned (.plain (OpenSpec.ofChange frameReadsSpec)) frameReadsCard

/-- THE TIED CARD OF 'campanilelaw04.FrameBack'. -/
def frameBackCard : Claim7 := { stood := { row := frameBackRow, standIns := [], harness := (true, "f3411a2ec3917b0eac5c21af7e46ae930f455f6ca1aeb3f0d97c0b4cd74c3d45"), looks := false }, kinds := [], alts := [], laidByText := true, laidKinds := [.data, .pinned], laidTests := true, laidLooks := .later }
def FrameBackCardSaid : Prop := Claim7.holds Tryd.pinned (.plain (OpenSpec.ofChange frameBackSpec)) frameBackCard

/-- THE TIED CARD OF 'campanilelaw04.FrameBreaks'. -/
def frameBreaksCard : Claim7 := { stood := { row := frameBreaksRow, standIns := [], harness := (true, "f3411a2ec3917b0eac5c21af7e46ae930f455f6ca1aeb3f0d97c0b4cd74c3d45"), looks := false }, kinds := [], alts := [], laidByText := true, laidKinds := [.data, .pinned], laidTests := true, laidLooks := .later }
def FrameBreaksCardSaid : Prop := Claim7.holds Tryd.pinned (.plain (OpenSpec.ofChange frameBreaksSpec)) frameBreaksCard

/-- THE TIED CARD OF 'campanilelaw04.FrameTurned'. -/
def frameTurnedCard : Claim7 := { stood := { row := frameTurnedRow, standIns := [], harness := (true, "f3411a2ec3917b0eac5c21af7e46ae930f455f6ca1aeb3f0d97c0b4cd74c3d45"), looks := false }, kinds := [], alts := [], laidByText := true, laidKinds := [.data, .pinned], laidTests := true, laidLooks := .later }
def FrameTurnedCardSaid : Prop := Claim7.holds Tryd.pinned (.plain (OpenSpec.ofChange frameTurnedSpec)) frameTurnedCard

/-- THE SECOND FORM's CARD OF 'campanilelaw04.FrameBits'. -/
def frameBitsUptoCard : Claim7 := { stood := { row := frameBitsUptoRow, standIns := [], harness := (true, "f3411a2ec3917b0eac5c21af7e46ae930f455f6ca1aeb3f0d97c0b4cd74c3d45"), looks := false }, kinds := [], alts := [], laidByText := true, laidKinds := [.data, .pinned], laidTests := true, laidLooks := .later }
def FrameBitsUptoCardSaid : Prop := Claim7.holds Tryd.pinned (.plain (OpenSpec.upto frameBitsSpec)) frameBitsUptoCard

/-- THE SECOND FORM's CARD OF 'campanilelaw22.LoadWorst'. -/
def loadWorstUptoCard : Claim7 := { stood := { row := loadWorstUptoRow, standIns := [], harness := (true, "f3411a2ec3917b0eac5c21af7e46ae930f455f6ca1aeb3f0d97c0b4cd74c3d45"), looks := false }, kinds := [], alts := [], laidByText := true, laidKinds := [.data, .pinned], laidTests := true, laidLooks := .later }
def LoadWorstUptoCardSaid : Prop := Claim7.holds Tryd.pinned (.plain (OpenSpec.upto loadWorstSpec)) loadWorstUptoCard

/-- THE SECOND FORM's CARD OF 'campanilelaw22.LoadNeeds'. -/
def loadNeedsUptoCard : Claim7 := { stood := { row := loadNeedsUptoRow, standIns := [], harness := (true, "f3411a2ec3917b0eac5c21af7e46ae930f455f6ca1aeb3f0d97c0b4cd74c3d45"), looks := false }, kinds := [], alts := [], laidByText := true, laidKinds := [.data, .pinned], laidTests := true, laidLooks := .later }
def LoadNeedsUptoCardSaid : Prop := Claim7.holds Tryd.pinned (.plain (OpenSpec.upto loadNeedsSpec)) loadNeedsUptoCard

/-- THE SECOND FORM's CARD OF 'campanilelaw04.FrameReads'. -/
def frameReadsUptoCard : Claim7 := { stood := { row := frameReadsUptoRow, standIns := [], harness := (true, "f3411a2ec3917b0eac5c21af7e46ae930f455f6ca1aeb3f0d97c0b4cd74c3d45"), looks := false }, kinds := [], alts := [], laidByText := true, laidKinds := [.data, .pinned], laidTests := true, laidLooks := .later }
def FrameReadsUptoCardSaid : Prop := Claim7.holds Tryd.pinned (.plain (OpenSpec.upto frameReadsSpec)) frameReadsUptoCard

/-- THE SECOND FORM's CARD OF 'campanilelaw04.FrameBack'. -/
def frameBackUptoCard : Claim7 := { stood := { row := frameBackUptoRow, standIns := [], harness := (true, "f3411a2ec3917b0eac5c21af7e46ae930f455f6ca1aeb3f0d97c0b4cd74c3d45"), looks := false }, kinds := [], alts := [], laidByText := true, laidKinds := [.data, .pinned], laidTests := true, laidLooks := .later }
def FrameBackUptoCardSaid : Prop := Claim7.holds Tryd.pinned (.plain (OpenSpec.upto frameBackSpec)) frameBackUptoCard

/-- THE SECOND FORM's CARD OF 'campanilelaw04.FrameBreaks'. -/
def frameBreaksUptoCard : Claim7 := { stood := { row := frameBreaksUptoRow, standIns := [], harness := (true, "f3411a2ec3917b0eac5c21af7e46ae930f455f6ca1aeb3f0d97c0b4cd74c3d45"), looks := false }, kinds := [], alts := [], laidByText := true, laidKinds := [.data, .pinned], laidTests := true, laidLooks := .later }
def FrameBreaksUptoCardSaid : Prop := Claim7.holds Tryd.pinned (.plain (OpenSpec.upto frameBreaksSpec)) frameBreaksUptoCard

/-- THE SECOND FORM's CARD OF 'campanilelaw04.FrameTurned'. -/
def frameTurnedUptoCard : Claim7 := { stood := { row := frameTurnedUptoRow, standIns := [], harness := (true, "f3411a2ec3917b0eac5c21af7e46ae930f455f6ca1aeb3f0d97c0b4cd74c3d45"), looks := false }, kinds := [], alts := [], laidByText := true, laidKinds := [.data, .pinned], laidTests := true, laidLooks := .later }
def FrameTurnedUptoCardSaid : Prop := Claim7.holds Tryd.pinned (.plain (OpenSpec.upto frameTurnedSpec)) frameTurnedUptoCard
end Rows
end Go.Proofs.YtmfgifinmeonjaaDoor
