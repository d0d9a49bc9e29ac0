/-
  DERIVED. GIVEN WITH THE SEED: THE CARDS: each row of YtpagmlndgblhhaaGreatDoorRows.lean that lists a variable, with what it lists TIED to the program's text (the seventh form; the later family's looks); each row that meets fmt, with fmt's text TOLD by the authors' own Lean function (tested against real Go, not proved from fmt's source: count such statements apart). THE CARD IS WHAT COUNTS. Prove the row's statement (the work); the ties are given (YtpagmlndgblhhaaGreatDoorTie.lean); close each card by the builder's one call (the guide's Derived/Test/ToyasCard.lean, 'card_holds'). Laid BY PROGRAM, IN A SANDBOX (cutbox-door.mjs). By AI agents, Wed Nov 11 2026. No macro, syntax, notation, axiom, sorry.
-/
import Derived.Test.YtpagmlndgblhhaaGreatDoorRows
import GoSem.ClaimSeven
namespace Go.Proofs.YtpagmlndgblhhaaGreatDoor
namespace Rows

/-- THE TIED CARD OF 'foliottop.WholeReplayed'. -/
def wholeReplayedCard : Claim7 := { stood := { row := wholeReplayedRow, standIns := [], harness := (true, "3d8ff7650082b3faf2ded0a449116659a1b996fa17b6f66355cf5c9deaf4724b"), looks := true }, kinds := [], alts := [], laidByText := true, laidKinds := [.data, .data, .data, .data, .sentinel, .sentinel, .pinned], laidTests := true, laidLooks := .later }
def WholeReplayedCardSaid : Prop := Claim7.holds Tryz.pinned (.plain (OpenSpec.ofChange wholeReplayedSpec)) wholeReplayedCard

/-- THE TIED CARD OF 'foliotlaw15.ReplayAgree'. -/
def replayAgreeCard : Claim7 := { stood := { row := replayAgreeRow, standIns := [], harness := (true, "3d8ff7650082b3faf2ded0a449116659a1b996fa17b6f66355cf5c9deaf4724b"), looks := true }, kinds := [], alts := [], laidByText := true, laidKinds := [.data, .data, .data, .data, .sentinel, .sentinel, .pinned], laidTests := true, laidLooks := .later }
def ReplayAgreeCardSaid : Prop := Claim7.holds Tryz.pinned (.plain (OpenSpec.ofChange replayAgreeSpec)) replayAgreeCard

/-- THE TIED CARD OF 'foliotlaw15.ReplayTells'. -/
def replayTellsCard : Claim7 := { stood := { row := replayTellsRow, standIns := [], harness := (true, "3d8ff7650082b3faf2ded0a449116659a1b996fa17b6f66355cf5c9deaf4724b"), looks := true }, kinds := [], alts := [], laidByText := true, laidKinds := [.data, .data, .data, .data, .sentinel, .sentinel, .pinned], laidTests := true, laidLooks := .later }
def ReplayTellsCardSaid : Prop := Claim7.holds Tryz.pinned (.plain (OpenSpec.ofChange replayTellsSpec)) replayTellsCard

/-- THE TIED CARD OF 'foliotlaw15.ReplayRefuses'. -/
def replayRefusesCard : Claim7 := { stood := { row := replayRefusesRow, standIns := [], harness := (true, "3d8ff7650082b3faf2ded0a449116659a1b996fa17b6f66355cf5c9deaf4724b"), looks := true }, kinds := [], alts := [], laidByText := true, laidKinds := [.data, .data, .data, .data, .sentinel, .sentinel, .pinned], laidTests := true, laidLooks := .later }
def ReplayRefusesCardSaid : Prop := Claim7.holds Tryz.pinned (.plain (OpenSpec.ofChange replayRefusesSpec)) replayRefusesCard

/-- THE TIED CARD OF 'foliotlaw27.ModelWhole'. -/
def modelWholeCard : Claim7 := { stood := { row := modelWholeRow, standIns := [], harness := (true, "3d8ff7650082b3faf2ded0a449116659a1b996fa17b6f66355cf5c9deaf4724b"), looks := true }, kinds := [], alts := [], laidByText := true, laidKinds := [.data, .data, .data, .data, .sentinel, .sentinel, .pinned], laidTests := true, laidLooks := .later }
def ModelWholeCardSaid : Prop := Claim7.holds Tryz.pinned (.plain (OpenSpec.ofChange modelWholeSpec)) modelWholeCard

/-- THE TIED CARD OF 'foliotlaw27.ModelTells'. -/
def modelTellsCard : Claim7 := { stood := { row := modelTellsRow, standIns := [], harness := (true, "3d8ff7650082b3faf2ded0a449116659a1b996fa17b6f66355cf5c9deaf4724b"), looks := true }, kinds := [], alts := [], laidByText := true, laidKinds := [.data, .data, .data, .data, .sentinel, .sentinel, .pinned], laidTests := true, laidLooks := .later }
def ModelTellsCardSaid : Prop := Claim7.holds Tryz.pinned (.plain (OpenSpec.ofChange modelTellsSpec)) modelTellsCard

/-- THE TIED CARD OF 'foliotlaw15.ReplayPieces'. -/
def replayPiecesCard : Claim7 := { stood := { row := replayPiecesRow, standIns := [], harness := (true, "3d8ff7650082b3faf2ded0a449116659a1b996fa17b6f66355cf5c9deaf4724b"), looks := true }, kinds := [], alts := [], laidByText := true, laidKinds := [.data, .data, .data, .data, .sentinel, .sentinel, .pinned], laidTests := true, laidLooks := .later }
def ReplayPiecesCardSaid : Prop := Claim7.holds Tryz.pinned (.plain (OpenSpec.ofChange replayPiecesSpec)) replayPiecesCard

/-- THE SECOND FORM's CARD OF 'foliottop.WholeReplayed'. -/
def wholeReplayedUptoCard : Claim7 := { stood := { row := wholeReplayedUptoRow, standIns := [], harness := (true, "3d8ff7650082b3faf2ded0a449116659a1b996fa17b6f66355cf5c9deaf4724b"), looks := true }, kinds := [], alts := [], laidByText := true, laidKinds := [.data, .data, .data, .data, .sentinel, .sentinel, .pinned], laidTests := true, laidLooks := .later }
def WholeReplayedUptoCardSaid : Prop := Claim7.holds Tryz.pinned (.plain (OpenSpec.upto wholeReplayedSpec)) wholeReplayedUptoCard

/-- THE SECOND FORM's CARD OF 'foliotlaw15.ReplayAgree'. -/
def replayAgreeUptoCard : Claim7 := { stood := { row := replayAgreeUptoRow, standIns := [], harness := (true, "3d8ff7650082b3faf2ded0a449116659a1b996fa17b6f66355cf5c9deaf4724b"), looks := true }, kinds := [], alts := [], laidByText := true, laidKinds := [.data, .data, .data, .data, .sentinel, .sentinel, .pinned], laidTests := true, laidLooks := .later }
def ReplayAgreeUptoCardSaid : Prop := Claim7.holds Tryz.pinned (.plain (OpenSpec.upto replayAgreeSpec)) replayAgreeUptoCard

/-- THE SECOND FORM's CARD OF 'foliotlaw15.ReplayTells'. -/
def replayTellsUptoCard : Claim7 := { stood := { row := replayTellsUptoRow, standIns := [], harness := (true, "3d8ff7650082b3faf2ded0a449116659a1b996fa17b6f66355cf5c9deaf4724b"), looks := true }, kinds := [], alts := [], laidByText := true, laidKinds := [.data, .data, .data, .data, .sentinel, .sentinel, .pinned], laidTests := true, laidLooks := .later }
def ReplayTellsUptoCardSaid : Prop := Claim7.holds Tryz.pinned (.plain (OpenSpec.upto replayTellsSpec)) replayTellsUptoCard

/-- THE SECOND FORM's CARD OF 'foliotlaw15.ReplayRefuses'. -/
def replayRefusesUptoCard : Claim7 := { stood := { row := replayRefusesUptoRow, standIns := [], harness := (true, "3d8ff7650082b3faf2ded0a449116659a1b996fa17b6f66355cf5c9deaf4724b"), looks := true }, kinds := [], alts := [], laidByText := true, laidKinds := [.data, .data, .data, .data, .sentinel, .sentinel, .pinned], laidTests := true, laidLooks := .later }
def ReplayRefusesUptoCardSaid : Prop := Claim7.holds Tryz.pinned (.plain (OpenSpec.upto replayRefusesSpec)) replayRefusesUptoCard

/-- THE SECOND FORM's CARD OF 'foliotlaw27.ModelWhole'. -/
def modelWholeUptoCard : Claim7 := { stood := { row := modelWholeUptoRow, standIns := [], harness := (true, "3d8ff7650082b3faf2ded0a449116659a1b996fa17b6f66355cf5c9deaf4724b"), looks := true }, kinds := [], alts := [], laidByText := true, laidKinds := [.data, .data, .data, .data, .sentinel, .sentinel, .pinned], laidTests := true, laidLooks := .later }
def ModelWholeUptoCardSaid : Prop := Claim7.holds Tryz.pinned (.plain (OpenSpec.upto modelWholeSpec)) modelWholeUptoCard

/-- THE SECOND FORM's CARD OF 'foliotlaw27.ModelTells'. -/
def modelTellsUptoCard : Claim7 := { stood := { row := modelTellsUptoRow, standIns := [], harness := (true, "3d8ff7650082b3faf2ded0a449116659a1b996fa17b6f66355cf5c9deaf4724b"), looks := true }, kinds := [], alts := [], laidByText := true, laidKinds := [.data, .data, .data, .data, .sentinel, .sentinel, .pinned], laidTests := true, laidLooks := .later }
def ModelTellsUptoCardSaid : Prop := Claim7.holds Tryz.pinned (.plain (OpenSpec.upto modelTellsSpec)) modelTellsUptoCard

/-- THE SECOND FORM's CARD OF 'foliotlaw15.ReplayPieces'. -/
def replayPiecesUptoCard : Claim7 := { stood := { row := replayPiecesUptoRow, standIns := [], harness := (true, "3d8ff7650082b3faf2ded0a449116659a1b996fa17b6f66355cf5c9deaf4724b"), looks := true }, kinds := [], alts := [], laidByText := true, laidKinds := [.data, .data, .data, .data, .sentinel, .sentinel, .pinned], laidTests := true, laidLooks := .later }
def ReplayPiecesUptoCardSaid : Prop := Claim7.holds Tryz.pinned (.plain (OpenSpec.upto replayPiecesSpec)) replayPiecesUptoCard
end Rows
end Go.Proofs.YtpagmlndgblhhaaGreatDoor
