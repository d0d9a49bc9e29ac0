/-
  DERIVED. GIVEN WITH THE SEED: THE CARDS: each row of YtielnengimninaaGreatDoorRows.lean that lists a variable, with what it lists TIED to the program's text (the seventh form; the later family's looks); each row that meets fmt, with fmt's text TOLD by the authors' own Lean function (tested against real Go, not proved from fmt's source: count such statements apart). THE CARD IS WHAT COUNTS. Prove the row's statement (the work); the ties are given (YtielnengimninaaGreatDoorTie.lean); close each card by the builder's one call (the guide's Derived/Test/ToyasCard.lean, 'card_holds'). Laid BY PROGRAM, IN A SANDBOX (cutbox-door.mjs). By AI agents, Wed Nov 11 2026. No macro, syntax, notation, axiom, sorry.
-/
import Derived.Test.YtielnengimninaaGreatDoorRows
import GoSem.ClaimSeven
namespace Go.Proofs.YtielnengimninaaGreatDoor
namespace Rows

/-- THE TIED CARD OF 'foliotlaw13.VerifyChecks'. -/
def verifyChecksCard : Claim7 := { stood := { row := verifyChecksRow, standIns := [], harness := (true, "3e53306e556784995c8a401c2c19225fbc56db8d9face94b79976da82ce07840"), looks := true }, kinds := [], alts := [], laidByText := true, laidKinds := [.data, .data, .data, .data, .sentinel, .sentinel, .pinned], laidTests := true, laidLooks := .later }
def VerifyChecksCardSaid : Prop := Claim7.holds Tryz.pinned (.plain (OpenSpec.ofChange verifyChecksSpec)) verifyChecksCard

/-- THE TIED CARD OF 'foliotlaw13.VerifyWalks'. -/
def verifyWalksCard : Claim7 := { stood := { row := verifyWalksRow, standIns := [], harness := (true, "3e53306e556784995c8a401c2c19225fbc56db8d9face94b79976da82ce07840"), looks := true }, kinds := [], alts := [], laidByText := true, laidKinds := [.data, .data, .data, .data, .sentinel, .sentinel, .pinned], laidTests := true, laidLooks := .later }
def VerifyWalksCardSaid : Prop := Claim7.holds Tryz.pinned (.plain (OpenSpec.ofChange verifyWalksSpec)) verifyWalksCard

/-- THE TIED CARD OF 'foliotlaw13.VerifyStack'. -/
def verifyStackCard : Claim7 := { stood := { row := verifyStackRow, standIns := [], harness := (true, "3e53306e556784995c8a401c2c19225fbc56db8d9face94b79976da82ce07840"), looks := true }, kinds := [], alts := [], laidByText := true, laidKinds := [.data, .data, .data, .data, .sentinel, .sentinel, .pinned], laidTests := true, laidLooks := .later }
def VerifyStackCardSaid : Prop := Claim7.holds Tryz.pinned (.plain (OpenSpec.ofChange verifyStackSpec)) verifyStackCard

/-- THE TIED CARD OF 'foliotlaw13.VerifyEnds'. -/
def verifyEndsCard : Claim7 := { stood := { row := verifyEndsRow, standIns := [], harness := (true, "3e53306e556784995c8a401c2c19225fbc56db8d9face94b79976da82ce07840"), looks := true }, kinds := [], alts := [], laidByText := true, laidKinds := [.data, .data, .data, .data, .sentinel, .sentinel, .pinned], laidTests := true, laidLooks := .later }
def VerifyEndsCardSaid : Prop := Claim7.holds Tryz.pinned (.plain (OpenSpec.ofChange verifyEndsSpec)) verifyEndsCard

/-- THE TIED CARD OF 'foliotlaw13.VerifyLoops'. -/
def verifyLoopsCard : Claim7 := { stood := { row := verifyLoopsRow, standIns := [], harness := (true, "3e53306e556784995c8a401c2c19225fbc56db8d9face94b79976da82ce07840"), looks := true }, kinds := [], alts := [], laidByText := true, laidKinds := [.data, .data, .data, .data, .sentinel, .sentinel, .pinned], laidTests := true, laidLooks := .later }
def VerifyLoopsCardSaid : Prop := Claim7.holds Tryz.pinned (.plain (OpenSpec.ofChange verifyLoopsSpec)) verifyLoopsCard

/-- THE TIED CARD OF 'foliotlaw12.AsmPrints'. -/
def asmPrintsCard : Claim7 := { stood := { row := asmPrintsRow, standIns := [], harness := (true, "3e53306e556784995c8a401c2c19225fbc56db8d9face94b79976da82ce07840"), looks := true }, kinds := [], alts := [], laidByText := true, laidKinds := [.data, .data, .data, .data, .sentinel, .sentinel, .pinned], laidTests := true, laidLooks := .later }
def AsmPrintsCardSaid : Prop := Claim7.holds Tryz.pinned (.plain (OpenSpec.ofChange asmPrintsSpec)) asmPrintsCard

/-- THE TIED CARD OF 'foliotlaw12.AsmTidies'. -/
def asmTidiesCard : Claim7 := { stood := { row := asmTidiesRow, standIns := [], harness := (true, "3e53306e556784995c8a401c2c19225fbc56db8d9face94b79976da82ce07840"), looks := true }, kinds := [], alts := [], laidByText := true, laidKinds := [.data, .data, .data, .data, .sentinel, .sentinel, .pinned], laidTests := true, laidLooks := .later }
def AsmTidiesCardSaid : Prop := Claim7.holds Tryz.pinned (.plain (OpenSpec.ofChange asmTidiesSpec)) asmTidiesCard

/-- THE TIED CARD OF 'foliotlaw12.AsmParses'. -/
def asmParsesCard : Claim7 := { stood := { row := asmParsesRow, standIns := [], harness := (true, "3e53306e556784995c8a401c2c19225fbc56db8d9face94b79976da82ce07840"), looks := true }, kinds := [], alts := [], laidByText := true, laidKinds := [.data, .data, .data, .data, .sentinel, .sentinel, .pinned], laidTests := true, laidLooks := .later }
def AsmParsesCardSaid : Prop := Claim7.holds Tryz.pinned (.plain (OpenSpec.ofChange asmParsesSpec)) asmParsesCard

/-- THE TIED CARD OF 'foliotlaw12.AsmWhole'. -/
def asmWholeCard : Claim7 := { stood := { row := asmWholeRow, standIns := [], harness := (true, "3e53306e556784995c8a401c2c19225fbc56db8d9face94b79976da82ce07840"), looks := true }, kinds := [], alts := [], laidByText := true, laidKinds := [.data, .data, .data, .data, .sentinel, .sentinel, .pinned], laidTests := true, laidLooks := .later }
def AsmWholeCardSaid : Prop := Claim7.holds Tryz.pinned (.plain (OpenSpec.ofChange asmWholeSpec)) asmWholeCard

/-- THE TIED CARD OF 'foliotlaw12.AsmLabels'. -/
def asmLabelsCard : Claim7 := { stood := { row := asmLabelsRow, standIns := [], harness := (true, "3e53306e556784995c8a401c2c19225fbc56db8d9face94b79976da82ce07840"), looks := true }, kinds := [], alts := [], laidByText := true, laidKinds := [.data, .data, .data, .data, .sentinel, .sentinel, .pinned], laidTests := true, laidLooks := .later }
def AsmLabelsCardSaid : Prop := Claim7.holds Tryz.pinned (.plain (OpenSpec.ofChange asmLabelsSpec)) asmLabelsCard

/-- THE SECOND FORM's CARD OF 'foliotlaw13.VerifyChecks'. -/
def verifyChecksUptoCard : Claim7 := { stood := { row := verifyChecksUptoRow, standIns := [], harness := (true, "3e53306e556784995c8a401c2c19225fbc56db8d9face94b79976da82ce07840"), looks := true }, kinds := [], alts := [], laidByText := true, laidKinds := [.data, .data, .data, .data, .sentinel, .sentinel, .pinned], laidTests := true, laidLooks := .later }
def VerifyChecksUptoCardSaid : Prop := Claim7.holds Tryz.pinned (.plain (OpenSpec.upto verifyChecksSpec)) verifyChecksUptoCard

/-- THE SECOND FORM's CARD OF 'foliotlaw13.VerifyWalks'. -/
def verifyWalksUptoCard : Claim7 := { stood := { row := verifyWalksUptoRow, standIns := [], harness := (true, "3e53306e556784995c8a401c2c19225fbc56db8d9face94b79976da82ce07840"), looks := true }, kinds := [], alts := [], laidByText := true, laidKinds := [.data, .data, .data, .data, .sentinel, .sentinel, .pinned], laidTests := true, laidLooks := .later }
def VerifyWalksUptoCardSaid : Prop := Claim7.holds Tryz.pinned (.plain (OpenSpec.upto verifyWalksSpec)) verifyWalksUptoCard

/-- THE SECOND FORM's CARD OF 'foliotlaw13.VerifyStack'. -/
def verifyStackUptoCard : Claim7 := { stood := { row := verifyStackUptoRow, standIns := [], harness := (true, "3e53306e556784995c8a401c2c19225fbc56db8d9face94b79976da82ce07840"), looks := true }, kinds := [], alts := [], laidByText := true, laidKinds := [.data, .data, .data, .data, .sentinel, .sentinel, .pinned], laidTests := true, laidLooks := .later }
def VerifyStackUptoCardSaid : Prop := Claim7.holds Tryz.pinned (.plain (OpenSpec.upto verifyStackSpec)) verifyStackUptoCard

/-- THE SECOND FORM's CARD OF 'foliotlaw13.VerifyEnds'. -/
def verifyEndsUptoCard : Claim7 := { stood := { row := verifyEndsUptoRow, standIns := [], harness := (true, "3e53306e556784995c8a401c2c19225fbc56db8d9face94b79976da82ce07840"), looks := true }, kinds := [], alts := [], laidByText := true, laidKinds := [.data, .data, .data, .data, .sentinel, .sentinel, .pinned], laidTests := true, laidLooks := .later }
def VerifyEndsUptoCardSaid : Prop := Claim7.holds Tryz.pinned (.plain (OpenSpec.upto verifyEndsSpec)) verifyEndsUptoCard

/-- THE SECOND FORM's CARD OF 'foliotlaw13.VerifyLoops'. -/
def verifyLoopsUptoCard : Claim7 := { stood := { row := verifyLoopsUptoRow, standIns := [], harness := (true, "3e53306e556784995c8a401c2c19225fbc56db8d9face94b79976da82ce07840"), looks := true }, kinds := [], alts := [], laidByText := true, laidKinds := [.data, .data, .data, .data, .sentinel, .sentinel, .pinned], laidTests := true, laidLooks := .later }
def VerifyLoopsUptoCardSaid : Prop := Claim7.holds Tryz.pinned (.plain (OpenSpec.upto verifyLoopsSpec)) verifyLoopsUptoCard

/-- THE SECOND FORM's CARD OF 'foliotlaw12.AsmPrints'. -/
def asmPrintsUptoCard : Claim7 := { stood := { row := asmPrintsUptoRow, standIns := [], harness := (true, "3e53306e556784995c8a401c2c19225fbc56db8d9face94b79976da82ce07840"), looks := true }, kinds := [], alts := [], laidByText := true, laidKinds := [.data, .data, .data, .data, .sentinel, .sentinel, .pinned], laidTests := true, laidLooks := .later }
def AsmPrintsUptoCardSaid : Prop := Claim7.holds Tryz.pinned (.plain (OpenSpec.upto asmPrintsSpec)) asmPrintsUptoCard

/-- THE SECOND FORM's CARD OF 'foliotlaw12.AsmTidies'. -/
def asmTidiesUptoCard : Claim7 := { stood := { row := asmTidiesUptoRow, standIns := [], harness := (true, "3e53306e556784995c8a401c2c19225fbc56db8d9face94b79976da82ce07840"), looks := true }, kinds := [], alts := [], laidByText := true, laidKinds := [.data, .data, .data, .data, .sentinel, .sentinel, .pinned], laidTests := true, laidLooks := .later }
def AsmTidiesUptoCardSaid : Prop := Claim7.holds Tryz.pinned (.plain (OpenSpec.upto asmTidiesSpec)) asmTidiesUptoCard

/-- THE SECOND FORM's CARD OF 'foliotlaw12.AsmParses'. -/
def asmParsesUptoCard : Claim7 := { stood := { row := asmParsesUptoRow, standIns := [], harness := (true, "3e53306e556784995c8a401c2c19225fbc56db8d9face94b79976da82ce07840"), looks := true }, kinds := [], alts := [], laidByText := true, laidKinds := [.data, .data, .data, .data, .sentinel, .sentinel, .pinned], laidTests := true, laidLooks := .later }
def AsmParsesUptoCardSaid : Prop := Claim7.holds Tryz.pinned (.plain (OpenSpec.upto asmParsesSpec)) asmParsesUptoCard

/-- THE SECOND FORM's CARD OF 'foliotlaw12.AsmWhole'. -/
def asmWholeUptoCard : Claim7 := { stood := { row := asmWholeUptoRow, standIns := [], harness := (true, "3e53306e556784995c8a401c2c19225fbc56db8d9face94b79976da82ce07840"), looks := true }, kinds := [], alts := [], laidByText := true, laidKinds := [.data, .data, .data, .data, .sentinel, .sentinel, .pinned], laidTests := true, laidLooks := .later }
def AsmWholeUptoCardSaid : Prop := Claim7.holds Tryz.pinned (.plain (OpenSpec.upto asmWholeSpec)) asmWholeUptoCard

/-- THE SECOND FORM's CARD OF 'foliotlaw12.AsmLabels'. -/
def asmLabelsUptoCard : Claim7 := { stood := { row := asmLabelsUptoRow, standIns := [], harness := (true, "3e53306e556784995c8a401c2c19225fbc56db8d9face94b79976da82ce07840"), looks := true }, kinds := [], alts := [], laidByText := true, laidKinds := [.data, .data, .data, .data, .sentinel, .sentinel, .pinned], laidTests := true, laidLooks := .later }
def AsmLabelsUptoCardSaid : Prop := Claim7.holds Tryz.pinned (.plain (OpenSpec.upto asmLabelsSpec)) asmLabelsUptoCard
end Rows
end Go.Proofs.YtielnengimninaaGreatDoor
