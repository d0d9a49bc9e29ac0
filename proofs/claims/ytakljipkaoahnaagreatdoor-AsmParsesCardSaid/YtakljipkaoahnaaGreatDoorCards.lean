/-
  DERIVED. GIVEN WITH THE SEED: THE CARDS: each row of YtakljipkaoahnaaGreatDoorRows.lean that lists a variable, with what it lists TIED to the program's text (the seventh form; the later family's looks); each row that meets fmt, with fmt's text TOLD by the authors' own Lean function (tested against real Go, not proved from fmt's source: count such statements apart). THE CARD IS WHAT COUNTS. Prove the row's statement (the work); the ties are given (YtakljipkaoahnaaGreatDoorTie.lean); close each card by the builder's one call (the guide's Derived/Test/ToyasCard.lean, 'card_holds'). Laid BY PROGRAM, IN A SANDBOX (cutbox-door.mjs). By AI agents, Wed Nov 11 2026. No macro, syntax, notation, axiom, sorry.
-/
import Derived.Test.YtakljipkaoahnaaGreatDoorRows
import GoSem.ClaimSeven
namespace Go.Proofs.YtakljipkaoahnaaGreatDoor
namespace Rows

/-- THE TIED CARD OF 'foliotlaw12.AsmParses'. -/
def asmParsesCard : Claim7 := { stood := { row := asmParsesRow, standIns := [], harness := (true, "40dcb24738789103b325b23e544dff8a8d3a07023493d51d14f917cc92103862"), looks := true }, kinds := [], alts := [], laidByText := true, laidKinds := [.data, .data, .data, .data, .sentinel, .sentinel, .pinned], laidTests := true, laidLooks := .later }
def AsmParsesCardSaid : Prop := Claim7.holds Tryz.pinned (.plain (OpenSpec.ofChange asmParsesSpec)) asmParsesCard

/-- THE TIED CARD OF 'foliotlaw14.MachineFuel'. -/
def machineFuelCard : Claim7 := { stood := { row := machineFuelRow, standIns := [], harness := (true, "40dcb24738789103b325b23e544dff8a8d3a07023493d51d14f917cc92103862"), looks := true }, kinds := [], alts := [], laidByText := true, laidKinds := [.data, .data, .data, .data, .sentinel, .sentinel, .pinned], laidTests := true, laidLooks := .later }
def MachineFuelCardSaid : Prop := Claim7.holds Tryz.pinned (.plain (OpenSpec.ofChange machineFuelSpec)) machineFuelCard

/-- THE TIED CARD OF 'foliotlaw14.MachineNumbers'. -/
def machineNumbersCard : Claim7 := { stood := { row := machineNumbersRow, standIns := [], harness := (true, "40dcb24738789103b325b23e544dff8a8d3a07023493d51d14f917cc92103862"), looks := true }, kinds := [], alts := [], laidByText := true, laidKinds := [.data, .data, .data, .data, .sentinel, .sentinel, .pinned], laidTests := true, laidLooks := .later }
def MachineNumbersCardSaid : Prop := Claim7.holds Tryz.pinned (.plain (OpenSpec.ofChange machineNumbersSpec)) machineNumbersCard

/-- THE TIED CARD OF 'foliotlaw14.MachineMany'. -/
def machineManyCard : Claim7 := { stood := { row := machineManyRow, standIns := [], harness := (true, "40dcb24738789103b325b23e544dff8a8d3a07023493d51d14f917cc92103862"), looks := true }, kinds := [], alts := [], laidByText := true, laidKinds := [.data, .data, .data, .data, .sentinel, .sentinel, .pinned], laidTests := true, laidLooks := .later }
def MachineManyCardSaid : Prop := Claim7.holds Tryz.pinned (.plain (OpenSpec.ofChange machineManySpec)) machineManyCard

/-- THE TIED CARD OF 'foliotlaw14.MachineOrder'. -/
def machineOrderCard : Claim7 := { stood := { row := machineOrderRow, standIns := [], harness := (true, "40dcb24738789103b325b23e544dff8a8d3a07023493d51d14f917cc92103862"), looks := true }, kinds := [], alts := [], laidByText := true, laidKinds := [.data, .data, .data, .data, .sentinel, .sentinel, .pinned], laidTests := true, laidLooks := .later }
def MachineOrderCardSaid : Prop := Claim7.holds Tryz.pinned (.plain (OpenSpec.ofChange machineOrderSpec)) machineOrderCard

/-- THE TIED CARD OF 'foliotlaw14.MachineTakes'. -/
def machineTakesCard : Claim7 := { stood := { row := machineTakesRow, standIns := [], harness := (true, "40dcb24738789103b325b23e544dff8a8d3a07023493d51d14f917cc92103862"), looks := true }, kinds := [], alts := [], laidByText := true, laidKinds := [.data, .data, .data, .data, .sentinel, .sentinel, .pinned], laidTests := true, laidLooks := .later }
def MachineTakesCardSaid : Prop := Claim7.holds Tryz.pinned (.plain (OpenSpec.ofChange machineTakesSpec)) machineTakesCard

/-- THE SECOND FORM's CARD OF 'foliotlaw12.AsmParses'. -/
def asmParsesUptoCard : Claim7 := { stood := { row := asmParsesUptoRow, standIns := [], harness := (true, "40dcb24738789103b325b23e544dff8a8d3a07023493d51d14f917cc92103862"), looks := true }, kinds := [], alts := [], laidByText := true, laidKinds := [.data, .data, .data, .data, .sentinel, .sentinel, .pinned], laidTests := true, laidLooks := .later }
def AsmParsesUptoCardSaid : Prop := Claim7.holds Tryz.pinned (.plain (OpenSpec.upto asmParsesSpec)) asmParsesUptoCard

/-- THE SECOND FORM's CARD OF 'foliotlaw14.MachineFuel'. -/
def machineFuelUptoCard : Claim7 := { stood := { row := machineFuelUptoRow, standIns := [], harness := (true, "40dcb24738789103b325b23e544dff8a8d3a07023493d51d14f917cc92103862"), looks := true }, kinds := [], alts := [], laidByText := true, laidKinds := [.data, .data, .data, .data, .sentinel, .sentinel, .pinned], laidTests := true, laidLooks := .later }
def MachineFuelUptoCardSaid : Prop := Claim7.holds Tryz.pinned (.plain (OpenSpec.upto machineFuelSpec)) machineFuelUptoCard

/-- THE SECOND FORM's CARD OF 'foliotlaw14.MachineNumbers'. -/
def machineNumbersUptoCard : Claim7 := { stood := { row := machineNumbersUptoRow, standIns := [], harness := (true, "40dcb24738789103b325b23e544dff8a8d3a07023493d51d14f917cc92103862"), looks := true }, kinds := [], alts := [], laidByText := true, laidKinds := [.data, .data, .data, .data, .sentinel, .sentinel, .pinned], laidTests := true, laidLooks := .later }
def MachineNumbersUptoCardSaid : Prop := Claim7.holds Tryz.pinned (.plain (OpenSpec.upto machineNumbersSpec)) machineNumbersUptoCard

/-- THE SECOND FORM's CARD OF 'foliotlaw14.MachineMany'. -/
def machineManyUptoCard : Claim7 := { stood := { row := machineManyUptoRow, standIns := [], harness := (true, "40dcb24738789103b325b23e544dff8a8d3a07023493d51d14f917cc92103862"), looks := true }, kinds := [], alts := [], laidByText := true, laidKinds := [.data, .data, .data, .data, .sentinel, .sentinel, .pinned], laidTests := true, laidLooks := .later }
def MachineManyUptoCardSaid : Prop := Claim7.holds Tryz.pinned (.plain (OpenSpec.upto machineManySpec)) machineManyUptoCard

/-- THE SECOND FORM's CARD OF 'foliotlaw14.MachineOrder'. -/
def machineOrderUptoCard : Claim7 := { stood := { row := machineOrderUptoRow, standIns := [], harness := (true, "40dcb24738789103b325b23e544dff8a8d3a07023493d51d14f917cc92103862"), looks := true }, kinds := [], alts := [], laidByText := true, laidKinds := [.data, .data, .data, .data, .sentinel, .sentinel, .pinned], laidTests := true, laidLooks := .later }
def MachineOrderUptoCardSaid : Prop := Claim7.holds Tryz.pinned (.plain (OpenSpec.upto machineOrderSpec)) machineOrderUptoCard

/-- THE SECOND FORM's CARD OF 'foliotlaw14.MachineTakes'. -/
def machineTakesUptoCard : Claim7 := { stood := { row := machineTakesUptoRow, standIns := [], harness := (true, "40dcb24738789103b325b23e544dff8a8d3a07023493d51d14f917cc92103862"), looks := true }, kinds := [], alts := [], laidByText := true, laidKinds := [.data, .data, .data, .data, .sentinel, .sentinel, .pinned], laidTests := true, laidLooks := .later }
def MachineTakesUptoCardSaid : Prop := Claim7.holds Tryz.pinned (.plain (OpenSpec.upto machineTakesSpec)) machineTakesUptoCard
end Rows
end Go.Proofs.YtakljipkaoahnaaGreatDoor
