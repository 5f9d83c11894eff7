/-
  DERIVED. GIVEN WITH THE SEED: THE CARDS: each row of YtlapeoboekchpaaGreatDoorRows.lean that lists a variable, with what it lists TIED to the program's text (the seventh form; the later family's looks); each row that meets fmt, with fmt's text TOLD by the authors' own Lean function (tested against real Go, not proved from fmt's source: count such statements apart). THE CARD IS WHAT COUNTS. Prove the row's statement (the work); the ties are given (YtlapeoboekchpaaGreatDoorTie.lean); close each card by the builder's one call (the guide's Derived/Test/ToyasCard.lean, 'card_holds'). Laid BY PROGRAM, IN A SANDBOX (cutbox-door.mjs). By AI agents, Wed Nov 11 2026. No macro, syntax, notation, axiom, sorry.
-/
import Derived.Test.YtlapeoboekchpaaGreatDoorRows
import GoSem.ClaimSeven
namespace Go.Proofs.YtlapeoboekchpaaGreatDoor
namespace Rows

/-- THE TIED CARD OF 'cherenkovlaw01.ClockStrings'. -/
def clockStringsCard : Claim7 := { stood := { row := clockStringsRow, standIns := [], harness := (true, "439a16d3b4e6f56cbeb4f89e3e91abea01d7b65173b5ef2912a6b34a2a0967fb"), looks := true }, kinds := [], alts := [], laidByText := true, laidKinds := [.data, .data, .data, .data, .sentinel, .sentinel, .pinned], laidTests := true, laidLooks := .later }
def ClockStringsCardSaid : Prop := Claim7.holds Tryz.pinned (.plain (OpenSpec.ofChange clockStringsSpec)) clockStringsCard

/-- THE TIED CARD OF 'cherenkovtop.TopClockNamed'. -/
def topClockNamedCard : Claim7 := { stood := { row := topClockNamedRow, standIns := [], harness := (true, "439a16d3b4e6f56cbeb4f89e3e91abea01d7b65173b5ef2912a6b34a2a0967fb"), looks := true }, kinds := [], alts := [], laidByText := true, laidKinds := [.data, .data, .data, .data, .sentinel, .sentinel, .pinned], laidTests := true, laidLooks := .later }
def TopClockNamedCardSaid : Prop := Claim7.holds Tryz.pinned (.plain (OpenSpec.ofChange topClockNamedSpec)) topClockNamedCard

/-- THE TIED CARD OF 'cherenkovtop.TopClockTruth'. -/
def topClockTruthCard : Claim7 := { stood := { row := topClockTruthRow, standIns := [], harness := (true, "439a16d3b4e6f56cbeb4f89e3e91abea01d7b65173b5ef2912a6b34a2a0967fb"), looks := true }, kinds := [], alts := [], laidByText := true, laidKinds := [.data, .data, .data, .data, .sentinel, .sentinel, .pinned], laidTests := true, laidLooks := .later }
def TopClockTruthCardSaid : Prop := Claim7.holds Tryz.pinned (.plain (OpenSpec.ofChange topClockTruthSpec)) topClockTruthCard

/-- THE SECOND FORM's CARD OF 'cherenkovlaw01.ClockStrings'. -/
def clockStringsUptoCard : Claim7 := { stood := { row := clockStringsUptoRow, standIns := [], harness := (true, "439a16d3b4e6f56cbeb4f89e3e91abea01d7b65173b5ef2912a6b34a2a0967fb"), looks := true }, kinds := [], alts := [], laidByText := true, laidKinds := [.data, .data, .data, .data, .sentinel, .sentinel, .pinned], laidTests := true, laidLooks := .later }
def ClockStringsUptoCardSaid : Prop := Claim7.holds Tryz.pinned (.plain (OpenSpec.upto clockStringsSpec)) clockStringsUptoCard

/-- THE SECOND FORM's CARD OF 'cherenkovtop.TopClockNamed'. -/
def topClockNamedUptoCard : Claim7 := { stood := { row := topClockNamedUptoRow, standIns := [], harness := (true, "439a16d3b4e6f56cbeb4f89e3e91abea01d7b65173b5ef2912a6b34a2a0967fb"), looks := true }, kinds := [], alts := [], laidByText := true, laidKinds := [.data, .data, .data, .data, .sentinel, .sentinel, .pinned], laidTests := true, laidLooks := .later }
def TopClockNamedUptoCardSaid : Prop := Claim7.holds Tryz.pinned (.plain (OpenSpec.upto topClockNamedSpec)) topClockNamedUptoCard

/-- THE SECOND FORM's CARD OF 'cherenkovtop.TopClockTruth'. -/
def topClockTruthUptoCard : Claim7 := { stood := { row := topClockTruthUptoRow, standIns := [], harness := (true, "439a16d3b4e6f56cbeb4f89e3e91abea01d7b65173b5ef2912a6b34a2a0967fb"), looks := true }, kinds := [], alts := [], laidByText := true, laidKinds := [.data, .data, .data, .data, .sentinel, .sentinel, .pinned], laidTests := true, laidLooks := .later }
def TopClockTruthUptoCardSaid : Prop := Claim7.holds Tryz.pinned (.plain (OpenSpec.upto topClockTruthSpec)) topClockTruthUptoCard
end Rows
end Go.Proofs.YtlapeoboekchpaaGreatDoor
