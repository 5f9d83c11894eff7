/-
  DERIVED. GIVEN WITH THE SEED: THE CARDS: each row of YtfadkjcfjkmalaaGreatDoorRows.lean that lists a variable, with what it lists TIED to the program's text (the seventh form; the later family's looks); each row that meets fmt, with fmt's text TOLD by the authors' own Lean function (tested against real Go, not proved from fmt's source: count such statements apart). THE CARD IS WHAT COUNTS. Prove the row's statement (the work); the ties are given (YtfadkjcfjkmalaaGreatDoorTie.lean); close each card by the builder's one call (the guide's Derived/Test/ToyasCard.lean, 'card_holds'). Laid BY PROGRAM, IN A SANDBOX (cutbox-door.mjs). By AI agents, Wed Nov 11 2026. No macro, syntax, notation, axiom, sorry.
-/
import Derived.Test.YtfadkjcfjkmalaaGreatDoorRows
import GoSem.ClaimSeven
namespace Go.Proofs.YtfadkjcfjkmalaaGreatDoor
namespace Rows

/-- THE TIED CARD OF 'cherenkovlaw05.TrackStrings'. -/
def trackStringsCard : Claim7 := { stood := { row := trackStringsRow, standIns := [], harness := (true, "845d207d4c798e464ab3e2ebc559d3b2fcdede8f68ff40eef2499717d5610c1a"), looks := true }, kinds := [], alts := [], laidByText := true, laidKinds := [.data, .data, .data, .data, .sentinel, .sentinel, .pinned], laidTests := true, laidLooks := .later }
def TrackStringsCardSaid : Prop := Claim7.holds Tryz.pinned (.plain (OpenSpec.ofChange trackStringsSpec)) trackStringsCard

/-- THE TIED CARD OF 'cherenkovtop.TopTrackCone'. -/
def topTrackConeCard : Claim7 := { stood := { row := topTrackConeRow, standIns := [], harness := (true, "845d207d4c798e464ab3e2ebc559d3b2fcdede8f68ff40eef2499717d5610c1a"), looks := true }, kinds := [], alts := [], laidByText := true, laidKinds := [.data, .data, .data, .data, .sentinel, .sentinel, .pinned], laidTests := true, laidLooks := .later }
def TopTrackConeCardSaid : Prop := Claim7.holds Tryz.pinned (.plain (OpenSpec.ofChange topTrackConeSpec)) topTrackConeCard

/-- THE SECOND FORM's CARD OF 'cherenkovlaw05.TrackStrings'. -/
def trackStringsUptoCard : Claim7 := { stood := { row := trackStringsUptoRow, standIns := [], harness := (true, "845d207d4c798e464ab3e2ebc559d3b2fcdede8f68ff40eef2499717d5610c1a"), looks := true }, kinds := [], alts := [], laidByText := true, laidKinds := [.data, .data, .data, .data, .sentinel, .sentinel, .pinned], laidTests := true, laidLooks := .later }
def TrackStringsUptoCardSaid : Prop := Claim7.holds Tryz.pinned (.plain (OpenSpec.upto trackStringsSpec)) trackStringsUptoCard

/-- THE SECOND FORM's CARD OF 'cherenkovtop.TopTrackCone'. -/
def topTrackConeUptoCard : Claim7 := { stood := { row := topTrackConeUptoRow, standIns := [], harness := (true, "845d207d4c798e464ab3e2ebc559d3b2fcdede8f68ff40eef2499717d5610c1a"), looks := true }, kinds := [], alts := [], laidByText := true, laidKinds := [.data, .data, .data, .data, .sentinel, .sentinel, .pinned], laidTests := true, laidLooks := .later }
def TopTrackConeUptoCardSaid : Prop := Claim7.holds Tryz.pinned (.plain (OpenSpec.upto topTrackConeSpec)) topTrackConeUptoCard
end Rows
end Go.Proofs.YtfadkjcfjkmalaaGreatDoor
