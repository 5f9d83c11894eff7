/-
  DERIVED. GIVEN WITH THE SEED: THE CARDS: each row of YtdkpgodakmailaaGreatDoorRows.lean that lists a variable, with what it lists TIED to the program's text (the seventh form; the later family's looks); each row that meets fmt, with fmt's text TOLD by the authors' own Lean function (tested against real Go, not proved from fmt's source: count such statements apart). THE CARD IS WHAT COUNTS. Prove the row's statement (the work); the ties are given (YtdkpgodakmailaaGreatDoorTie.lean); close each card by the builder's one call (the guide's Derived/Test/ToyasCard.lean, 'card_holds'). Laid BY PROGRAM, IN A SANDBOX (cutbox-door.mjs). By AI agents, Wed Nov 11 2026. No macro, syntax, notation, axiom, sorry.
-/
import Derived.Test.YtdkpgodakmailaaGreatDoorRows
import GoSem.ClaimSeven
namespace Go.Proofs.YtdkpgodakmailaaGreatDoor
namespace Rows

/-- THE TIED CARD OF 'cherenkovtop.TopFlashVeto'. -/
def topFlashVetoCard : Claim7 := { stood := { row := topFlashVetoRow, standIns := [], harness := (true, "e4e691266bf63897ff9315b722b2201f5f599cf1d5cfd14ce1b54e52917e5072"), looks := true }, kinds := [], alts := [], laidByText := true, laidKinds := [.data, .data, .data, .data, .sentinel, .sentinel, .pinned], laidTests := true, laidLooks := .later }
def TopFlashVetoCardSaid : Prop := Claim7.holds Tryz.pinned (.plain (OpenSpec.ofChange topFlashVetoSpec)) topFlashVetoCard

/-- THE TIED CARD OF 'cherenkovlaw06.FlashStrings'. -/
def flashStringsCard : Claim7 := { stood := { row := flashStringsRow, standIns := [], harness := (true, "e4e691266bf63897ff9315b722b2201f5f599cf1d5cfd14ce1b54e52917e5072"), looks := true }, kinds := [], alts := [], laidByText := true, laidKinds := [.data, .data, .data, .data, .sentinel, .sentinel, .pinned], laidTests := true, laidLooks := .later }
def FlashStringsCardSaid : Prop := Claim7.holds Tryz.pinned (.plain (OpenSpec.ofChange flashStringsSpec)) flashStringsCard

/-- THE TIED CARD OF 'cherenkovtop.TopFlashCascade'. -/
def topFlashCascadeCard : Claim7 := { stood := { row := topFlashCascadeRow, standIns := [], harness := (true, "e4e691266bf63897ff9315b722b2201f5f599cf1d5cfd14ce1b54e52917e5072"), looks := true }, kinds := [], alts := [], laidByText := true, laidKinds := [.data, .data, .data, .data, .sentinel, .sentinel, .pinned], laidTests := true, laidLooks := .later }
def TopFlashCascadeCardSaid : Prop := Claim7.holds Tryz.pinned (.plain (OpenSpec.ofChange topFlashCascadeSpec)) topFlashCascadeCard

/-- THE SECOND FORM's CARD OF 'cherenkovtop.TopFlashVeto'. -/
def topFlashVetoUptoCard : Claim7 := { stood := { row := topFlashVetoUptoRow, standIns := [], harness := (true, "e4e691266bf63897ff9315b722b2201f5f599cf1d5cfd14ce1b54e52917e5072"), looks := true }, kinds := [], alts := [], laidByText := true, laidKinds := [.data, .data, .data, .data, .sentinel, .sentinel, .pinned], laidTests := true, laidLooks := .later }
def TopFlashVetoUptoCardSaid : Prop := Claim7.holds Tryz.pinned (.plain (OpenSpec.upto topFlashVetoSpec)) topFlashVetoUptoCard

/-- THE SECOND FORM's CARD OF 'cherenkovlaw06.FlashStrings'. -/
def flashStringsUptoCard : Claim7 := { stood := { row := flashStringsUptoRow, standIns := [], harness := (true, "e4e691266bf63897ff9315b722b2201f5f599cf1d5cfd14ce1b54e52917e5072"), looks := true }, kinds := [], alts := [], laidByText := true, laidKinds := [.data, .data, .data, .data, .sentinel, .sentinel, .pinned], laidTests := true, laidLooks := .later }
def FlashStringsUptoCardSaid : Prop := Claim7.holds Tryz.pinned (.plain (OpenSpec.upto flashStringsSpec)) flashStringsUptoCard

/-- THE SECOND FORM's CARD OF 'cherenkovtop.TopFlashCascade'. -/
def topFlashCascadeUptoCard : Claim7 := { stood := { row := topFlashCascadeUptoRow, standIns := [], harness := (true, "e4e691266bf63897ff9315b722b2201f5f599cf1d5cfd14ce1b54e52917e5072"), looks := true }, kinds := [], alts := [], laidByText := true, laidKinds := [.data, .data, .data, .data, .sentinel, .sentinel, .pinned], laidTests := true, laidLooks := .later }
def TopFlashCascadeUptoCardSaid : Prop := Claim7.holds Tryz.pinned (.plain (OpenSpec.upto topFlashCascadeSpec)) topFlashCascadeUptoCard
end Rows
end Go.Proofs.YtdkpgodakmailaaGreatDoor
