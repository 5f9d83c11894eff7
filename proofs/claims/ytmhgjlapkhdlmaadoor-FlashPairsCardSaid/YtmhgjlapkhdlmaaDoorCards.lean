/-
  DERIVED. GIVEN WITH THE SEED: THE CARDS: each row of YtmhgjlapkhdlmaaDoorRows.lean that lists a variable, with what it lists TIED to the program's text (the seventh form; the later family's looks); each row that meets fmt, with fmt's text TOLD by the authors' own Lean function (tested against real Go, not proved from fmt's source: count such statements apart). THE CARD IS WHAT COUNTS. Prove the row's statement (the work); the ties are given (YtmhgjlapkhdlmaaDoorTie.lean); close each card by the builder's one call (the guide's Derived/Test/ToyasCard.lean, 'card_holds'). Laid BY PROGRAM, IN A SANDBOX (cutbox-door.mjs). By AI agents, Wed Nov 11 2026. No macro, syntax, notation, axiom, sorry.
-/
import Derived.Test.YtmhgjlapkhdlmaaDoorRows
import GoSem.ClaimSeven
namespace Go.Proofs.YtmhgjlapkhdlmaaDoor
namespace Rows

/-- THE TIED CARD OF 'cherenkovlaw06.FlashHits'. -/
def flashHitsCard : Claim7 := { stood := { row := flashHitsRow, standIns := [], harness := (true, "925e207e375425880ca3d405664781c59e8ee77221d5304a992f53527d338864"), looks := false }, kinds := [], alts := [], laidByText := true, laidKinds := [.data, .data], laidTests := true, laidLooks := .later }
def FlashHitsCardSaid : Prop := Claim7.holds Tryd.pinned (.plain (OpenSpec.ofChange flashHitsSpec)) flashHitsCard

/-- THE TIED CARD OF 'cherenkovlaw06.FlashSmallest'. -/
def flashSmallestCard : Claim7 := { stood := { row := flashSmallestRow, standIns := [], harness := (true, "925e207e375425880ca3d405664781c59e8ee77221d5304a992f53527d338864"), looks := false }, kinds := [], alts := [], laidByText := true, laidKinds := [.data, .data], laidTests := true, laidLooks := .later }
def FlashSmallestCardSaid : Prop := Claim7.holds Tryd.pinned (.plain (OpenSpec.ofChange flashSmallestSpec)) flashSmallestCard

/-- THE TIED CARD OF 'cherenkovlaw06.FlashVetoes'. -/
def flashVetoesCard : Claim7 := { stood := { row := flashVetoesRow, standIns := [], harness := (true, "925e207e375425880ca3d405664781c59e8ee77221d5304a992f53527d338864"), looks := false }, kinds := [], alts := [], laidByText := true, laidKinds := [.data, .data], laidTests := true, laidLooks := .later }
def FlashVetoesCardSaid : Prop := Claim7.holds Tryd.pinned (.plain (OpenSpec.ofChange flashVetoesSpec)) flashVetoesCard

/-- THE TIED CARD OF 'cherenkovlaw06.FlashGreater'. -/
def flashGreaterCard : Claim7 := { stood := { row := flashGreaterRow, standIns := [], harness := (true, "925e207e375425880ca3d405664781c59e8ee77221d5304a992f53527d338864"), looks := false }, kinds := [], alts := [], laidByText := true, laidKinds := [.data, .data], laidTests := true, laidLooks := .later }
def FlashGreaterCardSaid : Prop := Claim7.holds Tryd.pinned (.plain (OpenSpec.ofChange flashGreaterSpec)) flashGreaterCard

/-- THE TIED CARD OF 'cherenkovlaw06.FlashEnergies'. -/
def flashEnergiesCard : Claim7 := { stood := { row := flashEnergiesRow, standIns := [], harness := (true, "925e207e375425880ca3d405664781c59e8ee77221d5304a992f53527d338864"), looks := false }, kinds := [], alts := [], laidByText := true, laidKinds := [.data, .data], laidTests := true, laidLooks := .later }
def FlashEnergiesCardSaid : Prop := Claim7.holds Tryd.pinned (.plain (OpenSpec.ofChange flashEnergiesSpec)) flashEnergiesCard

/-- THE TIED CARD OF 'cherenkovlaw06.FlashLight'. -/
def flashLightCard : Claim7 := { stood := { row := flashLightRow, standIns := [], harness := (true, "925e207e375425880ca3d405664781c59e8ee77221d5304a992f53527d338864"), looks := false }, kinds := [], alts := [], laidByText := true, laidKinds := [.data, .data], laidTests := true, laidLooks := .later }
def FlashLightCardSaid : Prop := Claim7.holds Tryd.pinned (.plain (OpenSpec.ofChange flashLightSpec)) flashLightCard

/-- THE TIED CARD OF 'cherenkovlaw06.FlashFewest'. -/
def flashFewestCard : Claim7 := { stood := { row := flashFewestRow, standIns := [], harness := (true, "925e207e375425880ca3d405664781c59e8ee77221d5304a992f53527d338864"), looks := false }, kinds := [], alts := [], laidByText := true, laidKinds := [.data, .data], laidTests := true, laidLooks := .later }
def FlashFewestCardSaid : Prop := Claim7.holds Tryd.pinned (.plain (OpenSpec.ofChange flashFewestSpec)) flashFewestCard

/-- THE TIED CARD OF 'cherenkovlaw06.FlashVertices'. -/
def flashVerticesCard : Claim7 := { stood := { row := flashVerticesRow, standIns := [], harness := (true, "925e207e375425880ca3d405664781c59e8ee77221d5304a992f53527d338864"), looks := false }, kinds := [], alts := [], laidByText := true, laidKinds := [.data, .data], laidTests := true, laidLooks := .later }
def FlashVerticesCardSaid : Prop := Claim7.holds Tryd.pinned (.plain (OpenSpec.ofChange flashVerticesSpec)) flashVerticesCard

/-- THE TIED CARD OF 'cherenkovlaw06.FlashTruth'. -/
def flashTruthCard : Claim7 := { stood := { row := flashTruthRow, standIns := [], harness := (true, "925e207e375425880ca3d405664781c59e8ee77221d5304a992f53527d338864"), looks := false }, kinds := [], alts := [], laidByText := true, laidKinds := [.data, .data], laidTests := true, laidLooks := .later }
def FlashTruthCardSaid : Prop := Claim7.holds Tryd.pinned (.plain (OpenSpec.ofChange flashTruthSpec)) flashTruthCard

/-- THE TIED CARD OF 'cherenkovlaw06.FlashPairs'. -/
def flashPairsCard : Claim7 := { stood := { row := flashPairsRow, standIns := [], harness := (true, "925e207e375425880ca3d405664781c59e8ee77221d5304a992f53527d338864"), looks := false }, kinds := [], alts := [], laidByText := true, laidKinds := [.data, .data], laidTests := true, laidLooks := .later }
def FlashPairsCardSaid : Prop := Claim7.holds Tryd.pinned (.plain (OpenSpec.ofChange flashPairsSpec)) flashPairsCard

/-- THE TIED CARD OF 'cherenkovlaw06.FlashOneOrTwo'. -/
def flashOneOrTwoCard : Claim7 := { stood := { row := flashOneOrTwoRow, standIns := [], harness := (true, "925e207e375425880ca3d405664781c59e8ee77221d5304a992f53527d338864"), looks := false }, kinds := [], alts := [], laidByText := true, laidKinds := [.data, .data], laidTests := true, laidLooks := .later }
def FlashOneOrTwoCardSaid : Prop := Claim7.holds Tryd.pinned (.plain (OpenSpec.ofChange flashOneOrTwoSpec)) flashOneOrTwoCard

/-- THE SECOND FORM's CARD OF 'cherenkovlaw06.FlashHits'. -/
def flashHitsUptoCard : Claim7 := { stood := { row := flashHitsUptoRow, standIns := [], harness := (true, "925e207e375425880ca3d405664781c59e8ee77221d5304a992f53527d338864"), looks := false }, kinds := [], alts := [], laidByText := true, laidKinds := [.data, .data], laidTests := true, laidLooks := .later }
def FlashHitsUptoCardSaid : Prop := Claim7.holds Tryd.pinned (.plain (OpenSpec.upto flashHitsSpec)) flashHitsUptoCard

/-- THE SECOND FORM's CARD OF 'cherenkovlaw06.FlashSmallest'. -/
def flashSmallestUptoCard : Claim7 := { stood := { row := flashSmallestUptoRow, standIns := [], harness := (true, "925e207e375425880ca3d405664781c59e8ee77221d5304a992f53527d338864"), looks := false }, kinds := [], alts := [], laidByText := true, laidKinds := [.data, .data], laidTests := true, laidLooks := .later }
def FlashSmallestUptoCardSaid : Prop := Claim7.holds Tryd.pinned (.plain (OpenSpec.upto flashSmallestSpec)) flashSmallestUptoCard

/-- THE SECOND FORM's CARD OF 'cherenkovlaw06.FlashVetoes'. -/
def flashVetoesUptoCard : Claim7 := { stood := { row := flashVetoesUptoRow, standIns := [], harness := (true, "925e207e375425880ca3d405664781c59e8ee77221d5304a992f53527d338864"), looks := false }, kinds := [], alts := [], laidByText := true, laidKinds := [.data, .data], laidTests := true, laidLooks := .later }
def FlashVetoesUptoCardSaid : Prop := Claim7.holds Tryd.pinned (.plain (OpenSpec.upto flashVetoesSpec)) flashVetoesUptoCard

/-- THE SECOND FORM's CARD OF 'cherenkovlaw06.FlashGreater'. -/
def flashGreaterUptoCard : Claim7 := { stood := { row := flashGreaterUptoRow, standIns := [], harness := (true, "925e207e375425880ca3d405664781c59e8ee77221d5304a992f53527d338864"), looks := false }, kinds := [], alts := [], laidByText := true, laidKinds := [.data, .data], laidTests := true, laidLooks := .later }
def FlashGreaterUptoCardSaid : Prop := Claim7.holds Tryd.pinned (.plain (OpenSpec.upto flashGreaterSpec)) flashGreaterUptoCard

/-- THE SECOND FORM's CARD OF 'cherenkovlaw06.FlashEnergies'. -/
def flashEnergiesUptoCard : Claim7 := { stood := { row := flashEnergiesUptoRow, standIns := [], harness := (true, "925e207e375425880ca3d405664781c59e8ee77221d5304a992f53527d338864"), looks := false }, kinds := [], alts := [], laidByText := true, laidKinds := [.data, .data], laidTests := true, laidLooks := .later }
def FlashEnergiesUptoCardSaid : Prop := Claim7.holds Tryd.pinned (.plain (OpenSpec.upto flashEnergiesSpec)) flashEnergiesUptoCard

/-- THE SECOND FORM's CARD OF 'cherenkovlaw06.FlashLight'. -/
def flashLightUptoCard : Claim7 := { stood := { row := flashLightUptoRow, standIns := [], harness := (true, "925e207e375425880ca3d405664781c59e8ee77221d5304a992f53527d338864"), looks := false }, kinds := [], alts := [], laidByText := true, laidKinds := [.data, .data], laidTests := true, laidLooks := .later }
def FlashLightUptoCardSaid : Prop := Claim7.holds Tryd.pinned (.plain (OpenSpec.upto flashLightSpec)) flashLightUptoCard

/-- THE SECOND FORM's CARD OF 'cherenkovlaw06.FlashFewest'. -/
def flashFewestUptoCard : Claim7 := { stood := { row := flashFewestUptoRow, standIns := [], harness := (true, "925e207e375425880ca3d405664781c59e8ee77221d5304a992f53527d338864"), looks := false }, kinds := [], alts := [], laidByText := true, laidKinds := [.data, .data], laidTests := true, laidLooks := .later }
def FlashFewestUptoCardSaid : Prop := Claim7.holds Tryd.pinned (.plain (OpenSpec.upto flashFewestSpec)) flashFewestUptoCard

/-- THE SECOND FORM's CARD OF 'cherenkovlaw06.FlashVertices'. -/
def flashVerticesUptoCard : Claim7 := { stood := { row := flashVerticesUptoRow, standIns := [], harness := (true, "925e207e375425880ca3d405664781c59e8ee77221d5304a992f53527d338864"), looks := false }, kinds := [], alts := [], laidByText := true, laidKinds := [.data, .data], laidTests := true, laidLooks := .later }
def FlashVerticesUptoCardSaid : Prop := Claim7.holds Tryd.pinned (.plain (OpenSpec.upto flashVerticesSpec)) flashVerticesUptoCard

/-- THE SECOND FORM's CARD OF 'cherenkovlaw06.FlashTruth'. -/
def flashTruthUptoCard : Claim7 := { stood := { row := flashTruthUptoRow, standIns := [], harness := (true, "925e207e375425880ca3d405664781c59e8ee77221d5304a992f53527d338864"), looks := false }, kinds := [], alts := [], laidByText := true, laidKinds := [.data, .data], laidTests := true, laidLooks := .later }
def FlashTruthUptoCardSaid : Prop := Claim7.holds Tryd.pinned (.plain (OpenSpec.upto flashTruthSpec)) flashTruthUptoCard

/-- THE SECOND FORM's CARD OF 'cherenkovlaw06.FlashPairs'. -/
def flashPairsUptoCard : Claim7 := { stood := { row := flashPairsUptoRow, standIns := [], harness := (true, "925e207e375425880ca3d405664781c59e8ee77221d5304a992f53527d338864"), looks := false }, kinds := [], alts := [], laidByText := true, laidKinds := [.data, .data], laidTests := true, laidLooks := .later }
def FlashPairsUptoCardSaid : Prop := Claim7.holds Tryd.pinned (.plain (OpenSpec.upto flashPairsSpec)) flashPairsUptoCard

/-- THE SECOND FORM's CARD OF 'cherenkovlaw06.FlashOneOrTwo'. -/
def flashOneOrTwoUptoCard : Claim7 := { stood := { row := flashOneOrTwoUptoRow, standIns := [], harness := (true, "925e207e375425880ca3d405664781c59e8ee77221d5304a992f53527d338864"), looks := false }, kinds := [], alts := [], laidByText := true, laidKinds := [.data, .data], laidTests := true, laidLooks := .later }
def FlashOneOrTwoUptoCardSaid : Prop := Claim7.holds Tryd.pinned (.plain (OpenSpec.upto flashOneOrTwoSpec)) flashOneOrTwoUptoCard
end Rows
end Go.Proofs.YtmhgjlapkhdlmaaDoor
