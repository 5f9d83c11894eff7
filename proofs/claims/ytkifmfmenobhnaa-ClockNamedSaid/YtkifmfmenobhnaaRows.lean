/-
  No cell of these rows narrows 'for every input' (looked for: loops, veiled, ifaces, maps, wideKeys, modest, calm, conditions, laid).
  DERIVED. THE GIVEN ROWS OF THIS SEAT. 12 by the template 'for every input the law returns true; each argument reads behind the call as it read before'; 0 by the template 'total and deterministic' (their statements: YtkifmfmenobhnaaTotals.lean).
  GIVEN WITH THE SEED: the statements are not yours to turn. If you find one false, say at which input.
  Laid BY PROGRAM, IN A SANDBOX (cutbox-rows.mjs): the forced cells as the released guide's own fill.sh prints them over the translation 2fbe04871c06ed5d… (all of the seat's roots in one cut). By AI agents, Wed Nov 11 2026. No macro, syntax, notation, axiom, sorry.
-/
import Derived.Test.YtkifmfmenobhnaaChecked
import GoSem.Claim
import GoSem.ClaimJoined
import GoSem.ClaimMapViews
import Derived.JoinedTies
import Derived.KernelRfl
namespace Go.Proofs.Ytkifmfmenobhnaa
/- THE CELL 'sum', in the pinned program and in every row, IS THE sha256 OF THE DUMP (.gsa) THAT YtkifmfmenobhnaaProg.lean LOADS. Nothing in Lean hashes anything: it is a label: what it is worth is what the hold of that sum in a sandbox is worth. -/
noncomputable def Try.pinned : Pinned := { name := "ytkifmfmenobhnaa", sum := "2fbe04871c06ed5dcbe4997f6905d74d37d849dc0ed90a519c4580ef7adab5d3", checked := Try.checked }
namespace Rows
def none {H : Type} : Left H := { results := [], args := [] }

/-- 'cherenkovlaw01.ClockCounters': WHATEVER THE INPUT: true; the input reads as it did. -/
def clockCountersSpec : ChangeSpec := { name := "clockCounters", fn := fun _ => fun
  | [d1, d2, d3] => { results := [.lit (.bool true)], args := [d1, d2, d3] }
  | _ => none }
def clockCountersRow : OpenClaim := { program := "ytkifmfmenobhnaa", sum := "2fbe04871c06ed5dcbe4997f6905d74d37d849dc0ed90a519c4580ef7adab5d3", func := "cherenkov/cherenkovlaw01.ClockCounters", spec := "clockCounters", unfollowed := true, recurses := true, apart := false }
def ClockCountersSaid : Prop := clockCountersRow.holds Try.pinned (OpenSpec.ofChange clockCountersSpec)

/-- ITS FALSE NEIGHBOUR: 'it returns false'. Refute it at one input. -/
def clockCountersWrong : ChangeSpec := { name := "clockCounters", fn := fun _ => fun
  | [d1, d2, d3] => { results := [.lit (.bool false)], args := [d1, d2, d3] }
  | _ => none }
def ClockCountersWrongFalsely : Prop := clockCountersRow.holds Try.pinned (OpenSpec.ofChange clockCountersWrong)

/-- 'cherenkovlaw01.ClockRolled': WHATEVER THE INPUT: true; the input reads as it did. -/
def clockRolledSpec : ChangeSpec := { name := "clockRolled", fn := fun _ => fun
  | [d1, d2, d3] => { results := [.lit (.bool true)], args := [d1, d2, d3] }
  | _ => none }
def clockRolledRow : OpenClaim := { program := "ytkifmfmenobhnaa", sum := "2fbe04871c06ed5dcbe4997f6905d74d37d849dc0ed90a519c4580ef7adab5d3", func := "cherenkov/cherenkovlaw01.ClockRolled", spec := "clockRolled", unfollowed := true, recurses := true, apart := false }
def ClockRolledSaid : Prop := clockRolledRow.holds Try.pinned (OpenSpec.ofChange clockRolledSpec)

/-- ITS FALSE NEIGHBOUR: 'it returns false'. Refute it at one input. -/
def clockRolledWrong : ChangeSpec := { name := "clockRolled", fn := fun _ => fun
  | [d1, d2, d3] => { results := [.lit (.bool false)], args := [d1, d2, d3] }
  | _ => none }
def ClockRolledWrongFalsely : Prop := clockRolledRow.holds Try.pinned (OpenSpec.ofChange clockRolledWrong)

/-- 'cherenkovlaw01.ClockPulses': WHATEVER THE INPUT: true; the input reads as it did. -/
def clockPulsesSpec : ChangeSpec := { name := "clockPulses", fn := fun _ => fun
  | [d1, d2, d3] => { results := [.lit (.bool true)], args := [d1, d2, d3] }
  | _ => none }
def clockPulsesRow : OpenClaim := { program := "ytkifmfmenobhnaa", sum := "2fbe04871c06ed5dcbe4997f6905d74d37d849dc0ed90a519c4580ef7adab5d3", func := "cherenkov/cherenkovlaw01.ClockPulses", spec := "clockPulses", unfollowed := true, recurses := true, apart := false }
def ClockPulsesSaid : Prop := clockPulsesRow.holds Try.pinned (OpenSpec.ofChange clockPulsesSpec)

/-- ITS FALSE NEIGHBOUR: 'it returns false'. Refute it at one input. -/
def clockPulsesWrong : ChangeSpec := { name := "clockPulses", fn := fun _ => fun
  | [d1, d2, d3] => { results := [.lit (.bool false)], args := [d1, d2, d3] }
  | _ => none }
def ClockPulsesWrongFalsely : Prop := clockPulsesRow.holds Try.pinned (OpenSpec.ofChange clockPulsesWrong)

/-- 'cherenkovlaw01.ClockNets': WHATEVER THE INPUT: true; the input reads as it did. -/
def clockNetsSpec : ChangeSpec := { name := "clockNets", fn := fun _ => fun
  | [d1, d2] => { results := [.lit (.bool true)], args := [d1, d2] }
  | _ => none }
def clockNetsRow : OpenClaim := { program := "ytkifmfmenobhnaa", sum := "2fbe04871c06ed5dcbe4997f6905d74d37d849dc0ed90a519c4580ef7adab5d3", func := "cherenkov/cherenkovlaw01.ClockNets", spec := "clockNets", unfollowed := true, recurses := true, apart := false }
def ClockNetsSaid : Prop := clockNetsRow.holds Try.pinned (OpenSpec.ofChange clockNetsSpec)

/-- ITS FALSE NEIGHBOUR: 'it returns false'. Refute it at one input. -/
def clockNetsWrong : ChangeSpec := { name := "clockNets", fn := fun _ => fun
  | [d1, d2] => { results := [.lit (.bool false)], args := [d1, d2] }
  | _ => none }
def ClockNetsWrongFalsely : Prop := clockNetsRow.holds Try.pinned (OpenSpec.ofChange clockNetsWrong)

/-- 'cherenkovlaw01.ClockTracks': WHATEVER THE INPUT: true; the input reads as it did. -/
def clockTracksSpec : ChangeSpec := { name := "clockTracks", fn := fun _ => fun
  | [d] => { results := [.lit (.bool true)], args := [d] }
  | _ => none }
def clockTracksRow : OpenClaim := { program := "ytkifmfmenobhnaa", sum := "2fbe04871c06ed5dcbe4997f6905d74d37d849dc0ed90a519c4580ef7adab5d3", func := "cherenkov/cherenkovlaw01.ClockTracks", spec := "clockTracks", unfollowed := true, recurses := true, apart := false }
def ClockTracksSaid : Prop := clockTracksRow.holds Try.pinned (OpenSpec.ofChange clockTracksSpec)

/-- ITS FALSE NEIGHBOUR: 'it returns false'. Refute it at one input. -/
def clockTracksWrong : ChangeSpec := { name := "clockTracks", fn := fun _ => fun
  | [d] => { results := [.lit (.bool false)], args := [d] }
  | _ => none }
def ClockTracksWrongFalsely : Prop := clockTracksRow.holds Try.pinned (OpenSpec.ofChange clockTracksWrong)

/-- 'cherenkovlaw01.ClockPings': WHATEVER THE INPUT: true; the input reads as it did. -/
def clockPingsSpec : ChangeSpec := { name := "clockPings", fn := fun _ => fun
  | [d1, d2, d3] => { results := [.lit (.bool true)], args := [d1, d2, d3] }
  | _ => none }
def clockPingsRow : OpenClaim := { program := "ytkifmfmenobhnaa", sum := "2fbe04871c06ed5dcbe4997f6905d74d37d849dc0ed90a519c4580ef7adab5d3", func := "cherenkov/cherenkovlaw01.ClockPings", spec := "clockPings", unfollowed := true, recurses := true, apart := false }
def ClockPingsSaid : Prop := clockPingsRow.holds Try.pinned (OpenSpec.ofChange clockPingsSpec)

/-- ITS FALSE NEIGHBOUR: 'it returns false'. Refute it at one input. -/
def clockPingsWrong : ChangeSpec := { name := "clockPings", fn := fun _ => fun
  | [d1, d2, d3] => { results := [.lit (.bool false)], args := [d1, d2, d3] }
  | _ => none }
def ClockPingsWrongFalsely : Prop := clockPingsRow.holds Try.pinned (OpenSpec.ofChange clockPingsWrong)

/-- 'cherenkovlaw01.ClockNarrower': WHATEVER THE INPUT: true; the input reads as it did. -/
def clockNarrowerSpec : ChangeSpec := { name := "clockNarrower", fn := fun _ => fun
  | [d1, d2, d3] => { results := [.lit (.bool true)], args := [d1, d2, d3] }
  | _ => none }
def clockNarrowerRow : OpenClaim := { program := "ytkifmfmenobhnaa", sum := "2fbe04871c06ed5dcbe4997f6905d74d37d849dc0ed90a519c4580ef7adab5d3", func := "cherenkov/cherenkovlaw01.ClockNarrower", spec := "clockNarrower", unfollowed := true, recurses := true, apart := false }
def ClockNarrowerSaid : Prop := clockNarrowerRow.holds Try.pinned (OpenSpec.ofChange clockNarrowerSpec)

/-- ITS FALSE NEIGHBOUR: 'it returns false'. Refute it at one input. -/
def clockNarrowerWrong : ChangeSpec := { name := "clockNarrower", fn := fun _ => fun
  | [d1, d2, d3] => { results := [.lit (.bool false)], args := [d1, d2, d3] }
  | _ => none }
def ClockNarrowerWrongFalsely : Prop := clockNarrowerRow.holds Try.pinned (OpenSpec.ofChange clockNarrowerWrong)

/-- 'cherenkovlaw01.ClockTranslated': WHATEVER THE INPUT: true; the input reads as it did. -/
def clockTranslatedSpec : ChangeSpec := { name := "clockTranslated", fn := fun _ => fun
  | [d1, d2, d3] => { results := [.lit (.bool true)], args := [d1, d2, d3] }
  | _ => none }
def clockTranslatedRow : OpenClaim := { program := "ytkifmfmenobhnaa", sum := "2fbe04871c06ed5dcbe4997f6905d74d37d849dc0ed90a519c4580ef7adab5d3", func := "cherenkov/cherenkovlaw01.ClockTranslated", spec := "clockTranslated", unfollowed := true, recurses := true, apart := false }
def ClockTranslatedSaid : Prop := clockTranslatedRow.holds Try.pinned (OpenSpec.ofChange clockTranslatedSpec)

/-- ITS FALSE NEIGHBOUR: 'it returns false'. Refute it at one input. -/
def clockTranslatedWrong : ChangeSpec := { name := "clockTranslated", fn := fun _ => fun
  | [d1, d2, d3] => { results := [.lit (.bool false)], args := [d1, d2, d3] }
  | _ => none }
def ClockTranslatedWrongFalsely : Prop := clockTranslatedRow.holds Try.pinned (OpenSpec.ofChange clockTranslatedWrong)

/-- 'cherenkovlaw01.ClockOffsets': WHATEVER THE INPUT: true; the input reads as it did. -/
def clockOffsetsSpec : ChangeSpec := { name := "clockOffsets", fn := fun _ => fun
  | [d1, d2] => { results := [.lit (.bool true)], args := [d1, d2] }
  | _ => none }
def clockOffsetsRow : OpenClaim := { program := "ytkifmfmenobhnaa", sum := "2fbe04871c06ed5dcbe4997f6905d74d37d849dc0ed90a519c4580ef7adab5d3", func := "cherenkov/cherenkovlaw01.ClockOffsets", spec := "clockOffsets", unfollowed := true, recurses := true, apart := false }
def ClockOffsetsSaid : Prop := clockOffsetsRow.holds Try.pinned (OpenSpec.ofChange clockOffsetsSpec)

/-- ITS FALSE NEIGHBOUR: 'it returns false'. Refute it at one input. -/
def clockOffsetsWrong : ChangeSpec := { name := "clockOffsets", fn := fun _ => fun
  | [d1, d2] => { results := [.lit (.bool false)], args := [d1, d2] }
  | _ => none }
def ClockOffsetsWrongFalsely : Prop := clockOffsetsRow.holds Try.pinned (OpenSpec.ofChange clockOffsetsWrong)

/-- 'cherenkovlaw01.ClockTruth': WHATEVER THE INPUT: true; the input reads as it did. -/
def clockTruthSpec : ChangeSpec := { name := "clockTruth", fn := fun _ => fun
  | [d1, d2, d3] => { results := [.lit (.bool true)], args := [d1, d2, d3] }
  | _ => none }
def clockTruthRow : OpenClaim := { program := "ytkifmfmenobhnaa", sum := "2fbe04871c06ed5dcbe4997f6905d74d37d849dc0ed90a519c4580ef7adab5d3", func := "cherenkov/cherenkovlaw01.ClockTruth", spec := "clockTruth", unfollowed := true, recurses := true, apart := false }
def ClockTruthSaid : Prop := clockTruthRow.holds Try.pinned (OpenSpec.ofChange clockTruthSpec)

/-- ITS FALSE NEIGHBOUR: 'it returns false'. Refute it at one input. -/
def clockTruthWrong : ChangeSpec := { name := "clockTruth", fn := fun _ => fun
  | [d1, d2, d3] => { results := [.lit (.bool false)], args := [d1, d2, d3] }
  | _ => none }
def ClockTruthWrongFalsely : Prop := clockTruthRow.holds Try.pinned (OpenSpec.ofChange clockTruthWrong)

/-- 'cherenkovlaw01.ClockContradictions': WHATEVER THE INPUT: true; the input reads as it did. -/
def clockContradictionsSpec : ChangeSpec := { name := "clockContradictions", fn := fun _ => fun
  | [d] => { results := [.lit (.bool true)], args := [d] }
  | _ => none }
def clockContradictionsRow : OpenClaim := { program := "ytkifmfmenobhnaa", sum := "2fbe04871c06ed5dcbe4997f6905d74d37d849dc0ed90a519c4580ef7adab5d3", func := "cherenkov/cherenkovlaw01.ClockContradictions", spec := "clockContradictions", unfollowed := true, recurses := true, apart := false }
def ClockContradictionsSaid : Prop := clockContradictionsRow.holds Try.pinned (OpenSpec.ofChange clockContradictionsSpec)

/-- ITS FALSE NEIGHBOUR: 'it returns false'. Refute it at one input. -/
def clockContradictionsWrong : ChangeSpec := { name := "clockContradictions", fn := fun _ => fun
  | [d] => { results := [.lit (.bool false)], args := [d] }
  | _ => none }
def ClockContradictionsWrongFalsely : Prop := clockContradictionsRow.holds Try.pinned (OpenSpec.ofChange clockContradictionsWrong)

/-- 'cherenkovlaw01.ClockNamed': WHATEVER THE INPUT: true; the input reads as it did. -/
def clockNamedSpec : ChangeSpec := { name := "clockNamed", fn := fun _ => fun
  | [d1, d2, d3] => { results := [.lit (.bool true)], args := [d1, d2, d3] }
  | _ => none }
def clockNamedRow : OpenClaim := { program := "ytkifmfmenobhnaa", sum := "2fbe04871c06ed5dcbe4997f6905d74d37d849dc0ed90a519c4580ef7adab5d3", func := "cherenkov/cherenkovlaw01.ClockNamed", spec := "clockNamed", unfollowed := true, recurses := true, apart := false }
def ClockNamedSaid : Prop := clockNamedRow.holds Try.pinned (OpenSpec.ofChange clockNamedSpec)

/-- ITS FALSE NEIGHBOUR: 'it returns false'. Refute it at one input. -/
def clockNamedWrong : ChangeSpec := { name := "clockNamed", fn := fun _ => fun
  | [d1, d2, d3] => { results := [.lit (.bool false)], args := [d1, d2, d3] }
  | _ => none }
def ClockNamedWrongFalsely : Prop := clockNamedRow.holds Try.pinned (OpenSpec.ofChange clockNamedWrong)

/- THE SECOND FORM. 'bulk': how many values and letters a reading holds, each counted each time it is reached (what is shared counts as often as it is met; a slice's spare places count too). A statement '..UptoSaid' is the law's where the arguments, and the package variables that the reading takes, are together of bulk at most 1048576: NARROWER than '..Said'. Prove '..Said' where nothing that the law and all that it calls make is longer than what came in: it says more and counts as full. Else prove '..UptoSaid'. A law counts once. -/
mutual
def uptoBulk {H : Type} : DataW H → Nat
  | .lit (.string bytes) => bytes.length + 1
  | .lit _ => 1
  | .nil => 1
  | .ptr d => uptoBulk d + 1
  | .slice elems spare => uptoBulkAll elems + uptoBulkAll spare + 1
  | .agg parts => uptoBulkAll parts + 1
  | .iface _ d => uptoBulk d + 1
  | .map entries => uptoBulkEntries entries + 1
  | .held _ => 1
def uptoBulkAll {H : Type} : List (DataW H) → Nat
  | [] => 0
  | d :: r => uptoBulk d + uptoBulkAll r
def uptoBulkEntries {H : Type} : List (Lit × DataW H) → Nat
  | [] => 0
  | x :: r => uptoBulkEntry x + uptoBulkEntries r
def uptoBulkEntry {H : Type} : Lit × DataW H → Nat
  | (.string bytes, d) => bytes.length + uptoBulk d + 1
  | (_, d) => uptoBulk d + 1
 end
def uptoSmall : (H : Type) → List (DataW H) → Bool := fun _ ds => decide (uptoBulkAll ds ≤ 1048576)
def OpenSpec.upto (s : _root_.Go.ChangeSpec) : _root_.Go.OpenSpec := { _root_.Go.OpenSpec.ofChange s with cond := some uptoSmall }

/-- 'cherenkovlaw01.ClockCounters', WHERE WHAT IT READS IS OF BULK AT MOST 1048576: true; the input reads as it did. -/
def clockCountersUptoRow : OpenClaim := { program := "ytkifmfmenobhnaa", sum := "2fbe04871c06ed5dcbe4997f6905d74d37d849dc0ed90a519c4580ef7adab5d3", func := "cherenkov/cherenkovlaw01.ClockCounters", spec := "clockCounters", unfollowed := true, recurses := true, apart := false, narrowed := true }
def ClockCountersUptoSaid : Prop := clockCountersUptoRow.holds Try.pinned (OpenSpec.upto clockCountersSpec)

/-- 'cherenkovlaw01.ClockRolled', WHERE WHAT IT READS IS OF BULK AT MOST 1048576: true; the input reads as it did. -/
def clockRolledUptoRow : OpenClaim := { program := "ytkifmfmenobhnaa", sum := "2fbe04871c06ed5dcbe4997f6905d74d37d849dc0ed90a519c4580ef7adab5d3", func := "cherenkov/cherenkovlaw01.ClockRolled", spec := "clockRolled", unfollowed := true, recurses := true, apart := false, narrowed := true }
def ClockRolledUptoSaid : Prop := clockRolledUptoRow.holds Try.pinned (OpenSpec.upto clockRolledSpec)

/-- 'cherenkovlaw01.ClockPulses', WHERE WHAT IT READS IS OF BULK AT MOST 1048576: true; the input reads as it did. -/
def clockPulsesUptoRow : OpenClaim := { program := "ytkifmfmenobhnaa", sum := "2fbe04871c06ed5dcbe4997f6905d74d37d849dc0ed90a519c4580ef7adab5d3", func := "cherenkov/cherenkovlaw01.ClockPulses", spec := "clockPulses", unfollowed := true, recurses := true, apart := false, narrowed := true }
def ClockPulsesUptoSaid : Prop := clockPulsesUptoRow.holds Try.pinned (OpenSpec.upto clockPulsesSpec)

/-- 'cherenkovlaw01.ClockNets', WHERE WHAT IT READS IS OF BULK AT MOST 1048576: true; the input reads as it did. -/
def clockNetsUptoRow : OpenClaim := { program := "ytkifmfmenobhnaa", sum := "2fbe04871c06ed5dcbe4997f6905d74d37d849dc0ed90a519c4580ef7adab5d3", func := "cherenkov/cherenkovlaw01.ClockNets", spec := "clockNets", unfollowed := true, recurses := true, apart := false, narrowed := true }
def ClockNetsUptoSaid : Prop := clockNetsUptoRow.holds Try.pinned (OpenSpec.upto clockNetsSpec)

/-- 'cherenkovlaw01.ClockTracks', WHERE WHAT IT READS IS OF BULK AT MOST 1048576: true; the input reads as it did. -/
def clockTracksUptoRow : OpenClaim := { program := "ytkifmfmenobhnaa", sum := "2fbe04871c06ed5dcbe4997f6905d74d37d849dc0ed90a519c4580ef7adab5d3", func := "cherenkov/cherenkovlaw01.ClockTracks", spec := "clockTracks", unfollowed := true, recurses := true, apart := false, narrowed := true }
def ClockTracksUptoSaid : Prop := clockTracksUptoRow.holds Try.pinned (OpenSpec.upto clockTracksSpec)

/-- 'cherenkovlaw01.ClockPings', WHERE WHAT IT READS IS OF BULK AT MOST 1048576: true; the input reads as it did. -/
def clockPingsUptoRow : OpenClaim := { program := "ytkifmfmenobhnaa", sum := "2fbe04871c06ed5dcbe4997f6905d74d37d849dc0ed90a519c4580ef7adab5d3", func := "cherenkov/cherenkovlaw01.ClockPings", spec := "clockPings", unfollowed := true, recurses := true, apart := false, narrowed := true }
def ClockPingsUptoSaid : Prop := clockPingsUptoRow.holds Try.pinned (OpenSpec.upto clockPingsSpec)

/-- 'cherenkovlaw01.ClockNarrower', WHERE WHAT IT READS IS OF BULK AT MOST 1048576: true; the input reads as it did. -/
def clockNarrowerUptoRow : OpenClaim := { program := "ytkifmfmenobhnaa", sum := "2fbe04871c06ed5dcbe4997f6905d74d37d849dc0ed90a519c4580ef7adab5d3", func := "cherenkov/cherenkovlaw01.ClockNarrower", spec := "clockNarrower", unfollowed := true, recurses := true, apart := false, narrowed := true }
def ClockNarrowerUptoSaid : Prop := clockNarrowerUptoRow.holds Try.pinned (OpenSpec.upto clockNarrowerSpec)

/-- 'cherenkovlaw01.ClockTranslated', WHERE WHAT IT READS IS OF BULK AT MOST 1048576: true; the input reads as it did. -/
def clockTranslatedUptoRow : OpenClaim := { program := "ytkifmfmenobhnaa", sum := "2fbe04871c06ed5dcbe4997f6905d74d37d849dc0ed90a519c4580ef7adab5d3", func := "cherenkov/cherenkovlaw01.ClockTranslated", spec := "clockTranslated", unfollowed := true, recurses := true, apart := false, narrowed := true }
def ClockTranslatedUptoSaid : Prop := clockTranslatedUptoRow.holds Try.pinned (OpenSpec.upto clockTranslatedSpec)

/-- 'cherenkovlaw01.ClockOffsets', WHERE WHAT IT READS IS OF BULK AT MOST 1048576: true; the input reads as it did. -/
def clockOffsetsUptoRow : OpenClaim := { program := "ytkifmfmenobhnaa", sum := "2fbe04871c06ed5dcbe4997f6905d74d37d849dc0ed90a519c4580ef7adab5d3", func := "cherenkov/cherenkovlaw01.ClockOffsets", spec := "clockOffsets", unfollowed := true, recurses := true, apart := false, narrowed := true }
def ClockOffsetsUptoSaid : Prop := clockOffsetsUptoRow.holds Try.pinned (OpenSpec.upto clockOffsetsSpec)

/-- 'cherenkovlaw01.ClockTruth', WHERE WHAT IT READS IS OF BULK AT MOST 1048576: true; the input reads as it did. -/
def clockTruthUptoRow : OpenClaim := { program := "ytkifmfmenobhnaa", sum := "2fbe04871c06ed5dcbe4997f6905d74d37d849dc0ed90a519c4580ef7adab5d3", func := "cherenkov/cherenkovlaw01.ClockTruth", spec := "clockTruth", unfollowed := true, recurses := true, apart := false, narrowed := true }
def ClockTruthUptoSaid : Prop := clockTruthUptoRow.holds Try.pinned (OpenSpec.upto clockTruthSpec)

/-- 'cherenkovlaw01.ClockContradictions', WHERE WHAT IT READS IS OF BULK AT MOST 1048576: true; the input reads as it did. -/
def clockContradictionsUptoRow : OpenClaim := { program := "ytkifmfmenobhnaa", sum := "2fbe04871c06ed5dcbe4997f6905d74d37d849dc0ed90a519c4580ef7adab5d3", func := "cherenkov/cherenkovlaw01.ClockContradictions", spec := "clockContradictions", unfollowed := true, recurses := true, apart := false, narrowed := true }
def ClockContradictionsUptoSaid : Prop := clockContradictionsUptoRow.holds Try.pinned (OpenSpec.upto clockContradictionsSpec)

/-- 'cherenkovlaw01.ClockNamed', WHERE WHAT IT READS IS OF BULK AT MOST 1048576: true; the input reads as it did. -/
def clockNamedUptoRow : OpenClaim := { program := "ytkifmfmenobhnaa", sum := "2fbe04871c06ed5dcbe4997f6905d74d37d849dc0ed90a519c4580ef7adab5d3", func := "cherenkov/cherenkovlaw01.ClockNamed", spec := "clockNamed", unfollowed := true, recurses := true, apart := false, narrowed := true }
def ClockNamedUptoSaid : Prop := clockNamedUptoRow.holds Try.pinned (OpenSpec.upto clockNamedSpec)

end Rows
end Go.Proofs.Ytkifmfmenobhnaa
