/-
  No cell of these rows narrows 'for every input' (looked for: loops, veiled, ifaces, maps, wideKeys, modest, calm, conditions, laid).
  DERIVED. THE GIVEN ROWS OF THIS SEAT. 10 by the template 'for every input the law returns true; each argument reads behind the call as it read before'; 0 by the template 'total and deterministic' (their statements: YtlmdmpjfehpjeaaTotals.lean).
  GIVEN WITH THE SEED: the statements are not yours to turn. If you find one false, say at which input.
  Laid BY PROGRAM, IN A SANDBOX (cutbox-rows.mjs): the forced cells as the released guide's own fill.sh prints them over the translation 7ab60973dd597509… (all of the seat's roots in one cut). By AI agents, Wed Nov 11 2026. No macro, syntax, notation, axiom, sorry.
-/
import Derived.Test.YtlmdmpjfehpjeaaChecked
import GoSem.Claim
import GoSem.ClaimJoined
import GoSem.ClaimMapViews
import Derived.JoinedTies
import Derived.KernelRfl
namespace Go.Proofs.Ytlmdmpjfehpjeaa
/- THE CELL 'sum', in the pinned program and in every row, IS THE sha256 OF THE DUMP (.gsa) THAT YtlmdmpjfehpjeaaProg.lean LOADS. Nothing in Lean hashes anything: it is a label: what it is worth is what the hold of that sum in a sandbox is worth. -/
noncomputable def Try.pinned : Pinned := { name := "ytlmdmpjfehpjeaa", sum := "7ab60973dd59750915506dfb49fea5d71f83eef78e62a599d97a24a4eaa48e2f", checked := Try.checked }
namespace Rows
def none {H : Type} : Left H := { results := [], args := [] }

/-- 'cherenkovlaw05.TrackReached': WHATEVER THE INPUT: true; the input reads as it did. -/
def trackReachedSpec : ChangeSpec := { name := "trackReached", fn := fun _ => fun
  | [d1, d2, d3] => { results := [.lit (.bool true)], args := [d1, d2, d3] }
  | _ => none }
def trackReachedRow : OpenClaim := { program := "ytlmdmpjfehpjeaa", sum := "7ab60973dd59750915506dfb49fea5d71f83eef78e62a599d97a24a4eaa48e2f", func := "cherenkov/cherenkovlaw05.TrackReached", spec := "trackReached", unfollowed := true, recurses := true, apart := false }
def TrackReachedSaid : Prop := trackReachedRow.holds Try.pinned (OpenSpec.ofChange trackReachedSpec)

/-- ITS FALSE NEIGHBOUR: 'it returns false'. Refute it at one input. -/
def trackReachedWrong : ChangeSpec := { name := "trackReached", fn := fun _ => fun
  | [d1, d2, d3] => { results := [.lit (.bool false)], args := [d1, d2, d3] }
  | _ => none }
def TrackReachedWrongFalsely : Prop := trackReachedRow.holds Try.pinned (OpenSpec.ofChange trackReachedWrong)

/-- 'cherenkovlaw05.TrackOnce': WHATEVER THE INPUT: true; the input reads as it did. -/
def trackOnceSpec : ChangeSpec := { name := "trackOnce", fn := fun _ => fun
  | [d1, d2, d3] => { results := [.lit (.bool true)], args := [d1, d2, d3] }
  | _ => none }
def trackOnceRow : OpenClaim := { program := "ytlmdmpjfehpjeaa", sum := "7ab60973dd59750915506dfb49fea5d71f83eef78e62a599d97a24a4eaa48e2f", func := "cherenkov/cherenkovlaw05.TrackOnce", spec := "trackOnce", unfollowed := true, recurses := true, apart := false }
def TrackOnceSaid : Prop := trackOnceRow.holds Try.pinned (OpenSpec.ofChange trackOnceSpec)

/-- ITS FALSE NEIGHBOUR: 'it returns false'. Refute it at one input. -/
def trackOnceWrong : ChangeSpec := { name := "trackOnce", fn := fun _ => fun
  | [d1, d2, d3] => { results := [.lit (.bool false)], args := [d1, d2, d3] }
  | _ => none }
def TrackOnceWrongFalsely : Prop := trackOnceRow.holds Try.pinned (OpenSpec.ofChange trackOnceWrong)

/-- 'cherenkovlaw05.TrackScores': WHATEVER THE INPUT: true; the input reads as it did. -/
def trackScoresSpec : ChangeSpec := { name := "trackScores", fn := fun _ => fun
  | [d1, d2, d3] => { results := [.lit (.bool true)], args := [d1, d2, d3] }
  | _ => none }
def trackScoresRow : OpenClaim := { program := "ytlmdmpjfehpjeaa", sum := "7ab60973dd59750915506dfb49fea5d71f83eef78e62a599d97a24a4eaa48e2f", func := "cherenkov/cherenkovlaw05.TrackScores", spec := "trackScores", unfollowed := true, recurses := true, apart := false }
def TrackScoresSaid : Prop := trackScoresRow.holds Try.pinned (OpenSpec.ofChange trackScoresSpec)

/-- ITS FALSE NEIGHBOUR: 'it returns false'. Refute it at one input. -/
def trackScoresWrong : ChangeSpec := { name := "trackScores", fn := fun _ => fun
  | [d1, d2, d3] => { results := [.lit (.bool false)], args := [d1, d2, d3] }
  | _ => none }
def TrackScoresWrongFalsely : Prop := trackScoresRow.holds Try.pinned (OpenSpec.ofChange trackScoresWrong)

/-- 'cherenkovlaw05.TrackAnswers': WHATEVER THE INPUT: true; the input reads as it did. -/
def trackAnswersSpec : ChangeSpec := { name := "trackAnswers", fn := fun _ => fun
  | [d1, d2, d3] => { results := [.lit (.bool true)], args := [d1, d2, d3] }
  | _ => none }
def trackAnswersRow : OpenClaim := { program := "ytlmdmpjfehpjeaa", sum := "7ab60973dd59750915506dfb49fea5d71f83eef78e62a599d97a24a4eaa48e2f", func := "cherenkov/cherenkovlaw05.TrackAnswers", spec := "trackAnswers", unfollowed := true, recurses := true, apart := false }
def TrackAnswersSaid : Prop := trackAnswersRow.holds Try.pinned (OpenSpec.ofChange trackAnswersSpec)

/-- ITS FALSE NEIGHBOUR: 'it returns false'. Refute it at one input. -/
def trackAnswersWrong : ChangeSpec := { name := "trackAnswers", fn := fun _ => fun
  | [d1, d2, d3] => { results := [.lit (.bool false)], args := [d1, d2, d3] }
  | _ => none }
def TrackAnswersWrongFalsely : Prop := trackAnswersRow.holds Try.pinned (OpenSpec.ofChange trackAnswersWrong)

/-- 'cherenkovlaw05.TrackSimulated': WHATEVER THE INPUT: true; the input reads as it did. -/
def trackSimulatedSpec : ChangeSpec := { name := "trackSimulated", fn := fun _ => fun
  | [d1, d2, d3] => { results := [.lit (.bool true)], args := [d1, d2, d3] }
  | _ => none }
def trackSimulatedRow : OpenClaim := { program := "ytlmdmpjfehpjeaa", sum := "7ab60973dd59750915506dfb49fea5d71f83eef78e62a599d97a24a4eaa48e2f", func := "cherenkov/cherenkovlaw05.TrackSimulated", spec := "trackSimulated", unfollowed := true, recurses := true, apart := false }
def TrackSimulatedSaid : Prop := trackSimulatedRow.holds Try.pinned (OpenSpec.ofChange trackSimulatedSpec)

/-- ITS FALSE NEIGHBOUR: 'it returns false'. Refute it at one input. -/
def trackSimulatedWrong : ChangeSpec := { name := "trackSimulated", fn := fun _ => fun
  | [d1, d2, d3] => { results := [.lit (.bool false)], args := [d1, d2, d3] }
  | _ => none }
def TrackSimulatedWrongFalsely : Prop := trackSimulatedRow.holds Try.pinned (OpenSpec.ofChange trackSimulatedWrong)

/-- 'cherenkovlaw05.TrackBoxes': WHATEVER THE INPUT: true; the input reads as it did. -/
def trackBoxesSpec : ChangeSpec := { name := "trackBoxes", fn := fun _ => fun
  | [d1, d2] => { results := [.lit (.bool true)], args := [d1, d2] }
  | _ => none }
def trackBoxesRow : OpenClaim := { program := "ytlmdmpjfehpjeaa", sum := "7ab60973dd59750915506dfb49fea5d71f83eef78e62a599d97a24a4eaa48e2f", func := "cherenkov/cherenkovlaw05.TrackBoxes", spec := "trackBoxes", unfollowed := true, recurses := true, apart := false }
def TrackBoxesSaid : Prop := trackBoxesRow.holds Try.pinned (OpenSpec.ofChange trackBoxesSpec)

/-- ITS FALSE NEIGHBOUR: 'it returns false'. Refute it at one input. -/
def trackBoxesWrong : ChangeSpec := { name := "trackBoxes", fn := fun _ => fun
  | [d1, d2] => { results := [.lit (.bool false)], args := [d1, d2] }
  | _ => none }
def TrackBoxesWrongFalsely : Prop := trackBoxesRow.holds Try.pinned (OpenSpec.ofChange trackBoxesWrong)

/-- 'cherenkovlaw05.TrackNeverExcluded': WHATEVER THE INPUT: true; the input reads as it did. -/
def trackNeverExcludedSpec : ChangeSpec := { name := "trackNeverExcluded", fn := fun _ => fun
  | [d1, d2, d3] => { results := [.lit (.bool true)], args := [d1, d2, d3] }
  | _ => none }
def trackNeverExcludedRow : OpenClaim := { program := "ytlmdmpjfehpjeaa", sum := "7ab60973dd59750915506dfb49fea5d71f83eef78e62a599d97a24a4eaa48e2f", func := "cherenkov/cherenkovlaw05.TrackNeverExcluded", spec := "trackNeverExcluded", unfollowed := true, recurses := true, apart := false }
def TrackNeverExcludedSaid : Prop := trackNeverExcludedRow.holds Try.pinned (OpenSpec.ofChange trackNeverExcludedSpec)

/-- ITS FALSE NEIGHBOUR: 'it returns false'. Refute it at one input. -/
def trackNeverExcludedWrong : ChangeSpec := { name := "trackNeverExcluded", fn := fun _ => fun
  | [d1, d2, d3] => { results := [.lit (.bool false)], args := [d1, d2, d3] }
  | _ => none }
def TrackNeverExcludedWrongFalsely : Prop := trackNeverExcludedRow.holds Try.pinned (OpenSpec.ofChange trackNeverExcludedWrong)

/-- 'cherenkovlaw05.TrackCovers': WHATEVER THE INPUT: true; the input reads as it did. -/
def trackCoversSpec : ChangeSpec := { name := "trackCovers", fn := fun _ => fun
  | [d1, d2, d3] => { results := [.lit (.bool true)], args := [d1, d2, d3] }
  | _ => none }
def trackCoversRow : OpenClaim := { program := "ytlmdmpjfehpjeaa", sum := "7ab60973dd59750915506dfb49fea5d71f83eef78e62a599d97a24a4eaa48e2f", func := "cherenkov/cherenkovlaw05.TrackCovers", spec := "trackCovers", unfollowed := true, recurses := true, apart := false }
def TrackCoversSaid : Prop := trackCoversRow.holds Try.pinned (OpenSpec.ofChange trackCoversSpec)

/-- ITS FALSE NEIGHBOUR: 'it returns false'. Refute it at one input. -/
def trackCoversWrong : ChangeSpec := { name := "trackCovers", fn := fun _ => fun
  | [d1, d2, d3] => { results := [.lit (.bool false)], args := [d1, d2, d3] }
  | _ => none }
def TrackCoversWrongFalsely : Prop := trackCoversRow.holds Try.pinned (OpenSpec.ofChange trackCoversWrong)

/-- 'cherenkovlaw05.TrackBest': WHATEVER THE INPUT: true; the input reads as it did. -/
def trackBestSpec : ChangeSpec := { name := "trackBest", fn := fun _ => fun
  | [d1, d2, d3] => { results := [.lit (.bool true)], args := [d1, d2, d3] }
  | _ => none }
def trackBestRow : OpenClaim := { program := "ytlmdmpjfehpjeaa", sum := "7ab60973dd59750915506dfb49fea5d71f83eef78e62a599d97a24a4eaa48e2f", func := "cherenkov/cherenkovlaw05.TrackBest", spec := "trackBest", unfollowed := true, recurses := true, apart := false }
def TrackBestSaid : Prop := trackBestRow.holds Try.pinned (OpenSpec.ofChange trackBestSpec)

/-- ITS FALSE NEIGHBOUR: 'it returns false'. Refute it at one input. -/
def trackBestWrong : ChangeSpec := { name := "trackBest", fn := fun _ => fun
  | [d1, d2, d3] => { results := [.lit (.bool false)], args := [d1, d2, d3] }
  | _ => none }
def TrackBestWrongFalsely : Prop := trackBestRow.holds Try.pinned (OpenSpec.ofChange trackBestWrong)

/-- 'cherenkovlaw05.TrackTwoWays': WHATEVER THE INPUT: true; the input reads as it did. -/
def trackTwoWaysSpec : ChangeSpec := { name := "trackTwoWays", fn := fun _ => fun
  | [d1, d2, d3] => { results := [.lit (.bool true)], args := [d1, d2, d3] }
  | _ => none }
def trackTwoWaysRow : OpenClaim := { program := "ytlmdmpjfehpjeaa", sum := "7ab60973dd59750915506dfb49fea5d71f83eef78e62a599d97a24a4eaa48e2f", func := "cherenkov/cherenkovlaw05.TrackTwoWays", spec := "trackTwoWays", unfollowed := true, recurses := true, apart := false }
def TrackTwoWaysSaid : Prop := trackTwoWaysRow.holds Try.pinned (OpenSpec.ofChange trackTwoWaysSpec)

/-- ITS FALSE NEIGHBOUR: 'it returns false'. Refute it at one input. -/
def trackTwoWaysWrong : ChangeSpec := { name := "trackTwoWays", fn := fun _ => fun
  | [d1, d2, d3] => { results := [.lit (.bool false)], args := [d1, d2, d3] }
  | _ => none }
def TrackTwoWaysWrongFalsely : Prop := trackTwoWaysRow.holds Try.pinned (OpenSpec.ofChange trackTwoWaysWrong)

/- THE SECOND FORM. 'bulk': how many values and letters a reading holds, each counted each time it is reached (what is shared counts as often as it is met; a slice's spare places count too). A statement '..UptoSaid' is the law's where the arguments, and the package variables that the reading takes, are together of bulk at most 1048576: NARROWER than '..Said'. Prove '..Said' where nothing that the law and all that it calls make is longer than what came in: it says more and counts as full. Else prove '..UptoSaid'. A law counts once. -/
mutual
def uptoBulk {H : Type} : DataW H → Nat
  | .lit (.string bytes) => bytes.length + 1
  | .lit _ => 1
  | .nil => 1
  | .ptr d => uptoBulk d + 1
  | .slice elems spare => uptoBulkAll elems + uptoBulkAll spare + 1
  | .agg parts => uptoBulkAll parts + 1
  | .iface _ d => uptoBulk d + 1
  | .map entries => uptoBulkEntries entries + 1
  | .held _ => 1
def uptoBulkAll {H : Type} : List (DataW H) → Nat
  | [] => 0
  | d :: r => uptoBulk d + uptoBulkAll r
def uptoBulkEntries {H : Type} : List (Lit × DataW H) → Nat
  | [] => 0
  | x :: r => uptoBulkEntry x + uptoBulkEntries r
def uptoBulkEntry {H : Type} : Lit × DataW H → Nat
  | (.string bytes, d) => bytes.length + uptoBulk d + 1
  | (_, d) => uptoBulk d + 1
 end
def uptoSmall : (H : Type) → List (DataW H) → Bool := fun _ ds => decide (uptoBulkAll ds ≤ 1048576)
def OpenSpec.upto (s : _root_.Go.ChangeSpec) : _root_.Go.OpenSpec := { _root_.Go.OpenSpec.ofChange s with cond := some uptoSmall }

/-- 'cherenkovlaw05.TrackReached', WHERE WHAT IT READS IS OF BULK AT MOST 1048576: true; the input reads as it did. -/
def trackReachedUptoRow : OpenClaim := { program := "ytlmdmpjfehpjeaa", sum := "7ab60973dd59750915506dfb49fea5d71f83eef78e62a599d97a24a4eaa48e2f", func := "cherenkov/cherenkovlaw05.TrackReached", spec := "trackReached", unfollowed := true, recurses := true, apart := false, narrowed := true }
def TrackReachedUptoSaid : Prop := trackReachedUptoRow.holds Try.pinned (OpenSpec.upto trackReachedSpec)

/-- 'cherenkovlaw05.TrackOnce', WHERE WHAT IT READS IS OF BULK AT MOST 1048576: true; the input reads as it did. -/
def trackOnceUptoRow : OpenClaim := { program := "ytlmdmpjfehpjeaa", sum := "7ab60973dd59750915506dfb49fea5d71f83eef78e62a599d97a24a4eaa48e2f", func := "cherenkov/cherenkovlaw05.TrackOnce", spec := "trackOnce", unfollowed := true, recurses := true, apart := false, narrowed := true }
def TrackOnceUptoSaid : Prop := trackOnceUptoRow.holds Try.pinned (OpenSpec.upto trackOnceSpec)

/-- 'cherenkovlaw05.TrackScores', WHERE WHAT IT READS IS OF BULK AT MOST 1048576: true; the input reads as it did. -/
def trackScoresUptoRow : OpenClaim := { program := "ytlmdmpjfehpjeaa", sum := "7ab60973dd59750915506dfb49fea5d71f83eef78e62a599d97a24a4eaa48e2f", func := "cherenkov/cherenkovlaw05.TrackScores", spec := "trackScores", unfollowed := true, recurses := true, apart := false, narrowed := true }
def TrackScoresUptoSaid : Prop := trackScoresUptoRow.holds Try.pinned (OpenSpec.upto trackScoresSpec)

/-- 'cherenkovlaw05.TrackAnswers', WHERE WHAT IT READS IS OF BULK AT MOST 1048576: true; the input reads as it did. -/
def trackAnswersUptoRow : OpenClaim := { program := "ytlmdmpjfehpjeaa", sum := "7ab60973dd59750915506dfb49fea5d71f83eef78e62a599d97a24a4eaa48e2f", func := "cherenkov/cherenkovlaw05.TrackAnswers", spec := "trackAnswers", unfollowed := true, recurses := true, apart := false, narrowed := true }
def TrackAnswersUptoSaid : Prop := trackAnswersUptoRow.holds Try.pinned (OpenSpec.upto trackAnswersSpec)

/-- 'cherenkovlaw05.TrackSimulated', WHERE WHAT IT READS IS OF BULK AT MOST 1048576: true; the input reads as it did. -/
def trackSimulatedUptoRow : OpenClaim := { program := "ytlmdmpjfehpjeaa", sum := "7ab60973dd59750915506dfb49fea5d71f83eef78e62a599d97a24a4eaa48e2f", func := "cherenkov/cherenkovlaw05.TrackSimulated", spec := "trackSimulated", unfollowed := true, recurses := true, apart := false, narrowed := true }
def TrackSimulatedUptoSaid : Prop := trackSimulatedUptoRow.holds Try.pinned (OpenSpec.upto trackSimulatedSpec)

/-- 'cherenkovlaw05.TrackBoxes', WHERE WHAT IT READS IS OF BULK AT MOST 1048576: true; the input reads as it did. -/
def trackBoxesUptoRow : OpenClaim := { program := "ytlmdmpjfehpjeaa", sum := "7ab60973dd59750915506dfb49fea5d71f83eef78e62a599d97a24a4eaa48e2f", func := "cherenkov/cherenkovlaw05.TrackBoxes", spec := "trackBoxes", unfollowed := true, recurses := true, apart := false, narrowed := true }
def TrackBoxesUptoSaid : Prop := trackBoxesUptoRow.holds Try.pinned (OpenSpec.upto trackBoxesSpec)

/-- 'cherenkovlaw05.TrackNeverExcluded', WHERE WHAT IT READS IS OF BULK AT MOST 1048576: true; the input reads as it did. -/
def trackNeverExcludedUptoRow : OpenClaim := { program := "ytlmdmpjfehpjeaa", sum := "7ab60973dd59750915506dfb49fea5d71f83eef78e62a599d97a24a4eaa48e2f", func := "cherenkov/cherenkovlaw05.TrackNeverExcluded", spec := "trackNeverExcluded", unfollowed := true, recurses := true, apart := false, narrowed := true }
def TrackNeverExcludedUptoSaid : Prop := trackNeverExcludedUptoRow.holds Try.pinned (OpenSpec.upto trackNeverExcludedSpec)

/-- 'cherenkovlaw05.TrackCovers', WHERE WHAT IT READS IS OF BULK AT MOST 1048576: true; the input reads as it did. -/
def trackCoversUptoRow : OpenClaim := { program := "ytlmdmpjfehpjeaa", sum := "7ab60973dd59750915506dfb49fea5d71f83eef78e62a599d97a24a4eaa48e2f", func := "cherenkov/cherenkovlaw05.TrackCovers", spec := "trackCovers", unfollowed := true, recurses := true, apart := false, narrowed := true }
def TrackCoversUptoSaid : Prop := trackCoversUptoRow.holds Try.pinned (OpenSpec.upto trackCoversSpec)

/-- 'cherenkovlaw05.TrackBest', WHERE WHAT IT READS IS OF BULK AT MOST 1048576: true; the input reads as it did. -/
def trackBestUptoRow : OpenClaim := { program := "ytlmdmpjfehpjeaa", sum := "7ab60973dd59750915506dfb49fea5d71f83eef78e62a599d97a24a4eaa48e2f", func := "cherenkov/cherenkovlaw05.TrackBest", spec := "trackBest", unfollowed := true, recurses := true, apart := false, narrowed := true }
def TrackBestUptoSaid : Prop := trackBestUptoRow.holds Try.pinned (OpenSpec.upto trackBestSpec)

/-- 'cherenkovlaw05.TrackTwoWays', WHERE WHAT IT READS IS OF BULK AT MOST 1048576: true; the input reads as it did. -/
def trackTwoWaysUptoRow : OpenClaim := { program := "ytlmdmpjfehpjeaa", sum := "7ab60973dd59750915506dfb49fea5d71f83eef78e62a599d97a24a4eaa48e2f", func := "cherenkov/cherenkovlaw05.TrackTwoWays", spec := "trackTwoWays", unfollowed := true, recurses := true, apart := false, narrowed := true }
def TrackTwoWaysUptoSaid : Prop := trackTwoWaysUptoRow.holds Try.pinned (OpenSpec.upto trackTwoWaysSpec)

end Rows
end Go.Proofs.Ytlmdmpjfehpjeaa
