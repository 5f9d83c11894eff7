/-
  No cell of these rows narrows 'for every input' (looked for: loops, veiled, ifaces, maps, wideKeys, modest, calm, conditions, laid).
  DERIVED. THE GIVEN ROWS OF THIS SEAT. 2 by the template 'for every input the law returns true; each argument reads behind the call as it read before'; 0 by the template 'total and deterministic' (their statements: YtfadkjcfjkmalaaTotals.lean).
  GIVEN WITH THE SEED: the statements are not yours to turn. If you find one false, say at which input.
  Laid BY PROGRAM, IN A SANDBOX (cutbox-rows.mjs): the forced cells as the released guide's own fill.sh prints them over the translation b581a40d687cb669… (all of the seat's roots in one cut). By AI agents, Wed Nov 11 2026. No macro, syntax, notation, axiom, sorry.
-/
import Derived.Test.YtfadkjcfjkmalaaChecked
import GoSem.Claim
import GoSem.ClaimJoined
import GoSem.ClaimMapViews
import Derived.JoinedTies
import Derived.KernelRfl
namespace Go.Proofs.Ytfadkjcfjkmalaa
/- THE CELL 'sum', in the pinned program and in every row, IS THE sha256 OF THE DUMP (.gsa) THAT YtfadkjcfjkmalaaProg.lean LOADS. Nothing in Lean hashes anything: it is a label: what it is worth is what the hold of that sum in a sandbox is worth. -/
noncomputable def Try.pinned : Pinned := { name := "ytfadkjcfjkmalaa", sum := "b581a40d687cb66925b314287bf55ee73293555e00e2b4170f7aa5131453cd45", checked := Try.checked }
namespace Rows
def none {H : Type} : Left H := { results := [], args := [] }

/-- 'cherenkovlaw05.TrackBest': WHATEVER THE INPUT: true; the input reads as it did. -/
def trackBestSpec : ChangeSpec := { name := "trackBest", fn := fun _ => fun
  | [d1, d2, d3] => { results := [.lit (.bool true)], args := [d1, d2, d3] }
  | _ => none }
def trackBestRow : OpenClaim := { program := "ytfadkjcfjkmalaa", sum := "b581a40d687cb66925b314287bf55ee73293555e00e2b4170f7aa5131453cd45", func := "cherenkov/cherenkovlaw05.TrackBest", spec := "trackBest", unfollowed := true, recurses := true, apart := false }
def TrackBestSaid : Prop := trackBestRow.holds Try.pinned (OpenSpec.ofChange trackBestSpec)

/-- ITS FALSE NEIGHBOUR: 'it returns false'. Refute it at one input. -/
def trackBestWrong : ChangeSpec := { name := "trackBest", fn := fun _ => fun
  | [d1, d2, d3] => { results := [.lit (.bool false)], args := [d1, d2, d3] }
  | _ => none }
def TrackBestWrongFalsely : Prop := trackBestRow.holds Try.pinned (OpenSpec.ofChange trackBestWrong)

/-- 'cherenkovlaw05.TrackTwoWays': WHATEVER THE INPUT: true; the input reads as it did. -/
def trackTwoWaysSpec : ChangeSpec := { name := "trackTwoWays", fn := fun _ => fun
  | [d1, d2, d3] => { results := [.lit (.bool true)], args := [d1, d2, d3] }
  | _ => none }
def trackTwoWaysRow : OpenClaim := { program := "ytfadkjcfjkmalaa", sum := "b581a40d687cb66925b314287bf55ee73293555e00e2b4170f7aa5131453cd45", func := "cherenkov/cherenkovlaw05.TrackTwoWays", spec := "trackTwoWays", unfollowed := true, recurses := true, apart := false }
def TrackTwoWaysSaid : Prop := trackTwoWaysRow.holds Try.pinned (OpenSpec.ofChange trackTwoWaysSpec)

/-- ITS FALSE NEIGHBOUR: 'it returns false'. Refute it at one input. -/
def trackTwoWaysWrong : ChangeSpec := { name := "trackTwoWays", fn := fun _ => fun
  | [d1, d2, d3] => { results := [.lit (.bool false)], args := [d1, d2, d3] }
  | _ => none }
def TrackTwoWaysWrongFalsely : Prop := trackTwoWaysRow.holds Try.pinned (OpenSpec.ofChange trackTwoWaysWrong)

/- THE SECOND FORM. 'bulk': how many values and letters a reading holds, each counted each time it is reached (what is shared counts as often as it is met; a slice's spare places count too). A statement '..UptoSaid' is the law's where the arguments, and the package variables that the reading takes, are together of bulk at most 1048576: NARROWER than '..Said'. Prove '..Said' where nothing that the law and all that it calls make is longer than what came in: it says more and counts as full. Else prove '..UptoSaid'. A law counts once. -/
mutual
def uptoBulk {H : Type} : DataW H → Nat
  | .lit (.string bytes) => bytes.length + 1
  | .lit _ => 1
  | .nil => 1
  | .ptr d => uptoBulk d + 1
  | .slice elems spare => uptoBulkAll elems + uptoBulkAll spare + 1
  | .agg parts => uptoBulkAll parts + 1
  | .iface _ d => uptoBulk d + 1
  | .map entries => uptoBulkEntries entries + 1
  | .held _ => 1
def uptoBulkAll {H : Type} : List (DataW H) → Nat
  | [] => 0
  | d :: r => uptoBulk d + uptoBulkAll r
def uptoBulkEntries {H : Type} : List (Lit × DataW H) → Nat
  | [] => 0
  | x :: r => uptoBulkEntry x + uptoBulkEntries r
def uptoBulkEntry {H : Type} : Lit × DataW H → Nat
  | (.string bytes, d) => bytes.length + uptoBulk d + 1
  | (_, d) => uptoBulk d + 1
 end
def uptoSmall : (H : Type) → List (DataW H) → Bool := fun _ ds => decide (uptoBulkAll ds ≤ 1048576)
def OpenSpec.upto (s : _root_.Go.ChangeSpec) : _root_.Go.OpenSpec := { _root_.Go.OpenSpec.ofChange s with cond := some uptoSmall }

/-- 'cherenkovlaw05.TrackBest', WHERE WHAT IT READS IS OF BULK AT MOST 1048576: true; the input reads as it did. -/
def trackBestUptoRow : OpenClaim := { program := "ytfadkjcfjkmalaa", sum := "b581a40d687cb66925b314287bf55ee73293555e00e2b4170f7aa5131453cd45", func := "cherenkov/cherenkovlaw05.TrackBest", spec := "trackBest", unfollowed := true, recurses := true, apart := false, narrowed := true }
def TrackBestUptoSaid : Prop := trackBestUptoRow.holds Try.pinned (OpenSpec.upto trackBestSpec)

/-- 'cherenkovlaw05.TrackTwoWays', WHERE WHAT IT READS IS OF BULK AT MOST 1048576: true; the input reads as it did. -/
def trackTwoWaysUptoRow : OpenClaim := { program := "ytfadkjcfjkmalaa", sum := "b581a40d687cb66925b314287bf55ee73293555e00e2b4170f7aa5131453cd45", func := "cherenkov/cherenkovlaw05.TrackTwoWays", spec := "trackTwoWays", unfollowed := true, recurses := true, apart := false, narrowed := true }
def TrackTwoWaysUptoSaid : Prop := trackTwoWaysUptoRow.holds Try.pinned (OpenSpec.upto trackTwoWaysSpec)

end Rows
end Go.Proofs.Ytfadkjcfjkmalaa
