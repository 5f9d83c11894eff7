/-
  No cell of these rows narrows 'for every input' (looked for: loops, veiled, ifaces, maps, wideKeys, modest, calm, conditions, laid).
  DERIVED. THE GIVEN ROWS OF THIS SEAT. 8 by the template 'for every input the law returns true; each argument reads behind the call as it read before'; 0 by the template 'total and deterministic' (their statements: YtllddidjiabegaaTotals.lean).
  GIVEN WITH THE SEED: the statements are not yours to turn. If you find one false, say at which input.
  Laid BY PROGRAM, IN A SANDBOX (cutbox-rows.mjs): the forced cells as the released guide's own fill.sh prints them over the translation ab8276d8aaf16273… (all of the seat's roots in one cut). By AI agents, Wed Nov 11 2026. No macro, syntax, notation, axiom, sorry.
-/
import Derived.Test.YtllddidjiabegaaChecked
import GoSem.Claim
import GoSem.ClaimJoined
import GoSem.ClaimMapViews
import Derived.JoinedTies
import Derived.KernelRfl
namespace Go.Proofs.Ytllddidjiabegaa
/- THE CELL 'sum', in the pinned program and in every row, IS THE sha256 OF THE DUMP (.gsa) THAT YtllddidjiabegaaProg.lean LOADS. Nothing in Lean hashes anything: it is a label: what it is worth is what the hold of that sum in a sandbox is worth. -/
noncomputable def Try.pinned : Pinned := { name := "ytllddidjiabegaa", sum := "ab8276d8aaf162737ccdb990c7e0d4a3083c1bf3118b7adc6abe0dd95aad203f", checked := Try.checked }
namespace Rows
def none {H : Type} : Left H := { results := [], args := [] }

/-- 'cherenkovlaw09.BlindMethods': WHATEVER THE INPUT: true; the input reads as it did. -/
def blindMethodsSpec : ChangeSpec := { name := "blindMethods", fn := fun _ => fun
  | [d1, d2] => { results := [.lit (.bool true)], args := [d1, d2] }
  | _ => none }
def blindMethodsRow : OpenClaim := { program := "ytllddidjiabegaa", sum := "ab8276d8aaf162737ccdb990c7e0d4a3083c1bf3118b7adc6abe0dd95aad203f", func := "cherenkov/cherenkovlaw09.BlindMethods", spec := "blindMethods", unfollowed := true, recurses := true, apart := false }
def BlindMethodsSaid : Prop := blindMethodsRow.holds Try.pinned (OpenSpec.ofChange blindMethodsSpec)

/-- ITS FALSE NEIGHBOUR: 'it returns false'. Refute it at one input. -/
def blindMethodsWrong : ChangeSpec := { name := "blindMethods", fn := fun _ => fun
  | [d1, d2] => { results := [.lit (.bool false)], args := [d1, d2] }
  | _ => none }
def BlindMethodsWrongFalsely : Prop := blindMethodsRow.holds Try.pinned (OpenSpec.ofChange blindMethodsWrong)

/-- 'cherenkovlaw09.BlindChances': WHATEVER THE INPUT: true; the input reads as it did. -/
def blindChancesSpec : ChangeSpec := { name := "blindChances", fn := fun _ => fun
  | [d1, d2, d3] => { results := [.lit (.bool true)], args := [d1, d2, d3] }
  | _ => none }
def blindChancesRow : OpenClaim := { program := "ytllddidjiabegaa", sum := "ab8276d8aaf162737ccdb990c7e0d4a3083c1bf3118b7adc6abe0dd95aad203f", func := "cherenkov/cherenkovlaw09.BlindChances", spec := "blindChances", unfollowed := true, recurses := true, apart := false }
def BlindChancesSaid : Prop := blindChancesRow.holds Try.pinned (OpenSpec.ofChange blindChancesSpec)

/-- ITS FALSE NEIGHBOUR: 'it returns false'. Refute it at one input. -/
def blindChancesWrong : ChangeSpec := { name := "blindChances", fn := fun _ => fun
  | [d1, d2, d3] => { results := [.lit (.bool false)], args := [d1, d2, d3] }
  | _ => none }
def BlindChancesWrongFalsely : Prop := blindChancesRow.holds Try.pinned (OpenSpec.ofChange blindChancesWrong)

/-- 'cherenkovlaw09.BlindTrials': WHATEVER THE INPUT: true; the input reads as it did. -/
def blindTrialsSpec : ChangeSpec := { name := "blindTrials", fn := fun _ => fun
  | [d1, d2] => { results := [.lit (.bool true)], args := [d1, d2] }
  | _ => none }
def blindTrialsRow : OpenClaim := { program := "ytllddidjiabegaa", sum := "ab8276d8aaf162737ccdb990c7e0d4a3083c1bf3118b7adc6abe0dd95aad203f", func := "cherenkov/cherenkovlaw09.BlindTrials", spec := "blindTrials", unfollowed := true, recurses := true, apart := false }
def BlindTrialsSaid : Prop := blindTrialsRow.holds Try.pinned (OpenSpec.ofChange blindTrialsSpec)

/-- ITS FALSE NEIGHBOUR: 'it returns false'. Refute it at one input. -/
def blindTrialsWrong : ChangeSpec := { name := "blindTrials", fn := fun _ => fun
  | [d1, d2] => { results := [.lit (.bool false)], args := [d1, d2] }
  | _ => none }
def BlindTrialsWrongFalsely : Prop := blindTrialsRow.holds Try.pinned (OpenSpec.ofChange blindTrialsWrong)

/-- 'cherenkovlaw09.BlindCovers': WHATEVER THE INPUT: true; the input reads as it did. -/
def blindCoversSpec : ChangeSpec := { name := "blindCovers", fn := fun _ => fun
  | [d1, d2, d3] => { results := [.lit (.bool true)], args := [d1, d2, d3] }
  | _ => none }
def blindCoversRow : OpenClaim := { program := "ytllddidjiabegaa", sum := "ab8276d8aaf162737ccdb990c7e0d4a3083c1bf3118b7adc6abe0dd95aad203f", func := "cherenkov/cherenkovlaw09.BlindCovers", spec := "blindCovers", unfollowed := true, recurses := true, apart := false }
def BlindCoversSaid : Prop := blindCoversRow.holds Try.pinned (OpenSpec.ofChange blindCoversSpec)

/-- ITS FALSE NEIGHBOUR: 'it returns false'. Refute it at one input. -/
def blindCoversWrong : ChangeSpec := { name := "blindCovers", fn := fun _ => fun
  | [d1, d2, d3] => { results := [.lit (.bool false)], args := [d1, d2, d3] }
  | _ => none }
def BlindCoversWrongFalsely : Prop := blindCoversRow.holds Try.pinned (OpenSpec.ofChange blindCoversWrong)

/-- 'cherenkovlaw09.BlindLimits': WHATEVER THE INPUT: true; the input reads as it did. -/
def blindLimitsSpec : ChangeSpec := { name := "blindLimits", fn := fun _ => fun
  | [d1, d2, d3] => { results := [.lit (.bool true)], args := [d1, d2, d3] }
  | _ => none }
def blindLimitsRow : OpenClaim := { program := "ytllddidjiabegaa", sum := "ab8276d8aaf162737ccdb990c7e0d4a3083c1bf3118b7adc6abe0dd95aad203f", func := "cherenkov/cherenkovlaw09.BlindLimits", spec := "blindLimits", unfollowed := true, recurses := true, apart := false }
def BlindLimitsSaid : Prop := blindLimitsRow.holds Try.pinned (OpenSpec.ofChange blindLimitsSpec)

/-- ITS FALSE NEIGHBOUR: 'it returns false'. Refute it at one input. -/
def blindLimitsWrong : ChangeSpec := { name := "blindLimits", fn := fun _ => fun
  | [d1, d2, d3] => { results := [.lit (.bool false)], args := [d1, d2, d3] }
  | _ => none }
def BlindLimitsWrongFalsely : Prop := blindLimitsRow.holds Try.pinned (OpenSpec.ofChange blindLimitsWrong)

/-- 'cherenkovlaw09.BlindThereAndBack': WHATEVER THE INPUT: true; the input reads as it did. -/
def blindThereAndBackSpec : ChangeSpec := { name := "blindThereAndBack", fn := fun _ => fun
  | [d1, d2] => { results := [.lit (.bool true)], args := [d1, d2] }
  | _ => none }
def blindThereAndBackRow : OpenClaim := { program := "ytllddidjiabegaa", sum := "ab8276d8aaf162737ccdb990c7e0d4a3083c1bf3118b7adc6abe0dd95aad203f", func := "cherenkov/cherenkovlaw09.BlindThereAndBack", spec := "blindThereAndBack", unfollowed := true, recurses := true, apart := false }
def BlindThereAndBackSaid : Prop := blindThereAndBackRow.holds Try.pinned (OpenSpec.ofChange blindThereAndBackSpec)

/-- ITS FALSE NEIGHBOUR: 'it returns false'. Refute it at one input. -/
def blindThereAndBackWrong : ChangeSpec := { name := "blindThereAndBack", fn := fun _ => fun
  | [d1, d2] => { results := [.lit (.bool false)], args := [d1, d2] }
  | _ => none }
def BlindThereAndBackWrongFalsely : Prop := blindThereAndBackRow.holds Try.pinned (OpenSpec.ofChange blindThereAndBackWrong)

/-- 'cherenkovlaw09.BlindPermutations': WHATEVER THE INPUT: true; the input reads as it did. -/
def blindPermutationsSpec : ChangeSpec := { name := "blindPermutations", fn := fun _ => fun
  | [d1, d2, d3] => { results := [.lit (.bool true)], args := [d1, d2, d3] }
  | _ => none }
def blindPermutationsRow : OpenClaim := { program := "ytllddidjiabegaa", sum := "ab8276d8aaf162737ccdb990c7e0d4a3083c1bf3118b7adc6abe0dd95aad203f", func := "cherenkov/cherenkovlaw09.BlindPermutations", spec := "blindPermutations", unfollowed := true, recurses := true, apart := false }
def BlindPermutationsSaid : Prop := blindPermutationsRow.holds Try.pinned (OpenSpec.ofChange blindPermutationsSpec)

/-- ITS FALSE NEIGHBOUR: 'it returns false'. Refute it at one input. -/
def blindPermutationsWrong : ChangeSpec := { name := "blindPermutations", fn := fun _ => fun
  | [d1, d2, d3] => { results := [.lit (.bool false)], args := [d1, d2, d3] }
  | _ => none }
def BlindPermutationsWrongFalsely : Prop := blindPermutationsRow.holds Try.pinned (OpenSpec.ofChange blindPermutationsWrong)

/-- 'cherenkovlaw09.BlindEvents': WHATEVER THE INPUT: true; the input reads as it did. -/
def blindEventsSpec : ChangeSpec := { name := "blindEvents", fn := fun _ => fun
  | [d1, d2] => { results := [.lit (.bool true)], args := [d1, d2] }
  | _ => none }
def blindEventsRow : OpenClaim := { program := "ytllddidjiabegaa", sum := "ab8276d8aaf162737ccdb990c7e0d4a3083c1bf3118b7adc6abe0dd95aad203f", func := "cherenkov/cherenkovlaw09.BlindEvents", spec := "blindEvents", unfollowed := true, recurses := true, apart := false }
def BlindEventsSaid : Prop := blindEventsRow.holds Try.pinned (OpenSpec.ofChange blindEventsSpec)

/-- ITS FALSE NEIGHBOUR: 'it returns false'. Refute it at one input. -/
def blindEventsWrong : ChangeSpec := { name := "blindEvents", fn := fun _ => fun
  | [d1, d2] => { results := [.lit (.bool false)], args := [d1, d2] }
  | _ => none }
def BlindEventsWrongFalsely : Prop := blindEventsRow.holds Try.pinned (OpenSpec.ofChange blindEventsWrong)

/- THE SECOND FORM. 'bulk': how many values and letters a reading holds, each counted each time it is reached (what is shared counts as often as it is met; a slice's spare places count too). A statement '..UptoSaid' is the law's where the arguments, and the package variables that the reading takes, are together of bulk at most 1048576: NARROWER than '..Said'. Prove '..Said' where nothing that the law and all that it calls make is longer than what came in: it says more and counts as full. Else prove '..UptoSaid'. A law counts once. -/
mutual
def uptoBulk {H : Type} : DataW H → Nat
  | .lit (.string bytes) => bytes.length + 1
  | .lit _ => 1
  | .nil => 1
  | .ptr d => uptoBulk d + 1
  | .slice elems spare => uptoBulkAll elems + uptoBulkAll spare + 1
  | .agg parts => uptoBulkAll parts + 1
  | .iface _ d => uptoBulk d + 1
  | .map entries => uptoBulkEntries entries + 1
  | .held _ => 1
def uptoBulkAll {H : Type} : List (DataW H) → Nat
  | [] => 0
  | d :: r => uptoBulk d + uptoBulkAll r
def uptoBulkEntries {H : Type} : List (Lit × DataW H) → Nat
  | [] => 0
  | x :: r => uptoBulkEntry x + uptoBulkEntries r
def uptoBulkEntry {H : Type} : Lit × DataW H → Nat
  | (.string bytes, d) => bytes.length + uptoBulk d + 1
  | (_, d) => uptoBulk d + 1
 end
def uptoSmall : (H : Type) → List (DataW H) → Bool := fun _ ds => decide (uptoBulkAll ds ≤ 1048576)
def OpenSpec.upto (s : _root_.Go.ChangeSpec) : _root_.Go.OpenSpec := { _root_.Go.OpenSpec.ofChange s with cond := some uptoSmall }

/-- 'cherenkovlaw09.BlindMethods', WHERE WHAT IT READS IS OF BULK AT MOST 1048576: true; the input reads as it did. -/
def blindMethodsUptoRow : OpenClaim := { program := "ytllddidjiabegaa", sum := "ab8276d8aaf162737ccdb990c7e0d4a3083c1bf3118b7adc6abe0dd95aad203f", func := "cherenkov/cherenkovlaw09.BlindMethods", spec := "blindMethods", unfollowed := true, recurses := true, apart := false, narrowed := true }
def BlindMethodsUptoSaid : Prop := blindMethodsUptoRow.holds Try.pinned (OpenSpec.upto blindMethodsSpec)

/-- 'cherenkovlaw09.BlindChances', WHERE WHAT IT READS IS OF BULK AT MOST 1048576: true; the input reads as it did. -/
def blindChancesUptoRow : OpenClaim := { program := "ytllddidjiabegaa", sum := "ab8276d8aaf162737ccdb990c7e0d4a3083c1bf3118b7adc6abe0dd95aad203f", func := "cherenkov/cherenkovlaw09.BlindChances", spec := "blindChances", unfollowed := true, recurses := true, apart := false, narrowed := true }
def BlindChancesUptoSaid : Prop := blindChancesUptoRow.holds Try.pinned (OpenSpec.upto blindChancesSpec)

/-- 'cherenkovlaw09.BlindTrials', WHERE WHAT IT READS IS OF BULK AT MOST 1048576: true; the input reads as it did. -/
def blindTrialsUptoRow : OpenClaim := { program := "ytllddidjiabegaa", sum := "ab8276d8aaf162737ccdb990c7e0d4a3083c1bf3118b7adc6abe0dd95aad203f", func := "cherenkov/cherenkovlaw09.BlindTrials", spec := "blindTrials", unfollowed := true, recurses := true, apart := false, narrowed := true }
def BlindTrialsUptoSaid : Prop := blindTrialsUptoRow.holds Try.pinned (OpenSpec.upto blindTrialsSpec)

/-- 'cherenkovlaw09.BlindCovers', WHERE WHAT IT READS IS OF BULK AT MOST 1048576: true; the input reads as it did. -/
def blindCoversUptoRow : OpenClaim := { program := "ytllddidjiabegaa", sum := "ab8276d8aaf162737ccdb990c7e0d4a3083c1bf3118b7adc6abe0dd95aad203f", func := "cherenkov/cherenkovlaw09.BlindCovers", spec := "blindCovers", unfollowed := true, recurses := true, apart := false, narrowed := true }
def BlindCoversUptoSaid : Prop := blindCoversUptoRow.holds Try.pinned (OpenSpec.upto blindCoversSpec)

/-- 'cherenkovlaw09.BlindLimits', WHERE WHAT IT READS IS OF BULK AT MOST 1048576: true; the input reads as it did. -/
def blindLimitsUptoRow : OpenClaim := { program := "ytllddidjiabegaa", sum := "ab8276d8aaf162737ccdb990c7e0d4a3083c1bf3118b7adc6abe0dd95aad203f", func := "cherenkov/cherenkovlaw09.BlindLimits", spec := "blindLimits", unfollowed := true, recurses := true, apart := false, narrowed := true }
def BlindLimitsUptoSaid : Prop := blindLimitsUptoRow.holds Try.pinned (OpenSpec.upto blindLimitsSpec)

/-- 'cherenkovlaw09.BlindThereAndBack', WHERE WHAT IT READS IS OF BULK AT MOST 1048576: true; the input reads as it did. -/
def blindThereAndBackUptoRow : OpenClaim := { program := "ytllddidjiabegaa", sum := "ab8276d8aaf162737ccdb990c7e0d4a3083c1bf3118b7adc6abe0dd95aad203f", func := "cherenkov/cherenkovlaw09.BlindThereAndBack", spec := "blindThereAndBack", unfollowed := true, recurses := true, apart := false, narrowed := true }
def BlindThereAndBackUptoSaid : Prop := blindThereAndBackUptoRow.holds Try.pinned (OpenSpec.upto blindThereAndBackSpec)

/-- 'cherenkovlaw09.BlindPermutations', WHERE WHAT IT READS IS OF BULK AT MOST 1048576: true; the input reads as it did. -/
def blindPermutationsUptoRow : OpenClaim := { program := "ytllddidjiabegaa", sum := "ab8276d8aaf162737ccdb990c7e0d4a3083c1bf3118b7adc6abe0dd95aad203f", func := "cherenkov/cherenkovlaw09.BlindPermutations", spec := "blindPermutations", unfollowed := true, recurses := true, apart := false, narrowed := true }
def BlindPermutationsUptoSaid : Prop := blindPermutationsUptoRow.holds Try.pinned (OpenSpec.upto blindPermutationsSpec)

/-- 'cherenkovlaw09.BlindEvents', WHERE WHAT IT READS IS OF BULK AT MOST 1048576: true; the input reads as it did. -/
def blindEventsUptoRow : OpenClaim := { program := "ytllddidjiabegaa", sum := "ab8276d8aaf162737ccdb990c7e0d4a3083c1bf3118b7adc6abe0dd95aad203f", func := "cherenkov/cherenkovlaw09.BlindEvents", spec := "blindEvents", unfollowed := true, recurses := true, apart := false, narrowed := true }
def BlindEventsUptoSaid : Prop := blindEventsUptoRow.holds Try.pinned (OpenSpec.upto blindEventsSpec)

end Rows
end Go.Proofs.Ytllddidjiabegaa
