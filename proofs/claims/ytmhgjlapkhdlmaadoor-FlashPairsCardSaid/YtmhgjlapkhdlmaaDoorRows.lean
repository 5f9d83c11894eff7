/-
  NARROWER THAN 'FOR EVERY INPUT', by the rows' own cells (each row's printed sentence says how): FlashHits: laid · FlashSmallest: laid · FlashVetoes: laid · FlashGreater: laid · FlashEnergies: laid · FlashLight: laid · FlashFewest: laid · FlashVertices: laid · FlashTruth: laid · FlashPairs: laid · FlashOneOrTwo: laid.
  DERIVED. THE GIVEN ROWS OF THIS SEAT. 11 by the template 'for every input the law returns true; each argument reads behind the call as it read before'; 0 by the template 'total and deterministic' (their statements: YtmhgjlapkhdlmaaDoorTotals.lean).
  GIVEN WITH THE SEED: the statements are not yours to turn. If you find one false, say at which input.
  Laid BY PROGRAM, IN A SANDBOX (cutbox-rows.mjs): the forced cells as the released guide's own fill.sh prints them over the translation 161ceb0c3859a994… (all of the seat's roots in one cut). By AI agents, Wed Nov 11 2026. No macro, syntax, notation, axiom, sorry.
-/
import Derived.Test.YtmhgjlapkhdlmaaDoorChecked
import GoSem.Claim
import GoSem.ClaimJoined
import GoSem.ClaimMapViews
import Derived.JoinedTies
import Derived.KernelRfl
namespace Go.Proofs.YtmhgjlapkhdlmaaDoor
/- THE CELL 'sum', in the pinned program and in every row, IS THE sha256 OF THE DUMP (.gsa) THAT YtmhgjlapkhdlmaaDoorProg.lean LOADS. Nothing in Lean hashes anything: it is a label: what it is worth is what the hold of that sum in a sandbox is worth. -/
noncomputable def Tryd.pinned : Pinned := { name := "ytmhgjlapkhdlmaadoor", sum := "161ceb0c3859a994bb022205a2b5143998daec1c5f23607701eb24a445a533c9", checked := Tryd.checked }
namespace Rows
def none {H : Type} : Left H := { results := [], args := [] }

/- WHAT THE LISTED PACKAGE-LEVEL VARIABLES READ AS WHEN THE CALL BEGINS. Each datum BY PROGRAM (the guide's laid-datum.mjs) off the statement by which the dump's own 'gosem.cut.vars' lays the variable. In a bare row this is a premise. The card (YtmhgjlapkhdlmaaDoorCards.lean) ties it to the program's text. -/
def laid_math_bits_deBruijn32tab {H : Type} : DataW H := .agg [.lit (.int .u8 0), .lit (.int .u8 1), .lit (.int .u8 28), .lit (.int .u8 2), .lit (.int .u8 29), .lit (.int .u8 14), .lit (.int .u8 24), .lit (.int .u8 3), .lit (.int .u8 30), .lit (.int .u8 22), .lit (.int .u8 20), .lit (.int .u8 15), .lit (.int .u8 25), .lit (.int .u8 17), .lit (.int .u8 4), .lit (.int .u8 8), .lit (.int .u8 31), .lit (.int .u8 27), .lit (.int .u8 13), .lit (.int .u8 23), .lit (.int .u8 21), .lit (.int .u8 19), .lit (.int .u8 16), .lit (.int .u8 7), .lit (.int .u8 26), .lit (.int .u8 12), .lit (.int .u8 18), .lit (.int .u8 6), .lit (.int .u8 11), .lit (.int .u8 5), .lit (.int .u8 10), .lit (.int .u8 9)]
def laid_math_bits_deBruijn64tab {H : Type} : DataW H := .agg [.lit (.int .u8 0), .lit (.int .u8 1), .lit (.int .u8 56), .lit (.int .u8 2), .lit (.int .u8 57), .lit (.int .u8 49), .lit (.int .u8 28), .lit (.int .u8 3), .lit (.int .u8 61), .lit (.int .u8 58), .lit (.int .u8 42), .lit (.int .u8 50), .lit (.int .u8 38), .lit (.int .u8 29), .lit (.int .u8 17), .lit (.int .u8 4), .lit (.int .u8 62), .lit (.int .u8 47), .lit (.int .u8 59), .lit (.int .u8 36), .lit (.int .u8 45), .lit (.int .u8 43), .lit (.int .u8 51), .lit (.int .u8 22), .lit (.int .u8 53), .lit (.int .u8 39), .lit (.int .u8 33), .lit (.int .u8 30), .lit (.int .u8 24), .lit (.int .u8 18), .lit (.int .u8 12), .lit (.int .u8 5), .lit (.int .u8 63), .lit (.int .u8 55), .lit (.int .u8 48), .lit (.int .u8 27), .lit (.int .u8 60), .lit (.int .u8 41), .lit (.int .u8 37), .lit (.int .u8 16), .lit (.int .u8 46), .lit (.int .u8 35), .lit (.int .u8 44), .lit (.int .u8 21), .lit (.int .u8 52), .lit (.int .u8 32), .lit (.int .u8 23), .lit (.int .u8 11), .lit (.int .u8 54), .lit (.int .u8 26), .lit (.int .u8 40), .lit (.int .u8 15), .lit (.int .u8 34), .lit (.int .u8 20), .lit (.int .u8 31), .lit (.int .u8 10), .lit (.int .u8 25), .lit (.int .u8 14), .lit (.int .u8 19), .lit (.int .u8 9), .lit (.int .u8 13), .lit (.int .u8 8), .lit (.int .u8 7), .lit (.int .u8 6)]

/-- 'cherenkovlaw06.FlashHits': WHATEVER THE INPUT: true; the input reads as it did. -/
def flashHitsSpec : ChangeSpec := { name := "flashHits", fn := fun _ => fun
  | [d1, d2, d3] => { results := [.lit (.bool true)], args := [d1, d2, d3] }
  | _ => none }
def flashHitsRow : OpenClaim := { program := "ytmhgjlapkhdlmaadoor", sum := "161ceb0c3859a994bb022205a2b5143998daec1c5f23607701eb24a445a533c9", func := "cherenkov/cherenkovlaw06.FlashHits", spec := "flashHits", unfollowed := true, recurses := true, named := ["math/bits.deBruijn32tab", "math/bits.deBruijn64tab"], apart := false, laid := [("math/bits.deBruijn32tab", laid_math_bits_deBruijn32tab), ("math/bits.deBruijn64tab", laid_math_bits_deBruijn64tab)] }
def FlashHitsSaid : Prop := flashHitsRow.holds Tryd.pinned (OpenSpec.ofChange flashHitsSpec)

/-- ITS FALSE NEIGHBOUR: 'it returns false'. Refute it at one input. -/
def flashHitsWrong : ChangeSpec := { name := "flashHits", fn := fun _ => fun
  | [d1, d2, d3] => { results := [.lit (.bool false)], args := [d1, d2, d3] }
  | _ => none }
def FlashHitsWrongFalsely : Prop := flashHitsRow.holds Tryd.pinned (OpenSpec.ofChange flashHitsWrong)

/-- 'cherenkovlaw06.FlashSmallest': WHATEVER THE INPUT: true; the input reads as it did. -/
def flashSmallestSpec : ChangeSpec := { name := "flashSmallest", fn := fun _ => fun
  | [d1, d2, d3] => { results := [.lit (.bool true)], args := [d1, d2, d3] }
  | _ => none }
def flashSmallestRow : OpenClaim := { program := "ytmhgjlapkhdlmaadoor", sum := "161ceb0c3859a994bb022205a2b5143998daec1c5f23607701eb24a445a533c9", func := "cherenkov/cherenkovlaw06.FlashSmallest", spec := "flashSmallest", unfollowed := true, recurses := true, named := ["math/bits.deBruijn32tab", "math/bits.deBruijn64tab"], apart := false, laid := [("math/bits.deBruijn32tab", laid_math_bits_deBruijn32tab), ("math/bits.deBruijn64tab", laid_math_bits_deBruijn64tab)] }
def FlashSmallestSaid : Prop := flashSmallestRow.holds Tryd.pinned (OpenSpec.ofChange flashSmallestSpec)

/-- ITS FALSE NEIGHBOUR: 'it returns false'. Refute it at one input. -/
def flashSmallestWrong : ChangeSpec := { name := "flashSmallest", fn := fun _ => fun
  | [d1, d2, d3] => { results := [.lit (.bool false)], args := [d1, d2, d3] }
  | _ => none }
def FlashSmallestWrongFalsely : Prop := flashSmallestRow.holds Tryd.pinned (OpenSpec.ofChange flashSmallestWrong)

/-- 'cherenkovlaw06.FlashVetoes': WHATEVER THE INPUT: true; the input reads as it did. -/
def flashVetoesSpec : ChangeSpec := { name := "flashVetoes", fn := fun _ => fun
  | [d1, d2] => { results := [.lit (.bool true)], args := [d1, d2] }
  | _ => none }
def flashVetoesRow : OpenClaim := { program := "ytmhgjlapkhdlmaadoor", sum := "161ceb0c3859a994bb022205a2b5143998daec1c5f23607701eb24a445a533c9", func := "cherenkov/cherenkovlaw06.FlashVetoes", spec := "flashVetoes", unfollowed := true, recurses := true, named := ["math/bits.deBruijn32tab", "math/bits.deBruijn64tab"], apart := false, laid := [("math/bits.deBruijn32tab", laid_math_bits_deBruijn32tab), ("math/bits.deBruijn64tab", laid_math_bits_deBruijn64tab)] }
def FlashVetoesSaid : Prop := flashVetoesRow.holds Tryd.pinned (OpenSpec.ofChange flashVetoesSpec)

/-- ITS FALSE NEIGHBOUR: 'it returns false'. Refute it at one input. -/
def flashVetoesWrong : ChangeSpec := { name := "flashVetoes", fn := fun _ => fun
  | [d1, d2] => { results := [.lit (.bool false)], args := [d1, d2] }
  | _ => none }
def FlashVetoesWrongFalsely : Prop := flashVetoesRow.holds Tryd.pinned (OpenSpec.ofChange flashVetoesWrong)

/-- 'cherenkovlaw06.FlashGreater': WHATEVER THE INPUT: true; the input reads as it did. -/
def flashGreaterSpec : ChangeSpec := { name := "flashGreater", fn := fun _ => fun
  | [d1, d2, d3] => { results := [.lit (.bool true)], args := [d1, d2, d3] }
  | _ => none }
def flashGreaterRow : OpenClaim := { program := "ytmhgjlapkhdlmaadoor", sum := "161ceb0c3859a994bb022205a2b5143998daec1c5f23607701eb24a445a533c9", func := "cherenkov/cherenkovlaw06.FlashGreater", spec := "flashGreater", unfollowed := true, recurses := true, named := ["math/bits.deBruijn32tab", "math/bits.deBruijn64tab"], apart := false, laid := [("math/bits.deBruijn32tab", laid_math_bits_deBruijn32tab), ("math/bits.deBruijn64tab", laid_math_bits_deBruijn64tab)] }
def FlashGreaterSaid : Prop := flashGreaterRow.holds Tryd.pinned (OpenSpec.ofChange flashGreaterSpec)

/-- ITS FALSE NEIGHBOUR: 'it returns false'. Refute it at one input. -/
def flashGreaterWrong : ChangeSpec := { name := "flashGreater", fn := fun _ => fun
  | [d1, d2, d3] => { results := [.lit (.bool false)], args := [d1, d2, d3] }
  | _ => none }
def FlashGreaterWrongFalsely : Prop := flashGreaterRow.holds Tryd.pinned (OpenSpec.ofChange flashGreaterWrong)

/-- 'cherenkovlaw06.FlashEnergies': WHATEVER THE INPUT: true; the input reads as it did. -/
def flashEnergiesSpec : ChangeSpec := { name := "flashEnergies", fn := fun _ => fun
  | [d1, d2, d3] => { results := [.lit (.bool true)], args := [d1, d2, d3] }
  | _ => none }
def flashEnergiesRow : OpenClaim := { program := "ytmhgjlapkhdlmaadoor", sum := "161ceb0c3859a994bb022205a2b5143998daec1c5f23607701eb24a445a533c9", func := "cherenkov/cherenkovlaw06.FlashEnergies", spec := "flashEnergies", unfollowed := true, recurses := true, named := ["math/bits.deBruijn32tab", "math/bits.deBruijn64tab"], apart := false, laid := [("math/bits.deBruijn32tab", laid_math_bits_deBruijn32tab), ("math/bits.deBruijn64tab", laid_math_bits_deBruijn64tab)] }
def FlashEnergiesSaid : Prop := flashEnergiesRow.holds Tryd.pinned (OpenSpec.ofChange flashEnergiesSpec)

/-- ITS FALSE NEIGHBOUR: 'it returns false'. Refute it at one input. -/
def flashEnergiesWrong : ChangeSpec := { name := "flashEnergies", fn := fun _ => fun
  | [d1, d2, d3] => { results := [.lit (.bool false)], args := [d1, d2, d3] }
  | _ => none }
def FlashEnergiesWrongFalsely : Prop := flashEnergiesRow.holds Tryd.pinned (OpenSpec.ofChange flashEnergiesWrong)

/-- 'cherenkovlaw06.FlashLight': WHATEVER THE INPUT: true; the input reads as it did. -/
def flashLightSpec : ChangeSpec := { name := "flashLight", fn := fun _ => fun
  | [d1, d2, d3] => { results := [.lit (.bool true)], args := [d1, d2, d3] }
  | _ => none }
def flashLightRow : OpenClaim := { program := "ytmhgjlapkhdlmaadoor", sum := "161ceb0c3859a994bb022205a2b5143998daec1c5f23607701eb24a445a533c9", func := "cherenkov/cherenkovlaw06.FlashLight", spec := "flashLight", unfollowed := true, recurses := true, named := ["math/bits.deBruijn32tab", "math/bits.deBruijn64tab"], apart := false, laid := [("math/bits.deBruijn32tab", laid_math_bits_deBruijn32tab), ("math/bits.deBruijn64tab", laid_math_bits_deBruijn64tab)] }
def FlashLightSaid : Prop := flashLightRow.holds Tryd.pinned (OpenSpec.ofChange flashLightSpec)

/-- ITS FALSE NEIGHBOUR: 'it returns false'. Refute it at one input. -/
def flashLightWrong : ChangeSpec := { name := "flashLight", fn := fun _ => fun
  | [d1, d2, d3] => { results := [.lit (.bool false)], args := [d1, d2, d3] }
  | _ => none }
def FlashLightWrongFalsely : Prop := flashLightRow.holds Tryd.pinned (OpenSpec.ofChange flashLightWrong)

/-- 'cherenkovlaw06.FlashFewest': WHATEVER THE INPUT: true; the input reads as it did. -/
def flashFewestSpec : ChangeSpec := { name := "flashFewest", fn := fun _ => fun
  | [d1, d2] => { results := [.lit (.bool true)], args := [d1, d2] }
  | _ => none }
def flashFewestRow : OpenClaim := { program := "ytmhgjlapkhdlmaadoor", sum := "161ceb0c3859a994bb022205a2b5143998daec1c5f23607701eb24a445a533c9", func := "cherenkov/cherenkovlaw06.FlashFewest", spec := "flashFewest", unfollowed := true, recurses := true, named := ["math/bits.deBruijn32tab", "math/bits.deBruijn64tab"], apart := false, laid := [("math/bits.deBruijn32tab", laid_math_bits_deBruijn32tab), ("math/bits.deBruijn64tab", laid_math_bits_deBruijn64tab)] }
def FlashFewestSaid : Prop := flashFewestRow.holds Tryd.pinned (OpenSpec.ofChange flashFewestSpec)

/-- ITS FALSE NEIGHBOUR: 'it returns false'. Refute it at one input. -/
def flashFewestWrong : ChangeSpec := { name := "flashFewest", fn := fun _ => fun
  | [d1, d2] => { results := [.lit (.bool false)], args := [d1, d2] }
  | _ => none }
def FlashFewestWrongFalsely : Prop := flashFewestRow.holds Tryd.pinned (OpenSpec.ofChange flashFewestWrong)

/-- 'cherenkovlaw06.FlashVertices': WHATEVER THE INPUT: true; the input reads as it did. -/
def flashVerticesSpec : ChangeSpec := { name := "flashVertices", fn := fun _ => fun
  | [d1, d2, d3] => { results := [.lit (.bool true)], args := [d1, d2, d3] }
  | _ => none }
def flashVerticesRow : OpenClaim := { program := "ytmhgjlapkhdlmaadoor", sum := "161ceb0c3859a994bb022205a2b5143998daec1c5f23607701eb24a445a533c9", func := "cherenkov/cherenkovlaw06.FlashVertices", spec := "flashVertices", unfollowed := true, recurses := true, named := ["math/bits.deBruijn32tab", "math/bits.deBruijn64tab"], apart := false, laid := [("math/bits.deBruijn32tab", laid_math_bits_deBruijn32tab), ("math/bits.deBruijn64tab", laid_math_bits_deBruijn64tab)] }
def FlashVerticesSaid : Prop := flashVerticesRow.holds Tryd.pinned (OpenSpec.ofChange flashVerticesSpec)

/-- ITS FALSE NEIGHBOUR: 'it returns false'. Refute it at one input. -/
def flashVerticesWrong : ChangeSpec := { name := "flashVertices", fn := fun _ => fun
  | [d1, d2, d3] => { results := [.lit (.bool false)], args := [d1, d2, d3] }
  | _ => none }
def FlashVerticesWrongFalsely : Prop := flashVerticesRow.holds Tryd.pinned (OpenSpec.ofChange flashVerticesWrong)

/-- 'cherenkovlaw06.FlashTruth': WHATEVER THE INPUT: true; the input reads as it did. -/
def flashTruthSpec : ChangeSpec := { name := "flashTruth", fn := fun _ => fun
  | [d1, d2, d3] => { results := [.lit (.bool true)], args := [d1, d2, d3] }
  | _ => none }
def flashTruthRow : OpenClaim := { program := "ytmhgjlapkhdlmaadoor", sum := "161ceb0c3859a994bb022205a2b5143998daec1c5f23607701eb24a445a533c9", func := "cherenkov/cherenkovlaw06.FlashTruth", spec := "flashTruth", unfollowed := true, recurses := true, named := ["math/bits.deBruijn32tab", "math/bits.deBruijn64tab"], apart := false, laid := [("math/bits.deBruijn32tab", laid_math_bits_deBruijn32tab), ("math/bits.deBruijn64tab", laid_math_bits_deBruijn64tab)] }
def FlashTruthSaid : Prop := flashTruthRow.holds Tryd.pinned (OpenSpec.ofChange flashTruthSpec)

/-- ITS FALSE NEIGHBOUR: 'it returns false'. Refute it at one input. -/
def flashTruthWrong : ChangeSpec := { name := "flashTruth", fn := fun _ => fun
  | [d1, d2, d3] => { results := [.lit (.bool false)], args := [d1, d2, d3] }
  | _ => none }
def FlashTruthWrongFalsely : Prop := flashTruthRow.holds Tryd.pinned (OpenSpec.ofChange flashTruthWrong)

/-- 'cherenkovlaw06.FlashPairs': WHATEVER THE INPUT: true; the input reads as it did. -/
def flashPairsSpec : ChangeSpec := { name := "flashPairs", fn := fun _ => fun
  | [d1, d2, d3] => { results := [.lit (.bool true)], args := [d1, d2, d3] }
  | _ => none }
def flashPairsRow : OpenClaim := { program := "ytmhgjlapkhdlmaadoor", sum := "161ceb0c3859a994bb022205a2b5143998daec1c5f23607701eb24a445a533c9", func := "cherenkov/cherenkovlaw06.FlashPairs", spec := "flashPairs", unfollowed := true, recurses := true, named := ["math/bits.deBruijn32tab", "math/bits.deBruijn64tab"], apart := false, laid := [("math/bits.deBruijn32tab", laid_math_bits_deBruijn32tab), ("math/bits.deBruijn64tab", laid_math_bits_deBruijn64tab)] }
def FlashPairsSaid : Prop := flashPairsRow.holds Tryd.pinned (OpenSpec.ofChange flashPairsSpec)

/-- ITS FALSE NEIGHBOUR: 'it returns false'. Refute it at one input. -/
def flashPairsWrong : ChangeSpec := { name := "flashPairs", fn := fun _ => fun
  | [d1, d2, d3] => { results := [.lit (.bool false)], args := [d1, d2, d3] }
  | _ => none }
def FlashPairsWrongFalsely : Prop := flashPairsRow.holds Tryd.pinned (OpenSpec.ofChange flashPairsWrong)

/-- 'cherenkovlaw06.FlashOneOrTwo': WHATEVER THE INPUT: true; the input reads as it did. -/
def flashOneOrTwoSpec : ChangeSpec := { name := "flashOneOrTwo", fn := fun _ => fun
  | [d1, d2, d3] => { results := [.lit (.bool true)], args := [d1, d2, d3] }
  | _ => none }
def flashOneOrTwoRow : OpenClaim := { program := "ytmhgjlapkhdlmaadoor", sum := "161ceb0c3859a994bb022205a2b5143998daec1c5f23607701eb24a445a533c9", func := "cherenkov/cherenkovlaw06.FlashOneOrTwo", spec := "flashOneOrTwo", unfollowed := true, recurses := true, named := ["math/bits.deBruijn32tab", "math/bits.deBruijn64tab"], apart := false, laid := [("math/bits.deBruijn32tab", laid_math_bits_deBruijn32tab), ("math/bits.deBruijn64tab", laid_math_bits_deBruijn64tab)] }
def FlashOneOrTwoSaid : Prop := flashOneOrTwoRow.holds Tryd.pinned (OpenSpec.ofChange flashOneOrTwoSpec)

/-- ITS FALSE NEIGHBOUR: 'it returns false'. Refute it at one input. -/
def flashOneOrTwoWrong : ChangeSpec := { name := "flashOneOrTwo", fn := fun _ => fun
  | [d1, d2, d3] => { results := [.lit (.bool false)], args := [d1, d2, d3] }
  | _ => none }
def FlashOneOrTwoWrongFalsely : Prop := flashOneOrTwoRow.holds Tryd.pinned (OpenSpec.ofChange flashOneOrTwoWrong)

/- THE SECOND FORM. 'bulk': how many values and letters a reading holds, each counted each time it is reached (what is shared counts as often as it is met; a slice's spare places count too). A statement '..UptoSaid' is the law's where the arguments, and the package variables that the reading takes, are together of bulk at most 1048576: NARROWER than '..Said'. Prove '..Said' where nothing that the law and all that it calls make is longer than what came in: it says more and counts as full. Else prove '..UptoSaid'. A law counts once. -/
mutual
def uptoBulk {H : Type} : DataW H → Nat
  | .lit (.string bytes) => bytes.length + 1
  | .lit _ => 1
  | .nil => 1
  | .ptr d => uptoBulk d + 1
  | .slice elems spare => uptoBulkAll elems + uptoBulkAll spare + 1
  | .agg parts => uptoBulkAll parts + 1
  | .iface _ d => uptoBulk d + 1
  | .map entries => uptoBulkEntries entries + 1
  | .held _ => 1
def uptoBulkAll {H : Type} : List (DataW H) → Nat
  | [] => 0
  | d :: r => uptoBulk d + uptoBulkAll r
def uptoBulkEntries {H : Type} : List (Lit × DataW H) → Nat
  | [] => 0
  | x :: r => uptoBulkEntry x + uptoBulkEntries r
def uptoBulkEntry {H : Type} : Lit × DataW H → Nat
  | (.string bytes, d) => bytes.length + uptoBulk d + 1
  | (_, d) => uptoBulk d + 1
 end
def uptoSmall : (H : Type) → List (DataW H) → Bool := fun _ ds => decide (uptoBulkAll ds ≤ 1048576)
def OpenSpec.upto (s : _root_.Go.ChangeSpec) : _root_.Go.OpenSpec := { _root_.Go.OpenSpec.ofChange s with cond := some uptoSmall }

/-- 'cherenkovlaw06.FlashHits', WHERE WHAT IT READS IS OF BULK AT MOST 1048576: true; the input reads as it did. -/
def flashHitsUptoRow : OpenClaim := { program := "ytmhgjlapkhdlmaadoor", sum := "161ceb0c3859a994bb022205a2b5143998daec1c5f23607701eb24a445a533c9", func := "cherenkov/cherenkovlaw06.FlashHits", spec := "flashHits", unfollowed := true, recurses := true, named := ["math/bits.deBruijn32tab", "math/bits.deBruijn64tab"], apart := false, laid := [("math/bits.deBruijn32tab", laid_math_bits_deBruijn32tab), ("math/bits.deBruijn64tab", laid_math_bits_deBruijn64tab)], narrowed := true }
def FlashHitsUptoSaid : Prop := flashHitsUptoRow.holds Tryd.pinned (OpenSpec.upto flashHitsSpec)

/-- 'cherenkovlaw06.FlashSmallest', WHERE WHAT IT READS IS OF BULK AT MOST 1048576: true; the input reads as it did. -/
def flashSmallestUptoRow : OpenClaim := { program := "ytmhgjlapkhdlmaadoor", sum := "161ceb0c3859a994bb022205a2b5143998daec1c5f23607701eb24a445a533c9", func := "cherenkov/cherenkovlaw06.FlashSmallest", spec := "flashSmallest", unfollowed := true, recurses := true, named := ["math/bits.deBruijn32tab", "math/bits.deBruijn64tab"], apart := false, laid := [("math/bits.deBruijn32tab", laid_math_bits_deBruijn32tab), ("math/bits.deBruijn64tab", laid_math_bits_deBruijn64tab)], narrowed := true }
def FlashSmallestUptoSaid : Prop := flashSmallestUptoRow.holds Tryd.pinned (OpenSpec.upto flashSmallestSpec)

/-- 'cherenkovlaw06.FlashVetoes', WHERE WHAT IT READS IS OF BULK AT MOST 1048576: true; the input reads as it did. -/
def flashVetoesUptoRow : OpenClaim := { program := "ytmhgjlapkhdlmaadoor", sum := "161ceb0c3859a994bb022205a2b5143998daec1c5f23607701eb24a445a533c9", func := "cherenkov/cherenkovlaw06.FlashVetoes", spec := "flashVetoes", unfollowed := true, recurses := true, named := ["math/bits.deBruijn32tab", "math/bits.deBruijn64tab"], apart := false, laid := [("math/bits.deBruijn32tab", laid_math_bits_deBruijn32tab), ("math/bits.deBruijn64tab", laid_math_bits_deBruijn64tab)], narrowed := true }
def FlashVetoesUptoSaid : Prop := flashVetoesUptoRow.holds Tryd.pinned (OpenSpec.upto flashVetoesSpec)

/-- 'cherenkovlaw06.FlashGreater', WHERE WHAT IT READS IS OF BULK AT MOST 1048576: true; the input reads as it did. -/
def flashGreaterUptoRow : OpenClaim := { program := "ytmhgjlapkhdlmaadoor", sum := "161ceb0c3859a994bb022205a2b5143998daec1c5f23607701eb24a445a533c9", func := "cherenkov/cherenkovlaw06.FlashGreater", spec := "flashGreater", unfollowed := true, recurses := true, named := ["math/bits.deBruijn32tab", "math/bits.deBruijn64tab"], apart := false, laid := [("math/bits.deBruijn32tab", laid_math_bits_deBruijn32tab), ("math/bits.deBruijn64tab", laid_math_bits_deBruijn64tab)], narrowed := true }
def FlashGreaterUptoSaid : Prop := flashGreaterUptoRow.holds Tryd.pinned (OpenSpec.upto flashGreaterSpec)

/-- 'cherenkovlaw06.FlashEnergies', WHERE WHAT IT READS IS OF BULK AT MOST 1048576: true; the input reads as it did. -/
def flashEnergiesUptoRow : OpenClaim := { program := "ytmhgjlapkhdlmaadoor", sum := "161ceb0c3859a994bb022205a2b5143998daec1c5f23607701eb24a445a533c9", func := "cherenkov/cherenkovlaw06.FlashEnergies", spec := "flashEnergies", unfollowed := true, recurses := true, named := ["math/bits.deBruijn32tab", "math/bits.deBruijn64tab"], apart := false, laid := [("math/bits.deBruijn32tab", laid_math_bits_deBruijn32tab), ("math/bits.deBruijn64tab", laid_math_bits_deBruijn64tab)], narrowed := true }
def FlashEnergiesUptoSaid : Prop := flashEnergiesUptoRow.holds Tryd.pinned (OpenSpec.upto flashEnergiesSpec)

/-- 'cherenkovlaw06.FlashLight', WHERE WHAT IT READS IS OF BULK AT MOST 1048576: true; the input reads as it did. -/
def flashLightUptoRow : OpenClaim := { program := "ytmhgjlapkhdlmaadoor", sum := "161ceb0c3859a994bb022205a2b5143998daec1c5f23607701eb24a445a533c9", func := "cherenkov/cherenkovlaw06.FlashLight", spec := "flashLight", unfollowed := true, recurses := true, named := ["math/bits.deBruijn32tab", "math/bits.deBruijn64tab"], apart := false, laid := [("math/bits.deBruijn32tab", laid_math_bits_deBruijn32tab), ("math/bits.deBruijn64tab", laid_math_bits_deBruijn64tab)], narrowed := true }
def FlashLightUptoSaid : Prop := flashLightUptoRow.holds Tryd.pinned (OpenSpec.upto flashLightSpec)

/-- 'cherenkovlaw06.FlashFewest', WHERE WHAT IT READS IS OF BULK AT MOST 1048576: true; the input reads as it did. -/
def flashFewestUptoRow : OpenClaim := { program := "ytmhgjlapkhdlmaadoor", sum := "161ceb0c3859a994bb022205a2b5143998daec1c5f23607701eb24a445a533c9", func := "cherenkov/cherenkovlaw06.FlashFewest", spec := "flashFewest", unfollowed := true, recurses := true, named := ["math/bits.deBruijn32tab", "math/bits.deBruijn64tab"], apart := false, laid := [("math/bits.deBruijn32tab", laid_math_bits_deBruijn32tab), ("math/bits.deBruijn64tab", laid_math_bits_deBruijn64tab)], narrowed := true }
def FlashFewestUptoSaid : Prop := flashFewestUptoRow.holds Tryd.pinned (OpenSpec.upto flashFewestSpec)

/-- 'cherenkovlaw06.FlashVertices', WHERE WHAT IT READS IS OF BULK AT MOST 1048576: true; the input reads as it did. -/
def flashVerticesUptoRow : OpenClaim := { program := "ytmhgjlapkhdlmaadoor", sum := "161ceb0c3859a994bb022205a2b5143998daec1c5f23607701eb24a445a533c9", func := "cherenkov/cherenkovlaw06.FlashVertices", spec := "flashVertices", unfollowed := true, recurses := true, named := ["math/bits.deBruijn32tab", "math/bits.deBruijn64tab"], apart := false, laid := [("math/bits.deBruijn32tab", laid_math_bits_deBruijn32tab), ("math/bits.deBruijn64tab", laid_math_bits_deBruijn64tab)], narrowed := true }
def FlashVerticesUptoSaid : Prop := flashVerticesUptoRow.holds Tryd.pinned (OpenSpec.upto flashVerticesSpec)

/-- 'cherenkovlaw06.FlashTruth', WHERE WHAT IT READS IS OF BULK AT MOST 1048576: true; the input reads as it did. -/
def flashTruthUptoRow : OpenClaim := { program := "ytmhgjlapkhdlmaadoor", sum := "161ceb0c3859a994bb022205a2b5143998daec1c5f23607701eb24a445a533c9", func := "cherenkov/cherenkovlaw06.FlashTruth", spec := "flashTruth", unfollowed := true, recurses := true, named := ["math/bits.deBruijn32tab", "math/bits.deBruijn64tab"], apart := false, laid := [("math/bits.deBruijn32tab", laid_math_bits_deBruijn32tab), ("math/bits.deBruijn64tab", laid_math_bits_deBruijn64tab)], narrowed := true }
def FlashTruthUptoSaid : Prop := flashTruthUptoRow.holds Tryd.pinned (OpenSpec.upto flashTruthSpec)

/-- 'cherenkovlaw06.FlashPairs', WHERE WHAT IT READS IS OF BULK AT MOST 1048576: true; the input reads as it did. -/
def flashPairsUptoRow : OpenClaim := { program := "ytmhgjlapkhdlmaadoor", sum := "161ceb0c3859a994bb022205a2b5143998daec1c5f23607701eb24a445a533c9", func := "cherenkov/cherenkovlaw06.FlashPairs", spec := "flashPairs", unfollowed := true, recurses := true, named := ["math/bits.deBruijn32tab", "math/bits.deBruijn64tab"], apart := false, laid := [("math/bits.deBruijn32tab", laid_math_bits_deBruijn32tab), ("math/bits.deBruijn64tab", laid_math_bits_deBruijn64tab)], narrowed := true }
def FlashPairsUptoSaid : Prop := flashPairsUptoRow.holds Tryd.pinned (OpenSpec.upto flashPairsSpec)

/-- 'cherenkovlaw06.FlashOneOrTwo', WHERE WHAT IT READS IS OF BULK AT MOST 1048576: true; the input reads as it did. -/
def flashOneOrTwoUptoRow : OpenClaim := { program := "ytmhgjlapkhdlmaadoor", sum := "161ceb0c3859a994bb022205a2b5143998daec1c5f23607701eb24a445a533c9", func := "cherenkov/cherenkovlaw06.FlashOneOrTwo", spec := "flashOneOrTwo", unfollowed := true, recurses := true, named := ["math/bits.deBruijn32tab", "math/bits.deBruijn64tab"], apart := false, laid := [("math/bits.deBruijn32tab", laid_math_bits_deBruijn32tab), ("math/bits.deBruijn64tab", laid_math_bits_deBruijn64tab)], narrowed := true }
def FlashOneOrTwoUptoSaid : Prop := flashOneOrTwoUptoRow.holds Tryd.pinned (OpenSpec.upto flashOneOrTwoSpec)

end Rows
end Go.Proofs.YtmhgjlapkhdlmaaDoor
