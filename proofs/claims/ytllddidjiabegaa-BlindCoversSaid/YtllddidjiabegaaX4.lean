/- The chapter's examples: a method, events, a sum. -/
import Derived.Test.YtllddidjiabegaaX3
import Derived.Test.YtllddidjiabegaaReg3
import Derived.Laws.NewBlocks
set_option linter.unusedVariables false
set_option linter.unusedSimpArgs false
namespace Go.Proofs.Ytllddidjiabegaa
open Go.RowKit

def exL : List Ev := [⟨10, 50, 0, 4⟩, ⟨13, 20, 5, 9⟩, ⟨25, 70, 2, 6⟩]
def exM : Meth := ⟨[[⟨0, 40, 99⟩, ⟨2, 0, 5⟩], [⟨2, 6, 99⟩]], 10, 3, 6⟩

theorem law_Events (w : World) : Calls Try.prog 71 #[] w (RetEvents w exL) := by
  go_enter Try.func71, Try.ntmps71
  go_wp2_with fail
  go_ret
  refine ⟨_, rfl, ⟨_, _, rfl, by decide, by simp [maxLen], fun _ => ⟨w.heap.size, 0, rfl, by simp, fun i j hi hj => ?_⟩, fun h => by cases h⟩, by (repeat (with_reducible first | exact Below.refl _ _ | assumption | refine Below.drewN _ ?_ | refine Below.drew ?_ | refine Below_alloc ?_ _ | refine Below.alloc ?_ (by first | (simp; done) | (simp; omega) | omega) _ | refine Below.setCell ?_ (by first | (simp; done) | (simp; omega) | omega) _ | refine Below_call ?_ (by assumption) | refine Below.trans ?_ (by assumption)))⟩
  have hi' : i < 3 := hi
  rcases (by omega : i = 0 ∨ i = 1 ∨ i = 2) with rfl | rfl | rfl <;> rcases (by omega : j = 0 ∨ j = 1 ∨ j = 2 ∨ j = 3) with rfl | rfl | rfl | rfl <;> simp [exL, evAt, Ev.cell, List.getD]

theorem law_Method (w : World) : Calls Try.prog 70 #[] w fun e w' => ∃ cv, e = .returned (methV cv 10 3 6) ∧ ClausesAt w' cv exM.cs ∧ Below w.heap.size w w' := by
  go_enter Try.func70, Try.ntmps70
  go_wp2_with fail
  (try simp only [Exit.inBlock, Exit.then])
  refine bodyPost_ret (v := methV (.slice (some ⟨w.heap.size + 1 + 1 + 1, 0, none⟩) 2 2) 10 3 6) ?_ rfl ?_
  · simp [results, Try.results70, go_sem, methV]
  refine ⟨_, rfl, ⟨fun i => match i with
    | 0 => .slice (some ⟨w.heap.size + 1, 0, none⟩) 2 2
    | _ => .slice (some ⟨w.heap.size + 1 + 1, 0, none⟩) 1 1, ⟨_, _, rfl, by decide, by simp [maxLen], fun _ => ⟨w.heap.size + 1 + 1 + 1, 0, rfl, by simp, fun i j hi hj => ?_⟩, fun h => by cases h⟩, fun i hi => ?_⟩, by (repeat (with_reducible first | exact Below.refl _ _ | assumption | refine Below.drewN _ ?_ | refine Below.drew ?_ | refine Below_alloc ?_ _ | refine Below.alloc ?_ (by first | (simp; done) | (simp; omega) | omega) _ | refine Below.setCell ?_ (by first | (simp; done) | (simp; omega) | omega) _ | refine Below_call ?_ (by assumption) | refine Below.trans ?_ (by assumption)))⟩
  · have hi' : i < 2 := hi
    obtain rfl : j = 0 := by omega
    rcases (by omega : i = 0 ∨ i = 1) with rfl | rfl <;> simp [World.cell?_alloc_at, World.cell?_alloc_past]
  · have hi' : i < 2 := hi
    rcases (by omega : i = 0 ∨ i = 1) with rfl | rfl
    · refine ⟨_, _, rfl, by decide, by simp [maxLen], fun _ => ⟨w.heap.size + 1, 0, rfl, by first | (simp; done) | (simp; omega), fun i j hi hj => ?_⟩, fun h => by cases h⟩
      have hi' : i < 2 := hi
      rcases (by omega : i = 0 ∨ i = 1) with rfl | rfl <;> rcases (by omega : j = 0 ∨ j = 1 ∨ j = 2) with rfl | rfl | rfl <;> simp [exM, clAt, cutAt, Cut.cell, List.getD, World.cell?_alloc_at, World.cell?_alloc_past]
    · refine ⟨_, _, rfl, by decide, by simp [maxLen], fun _ => ⟨w.heap.size + 1 + 1, 0, rfl, by first | (simp; done) | (simp; omega), fun i j hi hj => ?_⟩, fun h => by cases h⟩
      have hi' : i < 1 := hi
      obtain rfl : i = 0 := by omega
      rcases (by omega : j = 0 ∨ j = 1 ∨ j = 2) with rfl | rfl | rfl <;> simp [exM, clAt, cutAt, Cut.cell, List.getD, World.cell?_alloc_at, World.cell?_alloc_past]

end Go.Proofs.Ytllddidjiabegaa
