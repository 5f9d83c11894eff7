/- Arguments opened: events, cuts and clauses. -/
import Derived.Test.YtllddidjiabegaaOp
set_option linter.unusedVariables false
set_option linter.unusedSimpArgs false
namespace Go.Proofs.Ytllddidjiabegaa
open Go.RowKit
section
variable {H : Type} {enc : TypeId × Value → H} {w : World} {base : Nat} {spare : Nat → Bool} {held : Bool}

theorem events_of_trod {fuel : Nat} {v : Value} {x : DataW H × List MemPlace} (h : DataW.trod enc Try.prog w base spare held fuel 25 [v] = some x) : ∃ l, EventsAt w v l := by
  obtain ⟨n, css, hs, hc⟩ := slAt_of_trod (sz := 4) Try.underlying25 (by kernel_rfl) (by omega) h
  have each : ∀ i, i < n → ∃ x : Ev, ∀ j, j < 4 → (css i).getD j undef = x.cell j := by
    intro i hi
    obtain ⟨hl, m, y, hy⟩ := hc i hi
    obtain ⟨ns, hn, e⟩ := ints_of_struct Try.underlying89 (by kernel_rfl) hy
    rw [e]
    match ns, hn with
    | [a, b, c, d], _ => exact ⟨⟨a, b, c, d⟩, fun j hj => by rcases (by omega : j = 0 ∨ j = 1 ∨ j = 2 ∨ j = 3) with rfl | rfl | rfl | rfl <;> rfl⟩
  obtain ⟨l, hl, hr⟩ := list_of Ev.zero n each
  subst hl
  exact ⟨l, hs.congr fun i j hi hj => hr i hi j hj⟩

theorem cuts_of_trod {fuel : Nat} {v : Value} {x : DataW H × List MemPlace} (h : DataW.trod enc Try.prog w base spare held fuel 105 [v] = some x) : ∃ l, CutsAt w v l := by
  obtain ⟨n, css, hs, hc⟩ := slAt_of_trod (sz := 3) Try.underlying105 (by kernel_rfl) (by omega) h
  have each : ∀ i, i < n → ∃ x : Cut, ∀ j, j < 3 → (css i).getD j undef = x.cell j := by
    intro i hi
    obtain ⟨hl, m, y, hy⟩ := hc i hi
    obtain ⟨ns, hn, e⟩ := ints_of_struct Try.underlying108 (by kernel_rfl) hy
    rw [e]
    match ns, hn with
    | [a, b, c], _ => exact ⟨⟨a, b, c⟩, fun j hj => by rcases (by omega : j = 0 ∨ j = 1 ∨ j = 2) with rfl | rfl | rfl <;> rfl⟩
  obtain ⟨l, hl, hr⟩ := list_of Cut.zero n each
  subst hl
  exact ⟨l, hs.congr fun i j hi hj => hr i hi j hj⟩

theorem clauses_of_trod {fuel : Nat} {v : Value} {x : DataW H × List MemPlace} (h : DataW.trod enc Try.prog w base spare held fuel 22 [v] = some x) : ∃ l, ClausesAt w v l := by
  obtain ⟨n, css, hs, hc⟩ := slAt_of_trod (sz := 1) Try.underlying22 (by kernel_rfl) (by omega) h
  have each : ∀ i, i < n → ∃ l : List Cut, CutsAt w ((css i).getD 0 undef) l := by
    intro i hi
    obtain ⟨hl, m, y, hy⟩ := hc i hi
    match h1 : css i, hl with
    | [u], _ =>
      rw [h1] at hy
      exact cuts_of_trod hy
  obtain ⟨cs, hl, hr⟩ := list_of ([] : List Cut) n each
  subst hl
  refine ⟨cs, fun i => (css i).getD 0 undef, hs.congr fun i j hi hj => ?_, fun i hi => hr i hi⟩
  have e : j = 0 := by omega
  rw [e]

end
end Go.Proofs.Ytllddidjiabegaa
