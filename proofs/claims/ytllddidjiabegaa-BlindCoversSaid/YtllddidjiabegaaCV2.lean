/- The law of coverages. -/
import Derived.Test.YtllddidjiabegaaCV1
set_option linter.unusedVariables false
set_option linter.unusedSimpArgs false
namespace Go.Proofs.Ytllddidjiabegaa
open Go.RowKit

set_option maxRecDepth 100000 in
theorem law_Covers (T S r : Int) (w : World) :
    Calls Try.prog 6 #[.int .i64 T, .int .i64 S, .int .i64 r] w fun e w' => e = .returned (.bool true) ∧ Below w.heap.size w w' := by
  by_cases h1 : trErr T = 0
  case neg =>
    have h1' : (trErr T != 0) = true := by simpa using h1
    clear h1
    go_enter Try.func6, Try.ntmps6
    go_wp2_with (first | (go_at_call 11; refine (law_awake _).mono ?_; rintro _ w1 ⟨rfl, hb1⟩) | (go_at_call 40; refine (ref_CountErr _ _).mono ?_; rintro _ _ ⟨rfl, rfl⟩))
    go_ret
    exact ⟨rfl, by (repeat (with_reducible first | exact Below.refl _ _ | assumption | refine Below.drewN _ ?_ | refine Below.drew ?_ | refine Below_alloc ?_ _ | refine Below.alloc ?_ (by first | (simp; done) | (simp; omega) | omega) _ | refine Below.setCell ?_ (by first | (simp; done) | (simp; omega) | omega) _ | refine Below_call ?_ (by assumption) | refine Below.trans ?_ (by assumption)))⟩
  have h1' : (trErr T != 0) = false := by simpa using h1
  by_cases h2 : tenErr S = 0
  case neg =>
    have h2' : (tenErr S != 0) = true := by simpa using h2
    clear h1 h2
    go_enter Try.func6, Try.ntmps6
    go_wp2_with (first | (go_at_call 11; refine (law_awake _).mono ?_; rintro _ w1 ⟨rfl, hb1⟩) | (go_at_call 40; refine (ref_CountErr _ _).mono ?_; rintro _ _ ⟨rfl, rfl⟩) | (go_at_call 41; refine (ref_ShareErr _ _).mono ?_; rintro _ _ ⟨rfl, rfl⟩))
    go_ret
    exact ⟨rfl, by (repeat (with_reducible first | exact Below.refl _ _ | assumption | refine Below.drewN _ ?_ | refine Below.drew ?_ | refine Below_alloc ?_ _ | refine Below.alloc ?_ (by first | (simp; done) | (simp; omega) | omega) _ | refine Below.setCell ?_ (by first | (simp; done) | (simp; omega) | omega) _ | refine Below_call ?_ (by assumption) | refine Below.trans ?_ (by assumption)))⟩
  have h2' : (tenErr S != 0) = false := by simpa using h2
  by_cases h3 : rskErr r = 0
  case neg =>
    have h3' : (rskErr r != 0) = true := by simpa using h3
    clear h1 h2 h3
    go_enter Try.func6, Try.ntmps6
    go_wp2_with (first | (go_at_call 11; refine (law_awake _).mono ?_; rintro _ w1 ⟨rfl, hb1⟩) | (go_at_call 40; refine (ref_CountErr _ _).mono ?_; rintro _ _ ⟨rfl, rfl⟩) | (go_at_call 41; refine (ref_ShareErr _ _).mono ?_; rintro _ _ ⟨rfl, rfl⟩) | (go_at_call 42; refine (ref_RiskErr _ _).mono ?_; rintro _ _ ⟨rfl, rfl⟩))
    go_ret
    exact ⟨rfl, by (repeat (with_reducible first | exact Below.refl _ _ | assumption | refine Below.drewN _ ?_ | refine Below.drew ?_ | refine Below_alloc ?_ _ | refine Below.alloc ?_ (by first | (simp; done) | (simp; omega) | omega) _ | refine Below.setCell ?_ (by first | (simp; done) | (simp; omega) | omega) _ | refine Below_call ?_ (by assumption) | refine Below.trans ?_ (by assumption)))⟩
  have k1 := trErr_ok h1
  have k2 := tenErr_ok h2
  have k3 := rskErr_ok h3
  obtain ⟨t, rfl⟩ : ∃ t : Nat, T = t := ⟨T.toNat, by omega⟩
  obtain ⟨s, rfl⟩ : ∃ s : Nat, S = s := ⟨S.toNat, by omega⟩
  obtain ⟨rr, rfl⟩ : ∃ rr : Nat, r = rr := ⟨r.toNat, by omega⟩
  exact law_Covers_ok t s rr w (by omega) (by omega) (by omega) (by omega)

end Go.Proofs.Ytllddidjiabegaa
