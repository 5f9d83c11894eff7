/- Trials: their errors and chances. -/
import Derived.Test.YtllddidjiabegaaX6
import Derived.Test.YtllddidjiabegaaReg4
set_option linter.unusedVariables false
set_option linter.unusedSimpArgs false
namespace Go.Proofs.Ytllddidjiabegaa
open Go.RowKit

/-- in lowest terms; parts in their range; the error of a chance and trials. -/
def lowB (n d : Int) : Bool := decide (0 < d) && ((Int.gcd n d : Int) == 1)
def parB (n d : Int) : Bool := inB n 0 d && decide (d ≤ 1000000000)
def triErr (n d t : Int) : Int := firstNZ [unl (lowB n d) 3, unl (parB n d) 2, trErr t]

set_option maxRecDepth 100000 in
theorem base_IsLowest (n d : Int) (w : World) (h1 : -9223372036854775808 ≤ n) (h2 : n ≤ 9223372036854775807) (h3 : d ≤ 9223372036854775807) :
    Calls Try.prog 30 #[.agg #[.int .i64 n, .int .i64 d]] w fun e w' => e = .returned (.bool (lowB n d)) ∧ Below w.heap.size w w' := by
  by_cases hd : 0 < d
  · have HL : Hid (lowB n d = ((Int.gcd n d : Int) == 1)) := hid (by simp [lowB, hd])
    have hdd : decide ((0 : Int) < d) = true := by simpa using hd
    go_enter Try.func30, Try.ntmps30
    go_wp2_with (go_at_call 92; refine (base_Gcd _ _ _ h1 h2 hd h3).mono ?_; rintro _ _ ⟨rfl, m2, rfl⟩)
    go_ret
    exact ⟨by rw [HL.out]; rfl, by (repeat (with_reducible first | exact Below.refl _ _ | assumption | refine Below.drewN _ ?_ | refine Below.drew ?_ | refine Below_alloc ?_ _ | refine Below.alloc ?_ (by first | (simp; done) | (simp; omega) | omega) _ | refine Below.setCell ?_ (by first | (simp; done) | (simp; omega) | omega) _ | refine Below_call ?_ (by assumption) | refine Below.trans ?_ (by assumption)))⟩
  · have HL : Hid (lowB n d = false) := hid (by simp [lowB, hd])
    have hdd : decide ((0 : Int) < d) = false := by simpa using hd
    go_enter Try.func30, Try.ntmps30
    go_wp2_with fail
    go_ret
    exact ⟨by rw [HL.out]; rfl, by (repeat (with_reducible first | exact Below.refl _ _ | assumption | refine Below.drewN _ ?_ | refine Below.drew ?_ | refine Below_alloc ?_ _ | refine Below.alloc ?_ (by first | (simp; done) | (simp; omega) | omega) _ | refine Below.setCell ?_ (by first | (simp; done) | (simp; omega) | omega) _ | refine Below_call ?_ (by assumption) | refine Below.trans ?_ (by assumption)))⟩

theorem triErr_low {n d t : Int} (h : lowB n d = false) : triErr n d t = 3 := by simp [triErr, h, unl, firstNZ]
theorem triErr_par {n d t : Int} (h : lowB n d = true) (h2 : parB n d = false) : triErr n d t = 2 := by simp [triErr, h, h2, unl, firstNZ]
theorem triErr_rest {n d t : Int} (h : lowB n d = true) (h2 : parB n d = true) : triErr n d t = trErr t := by
  simp only [triErr, h, h2, unl, firstNZ, if_true]
  split
  · rename_i e; exact e.symm
  · rfl

set_option maxRecDepth 100000 in
set_option maxHeartbeats 1000000 in
theorem ref_TrialsErr (n d t : Int) (w : World) (h1 : -9223372036854775808 ≤ n) (h2 : n ≤ 9223372036854775807) (h3 : d ≤ 9223372036854775807) :
    Calls Try.prog 28 #[.agg #[.int .i64 n, .int .i64 d], .int .i64 t] w fun e w' => e = .returned (.int .i64 (triErr n d t)) ∧ Below w.heap.size w w' := by
  have HIL : Hid (∀ W, Calls Try.prog 30 #[.agg #[.int .i64 n, .int .i64 d]] W fun e w' => e = .returned (.bool (lowB n d)) ∧ Below W.heap.size W w') := hid (fun W => base_IsLowest n d W h1 h2 h3)
  cases hl : lowB n d
  · have HE : Hid (triErr n d t = 3) := hid (triErr_low hl)
    rw [hl] at HIL
    clear hl
    go_enter Try.func28, Try.ntmps28
    go_wp2_with (go_at_call 30; refine (HIL.out _).mono ?_; rintro _ w1 ⟨rfl, hb1⟩)
    go_ret
    exact ⟨by rw [HE.out]; rfl, by (repeat (with_reducible first | exact Below.refl _ _ | assumption | refine Below.drewN _ ?_ | refine Below.drew ?_ | refine Below_alloc ?_ _ | refine Below.alloc ?_ (by first | (simp; done) | (simp; omega) | omega) _ | refine Below.setCell ?_ (by first | (simp; done) | (simp; omega) | omega) _ | refine Below_call ?_ (by assumption) | refine Below.trans ?_ (by assumption)))⟩
  · have HLL := hid hl
    rw [hl] at HIL
    clear hl
    by_cases hp : 0 ≤ n ∧ n ≤ d ∧ d ≤ 1000000000
    · obtain ⟨p1, p2, p3⟩ := hp
      have HP : Hid (triErr n d t = trErr t) := hid (triErr_rest HLL.out (by simp only [parB, inB, Bool.and_eq_true, decide_eq_true_iff]; omega))
      cases hb : inB t 1 12
      all_goals
        have HT : Hid (trErr t = unl (inB t 1 12) 2) := hid rfl
        rw [hb] at HT
        go_enter Try.func28, Try.ntmps28
        go_wp2_with (first | (go_at_call 30; refine (HIL.out _).mono ?_; rintro _ w1 ⟨rfl, hb1⟩; obtain ⟨hc1, hf1⟩ := bcell hb1; have hz1 := hb1.size; (try simp only [World.size_alloc, World.heap_drewN] at hz1); have hk1_0 : w.heap.size < w1.heap.size := (by omega); have q1_0_0 := hc1 (w.heap.size) 0 (by first | assumption | (simp; done) | (simp; omega)); (try simp at q1_0_0); have p1_0_0 := hf1 (w.heap.size) 0 (by first | assumption | (simp; done) | (simp; omega)); (try simp at p1_0_0); have q1_0_1 := hc1 (w.heap.size) 1 (by first | assumption | (simp; done) | (simp; omega)); (try simp at q1_0_1); have p1_0_1 := hf1 (w.heap.size) 1 (by first | assumption | (simp; done) | (simp; omega)); (try simp at p1_0_1)) | (go_at_call 44; refine (base_Within _ _ _ _).mono ?_; rintro _ _ ⟨rfl, rfl⟩))
        go_ret
        exact ⟨by rw [HP.out, HT.out]; rfl, by (repeat (with_reducible first | exact Below.refl _ _ | assumption | refine Below.drewN _ ?_ | refine Below.drew ?_ | refine Below_alloc ?_ _ | refine Below.alloc ?_ (by first | (simp; done) | (simp; omega) | omega) _ | refine Below.setCell ?_ (by first | (simp; done) | (simp; omega) | omega) _ | refine Below_call ?_ (by assumption) | refine Below.trans ?_ (by assumption)))⟩
    · have HP : Hid (triErr n d t = 2) := hid (triErr_par HLL.out (by
        cases e : parB n d
        · rfl
        · simp only [parB, inB, Bool.and_eq_true, decide_eq_true_iff] at e; omega))
      go_enter Try.func28, Try.ntmps28
      go_wp2_with (first | (go_at_call 30; refine (HIL.out _).mono ?_; rintro _ w1 ⟨rfl, hb1⟩; obtain ⟨hc1, hf1⟩ := bcell hb1; have hz1 := hb1.size; (try simp only [World.size_alloc, World.heap_drewN] at hz1); have hk1_0 : w.heap.size < w1.heap.size := (by omega); have q1_0_0 := hc1 (w.heap.size) 0 (by first | assumption | (simp; done) | (simp; omega)); (try simp at q1_0_0); have p1_0_0 := hf1 (w.heap.size) 0 (by first | assumption | (simp; done) | (simp; omega)); (try simp at p1_0_0); have q1_0_1 := hc1 (w.heap.size) 1 (by first | assumption | (simp; done) | (simp; omega)); (try simp at q1_0_1); have p1_0_1 := hf1 (w.heap.size) 1 (by first | assumption | (simp; done) | (simp; omega)); (try simp at p1_0_1)) | (go_at_call 44; refine (base_Within _ _ _ _).mono ?_; rintro _ _ ⟨rfl, rfl⟩))
      all_goals first
        | (exfalso; omega)
        | skip
      all_goals go_ret
      all_goals exact ⟨by rw [HP.out]; rfl, by (repeat (with_reducible first | exact Below.refl _ _ | assumption | refine Below.drewN _ ?_ | refine Below.drew ?_ | refine Below_alloc ?_ _ | refine Below.alloc ?_ (by first | (simp; done) | (simp; omega) | omega) _ | refine Below.setCell ?_ (by first | (simp; done) | (simp; omega) | omega) _ | refine Below_call ?_ (by assumption) | refine Below.trans ?_ (by assumption)))⟩

end Go.Proofs.Ytllddidjiabegaa
