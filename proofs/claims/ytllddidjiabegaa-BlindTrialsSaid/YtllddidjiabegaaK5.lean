/- Trials of the program, and of the reference. -/
import Derived.Test.YtllddidjiabegaaK4
set_option linter.unusedVariables false
set_option linter.unusedSimpArgs false
namespace Go.Proofs.Ytllddidjiabegaa
open Go.RowKit

/-- the chance of trials: the numerator, the denominator, or that it is too large. -/
def pw (a : Int) (k : Nat) : Nat := a.toNat ^ k
def triBig (d t : Int) : Bool := decide (1000000000 < pw d t.toNat)
def triNum (n d t : Int) : Int := (pw d t.toNat : Int) - (pw (d - n) t.toNat : Int)
def triDen (d t : Int) : Int := (pw d t.toNat : Int)
def triV (n d t : Int) : Value :=
  if triErr n d t = 0 then (if triBig d t = true then .tuple #[.agg #[.int .i64 0, .int .i64 0], .int .i64 8] else .tuple #[.agg #[.int .i64 (triNum n d t), .int .i64 (triDen d t)], .int .i64 0])
  else .tuple #[.agg #[.int .i64 0, .int .i64 0], .int .i64 (triErr n d t)]
theorem triErr_ok {n d t : Int} (h : triErr n d t = 0) : lowB n d = true ∧ (0 ≤ n ∧ n ≤ d ∧ d ≤ 1000000000 ∧ 0 < d) ∧ 1 ≤ t ∧ t ≤ 12 := by
  cases hl : lowB n d
  · rw [triErr_low hl] at h; cases h
  · cases hp : parB n d
    · rw [triErr_par hl hp] at h; cases h
    · rw [triErr_rest hl hp] at h
      have h1 := trErr_ok h
      simp only [parB, inB, Bool.and_eq_true, decide_eq_true_iff] at hp
      simp only [lowB, Bool.and_eq_true, decide_eq_true_iff] at hl
      exact ⟨rfl, ⟨hp.1.1, hp.1.2, hp.2, hl.1⟩, h1⟩
theorem pow_le_pow {a b : Nat} (k : Nat) (h : a ≤ b) : a ^ k ≤ b ^ k := Nat.pow_le_pow_left h k
theorem big_mono {a k m : Nat} (ha : 0 < a) (h : k ≤ m) (hb : 1000000000 < a ^ k) : 1000000000 < a ^ m := Nat.lt_of_lt_of_le hb (Nat.pow_le_pow_right ha h)
theorem mul_small {a b : Nat} (ha : a ≤ 1000000000) (hb : b ≤ 1000000000) : a * b ≤ 1000000000000000000 := Nat.mul_le_mul ha hb

set_option maxRecDepth 100000 in
set_option maxHeartbeats 4000000 in
theorem blind_TrialsOf_err (n d t : Int) (w : World) (h1 : -9223372036854775808 ≤ n) (h2 : n ≤ 9223372036854775807) (h3 : d ≤ 9223372036854775807) (hE : ¬ triErr n d t = 0) :
    Calls Try.prog 25 #[.agg #[.int .i64 n, .int .i64 d], .int .i64 t] w fun e w' => e = .returned (.tuple #[.agg #[.int .i64 0, .int .i64 0], .int .i64 (triErr n d t)]) ∧ Below w.heap.size w w' := by
  by_cases hd : 0 < d <;> cases hin : inB n 0 d
  · have HL : Hid (lowB n d = ((Int.gcd n d : Int) == 1)) := hid (by simp [lowB, hd])
    have HP : Hid (parB n d = false) := hid (by simp [parB, hin])
    have HF : Hid (triErr n d t = firstNZ [unl ((Int.gcd n d : Int) == 1) 3, unl false 2, trErr t]) := hid (by unfold triErr; rw [HL.out, HP.out])
    have hne : (firstNZ [unl ((Int.gcd n d : Int) == 1) 3, unl false 2, trErr t] != 0) = true := by rw [← HF.out]; simpa using hE
    have HE := hid hE
    clear hE
    go_enter Try.func25, Try.ntmps25
    go_wp2_with fail
    obtain ⟨W0, hW0⟩ : ∃ W0, W0 = (w.alloc (.cells #[.int .i64 n, .int .i64 d] 48)).alloc (.cells #[.int .i64 0, .int .i64 0] 48) := ⟨_, rfl⟩
    have x0 : W0.cell? ⟨w.heap.size, 0, none⟩ = some (.int .i64 n) := by rw [hW0]; simp
    have x1 : W0.cell? ⟨w.heap.size, 1, none⟩ = some (.int .i64 d) := by rw [hW0]; simp
    have y0 : W0.cell? ⟨w.heap.size + 1, 0, none⟩ = some (.int .i64 0) := by rw [hW0]; simp
    have y1 : W0.cell? ⟨w.heap.size + 1, 1, none⟩ = some (.int .i64 0) := by rw [hW0]; simp
    have yf : ∀ i, W0.frozen? ⟨w.heap.size + 1, i, none⟩ = false := by intro i; rw [hW0]; simp
    have hz0 : w.heap.size + 1 < W0.heap.size := by rw [hW0]; simp
    have hBW : Below w.heap.size w W0 := by rw [hW0]; (repeat (with_reducible first | exact Below.refl _ _ | assumption | refine Below.drewN _ ?_ | refine Below.drew ?_ | refine Below_alloc ?_ _ | refine Below.alloc ?_ (by first | (simp; done) | (simp; omega) | omega) _ | refine Below.setCell ?_ (by first | (simp; done) | (simp; omega) | omega) _ | refine Below_call ?_ (by assumption) | refine Below.trans ?_ (by assumption)))
    rw [← hW0]
    clear hW0
    refine wp_mixC (fun wc => Below (W0.heap.size) W0 wc) 27 [.q [0, 1, 2, 3, 4, 5, 6, 7, 12, 13, 14, 15, 23], .f [8], .q [9, 10], .f [11, 16], .q [17, 18, 19, 20, 21], .f [22, 24, 25, 26]] [.q [27]] (by kernel_rfl) (by kernel_rfl) ((Below.refl _ _).drew) ?_
    intro Q' hQ'
    (rw [wpMixC]; simp only [pick, List.drop_succ_cons, List.drop_zero, List.head?_cons, Option.toList_some, List.cons_append, List.nil_append])
    (repeat (first | go_big_quiet_skip | (go_big_quiet_want; refine quiet_simple rfl ?_; go_big_quiet_op; go_big_quiet_on) | (go_big_quiet_want; refine quiet_cellB (ty := 3) rfl rfl (by kernel_rfl) (by assumption) (by first | omega | (simp; omega)) ?_; simp only [Act.put, List.setIfInBounds_toArray, List.set_cons_succ, List.set_cons_zero]; go_big_quiet_on)))
    (try refine wpQuiet_nil ?_)
    (rw [wpMixC]; simp only [pick, List.drop_succ_cons, List.drop_zero, List.head?_cons, Option.toList_some, List.cons_append, List.nil_append])
    (rw [wpSteps]; go_wp2_with (first | (go_at_call 89; refine (blind_divisor _ _ _ h1 h2 hd h3).mono ?_; rintro _ _ ⟨rfl, m2, rfl⟩) | (go_at_call 78; refine (blind_unless _ _ _).mono ?_; rintro _ _ ⟨rfl, rfl⟩) | (go_at_call 77; refine (blind_within _ _ _ _).mono ?_; rintro _ _ ⟨rfl, rfl⟩) | (go_at_call 90; refine (blind_trialsErr _ _).mono ?_; rintro _ _ ⟨rfl, rfl⟩) | (first | (go_at_call 75; refine (blind_first [unl ((Int.gcd n d : Int) == 1) 3, unl false 2, trErr t] _ _ (intsAt_new _ _ _ _ _ rfl (by simp) (by first | rfl | simp))).mono ?_; rintro _ _ ⟨rfl, rfl⟩) | (go_at_call 75; refine (blind_first [unl ((Int.gcd n d : Int) == 1) 3, unl false 2, trErr t] _ _ ((intsAt_new _ _ _ _ _ rfl (by simp) (by first | rfl | simp)).below (Below.drew (Below.refl _ _)))).mono ?_; rintro _ _ ⟨rfl, rfl⟩))); rw [contF]; refine ⟨?_, ?_⟩; (next => (repeat (with_reducible first | exact Below.refl _ _ | assumption | refine Below.drewN _ ?_ | refine Below.drew ?_ | refine Below_alloc ?_ _ | refine Below.alloc ?_ (by first | (simp; done) | (simp; omega) | omega) _ | refine Below.setCell ?_ (by first | (simp; done) | (simp; omega) | omega) _ | refine Below_call ?_ (by assumption) | refine Below.trans ?_ (by assumption)))))
    (rw [wpSteps])
    (rw [wpMixC]; simp only [pick, List.drop_succ_cons, List.drop_zero, List.head?_cons, Option.toList_some, List.cons_append, List.nil_append])
    (repeat (first | go_big_quiet_skip | (go_big_quiet_want; refine quiet_simple rfl ?_; go_big_quiet_op; go_big_quiet_on) | (go_big_quiet_want; refine quiet_cellB (ty := 3) rfl rfl (by kernel_rfl) (by assumption) (by first | omega | (simp; omega)) ?_; simp only [Act.put, List.setIfInBounds_toArray, List.set_cons_succ, List.set_cons_zero]; go_big_quiet_on)))
    (try refine wpQuiet_nil ?_)
    (rw [wpMixC]; simp only [pick, List.drop_succ_cons, List.drop_zero, List.head?_cons, Option.toList_some, List.cons_append, List.nil_append])
    (rw [wpSteps]; go_wp2_with (first | (go_at_call 89; refine (blind_divisor _ _ _ h1 h2 hd h3).mono ?_; rintro _ _ ⟨rfl, m2, rfl⟩) | (go_at_call 78; refine (blind_unless _ _ _).mono ?_; rintro _ _ ⟨rfl, rfl⟩) | (go_at_call 77; refine (blind_within _ _ _ _).mono ?_; rintro _ _ ⟨rfl, rfl⟩) | (go_at_call 90; refine (blind_trialsErr _ _).mono ?_; rintro _ _ ⟨rfl, rfl⟩) | (first | (go_at_call 75; refine (blind_first [unl ((Int.gcd n d : Int) == 1) 3, unl false 2, trErr t] _ _ (intsAt_new _ _ _ _ _ rfl (by simp) (by first | rfl | simp))).mono ?_; rintro _ _ ⟨rfl, rfl⟩) | (go_at_call 75; refine (blind_first [unl ((Int.gcd n d : Int) == 1) 3, unl false 2, trErr t] _ _ ((intsAt_new _ _ _ _ _ rfl (by simp) (by first | rfl | simp)).below (Below.drew (Below.refl _ _)))).mono ?_; rintro _ _ ⟨rfl, rfl⟩))); rw [contF]; refine ⟨?_, ?_⟩; (next => (repeat (with_reducible first | exact Below.refl _ _ | assumption | refine Below.drewN _ ?_ | refine Below.drew ?_ | refine Below_alloc ?_ _ | refine Below.alloc ?_ (by first | (simp; done) | (simp; omega) | omega) _ | refine Below.setCell ?_ (by first | (simp; done) | (simp; omega) | omega) _ | refine Below_call ?_ (by assumption) | refine Below.trans ?_ (by assumption)))))
    (rw [wpSteps]; go_wp2_with (first | (go_at_call 89; refine (blind_divisor _ _ _ h1 h2 hd h3).mono ?_; rintro _ _ ⟨rfl, m2, rfl⟩) | (go_at_call 78; refine (blind_unless _ _ _).mono ?_; rintro _ _ ⟨rfl, rfl⟩) | (go_at_call 77; refine (blind_within _ _ _ _).mono ?_; rintro _ _ ⟨rfl, rfl⟩) | (go_at_call 90; refine (blind_trialsErr _ _).mono ?_; rintro _ _ ⟨rfl, rfl⟩) | (first | (go_at_call 75; refine (blind_first [unl ((Int.gcd n d : Int) == 1) 3, unl false 2, trErr t] _ _ (intsAt_new _ _ _ _ _ rfl (by simp) (by first | rfl | simp))).mono ?_; rintro _ _ ⟨rfl, rfl⟩) | (go_at_call 75; refine (blind_first [unl ((Int.gcd n d : Int) == 1) 3, unl false 2, trErr t] _ _ ((intsAt_new _ _ _ _ _ rfl (by simp) (by first | rfl | simp)).below (Below.drew (Below.refl _ _)))).mono ?_; rintro _ _ ⟨rfl, rfl⟩))); rw [contF]; refine ⟨?_, ?_⟩; (next => (repeat (with_reducible first | exact Below.refl _ _ | assumption | refine Below.drewN _ ?_ | refine Below.drew ?_ | refine Below_alloc ?_ _ | refine Below.alloc ?_ (by first | (simp; done) | (simp; omega) | omega) _ | refine Below.setCell ?_ (by first | (simp; done) | (simp; omega) | omega) _ | refine Below_call ?_ (by assumption) | refine Below.trans ?_ (by assumption)))))
    (rw [wpSteps])
    (rw [wpMixC]; simp only [pick, List.drop_succ_cons, List.drop_zero, List.head?_cons, Option.toList_some, List.cons_append, List.nil_append])
    (repeat (first | go_big_quiet_skip | (go_big_quiet_want; refine quiet_simple rfl ?_; go_big_quiet_op; go_big_quiet_on) | (go_big_quiet_want; refine quiet_cellB (ty := 3) rfl rfl (by kernel_rfl) (by assumption) (by first | omega | (simp; omega)) ?_; simp only [Act.put, List.setIfInBounds_toArray, List.set_cons_succ, List.set_cons_zero]; go_big_quiet_on)))
    (try refine wpQuiet_nil ?_)
    (rw [wpMixC]; simp only [pick, List.drop_succ_cons, List.drop_zero, List.head?_cons, Option.toList_some, List.cons_append, List.nil_append])
    (rw [wpSteps]; go_wp2_with (first | (go_at_call 89; refine (blind_divisor _ _ _ h1 h2 hd h3).mono ?_; rintro _ _ ⟨rfl, m2, rfl⟩) | (go_at_call 78; refine (blind_unless _ _ _).mono ?_; rintro _ _ ⟨rfl, rfl⟩) | (go_at_call 77; refine (blind_within _ _ _ _).mono ?_; rintro _ _ ⟨rfl, rfl⟩) | (go_at_call 90; refine (blind_trialsErr _ _).mono ?_; rintro _ _ ⟨rfl, rfl⟩) | (first | (go_at_call 75; refine (blind_first [unl ((Int.gcd n d : Int) == 1) 3, unl false 2, trErr t] _ _ (intsAt_new _ _ _ _ _ rfl (by simp) (by first | rfl | simp))).mono ?_; rintro _ _ ⟨rfl, rfl⟩) | (go_at_call 75; refine (blind_first [unl ((Int.gcd n d : Int) == 1) 3, unl false 2, trErr t] _ _ ((intsAt_new _ _ _ _ _ rfl (by simp) (by first | rfl | simp)).below (Below.drew (Below.refl _ _)))).mono ?_; rintro _ _ ⟨rfl, rfl⟩))); rw [contF]; refine ⟨?_, ?_⟩; (next => (repeat (with_reducible first | exact Below.refl _ _ | assumption | refine Below.drewN _ ?_ | refine Below.drew ?_ | refine Below_alloc ?_ _ | refine Below.alloc ?_ (by first | (simp; done) | (simp; omega) | omega) _ | refine Below.setCell ?_ (by first | (simp; done) | (simp; omega) | omega) _ | refine Below_call ?_ (by assumption) | refine Below.trans ?_ (by assumption)))))
    (rw [wpSteps]; go_wp2_with (first | (go_at_call 89; refine (blind_divisor _ _ _ h1 h2 hd h3).mono ?_; rintro _ _ ⟨rfl, m2, rfl⟩) | (go_at_call 78; refine (blind_unless _ _ _).mono ?_; rintro _ _ ⟨rfl, rfl⟩) | (go_at_call 77; refine (blind_within _ _ _ _).mono ?_; rintro _ _ ⟨rfl, rfl⟩) | (go_at_call 90; refine (blind_trialsErr _ _).mono ?_; rintro _ _ ⟨rfl, rfl⟩) | (first | (go_at_call 75; refine (blind_first [unl ((Int.gcd n d : Int) == 1) 3, unl false 2, trErr t] _ _ (intsAt_new _ _ _ _ _ rfl (by simp) (by first | rfl | simp))).mono ?_; rintro _ _ ⟨rfl, rfl⟩) | (go_at_call 75; refine (blind_first [unl ((Int.gcd n d : Int) == 1) 3, unl false 2, trErr t] _ _ ((intsAt_new _ _ _ _ _ rfl (by simp) (by first | rfl | simp)).below (Below.drew (Below.refl _ _)))).mono ?_; rintro _ _ ⟨rfl, rfl⟩))); rw [contF]; refine ⟨?_, ?_⟩; (next => (repeat (with_reducible first | exact Below.refl _ _ | assumption | refine Below.drewN _ ?_ | refine Below.drew ?_ | refine Below_alloc ?_ _ | refine Below.alloc ?_ (by first | (simp; done) | (simp; omega) | omega) _ | refine Below.setCell ?_ (by first | (simp; done) | (simp; omega) | omega) _ | refine Below_call ?_ (by assumption) | refine Below.trans ?_ (by assumption)))))
    (rw [wpSteps]; go_wp2_with (first | (go_at_call 89; refine (blind_divisor _ _ _ h1 h2 hd h3).mono ?_; rintro _ _ ⟨rfl, m2, rfl⟩) | (go_at_call 78; refine (blind_unless _ _ _).mono ?_; rintro _ _ ⟨rfl, rfl⟩) | (go_at_call 77; refine (blind_within _ _ _ _).mono ?_; rintro _ _ ⟨rfl, rfl⟩) | (go_at_call 90; refine (blind_trialsErr _ _).mono ?_; rintro _ _ ⟨rfl, rfl⟩) | (first | (go_at_call 75; refine (blind_first [unl ((Int.gcd n d : Int) == 1) 3, unl false 2, trErr t] _ _ (intsAt_new _ _ _ _ _ rfl (by simp) (by first | rfl | simp))).mono ?_; rintro _ _ ⟨rfl, rfl⟩) | (go_at_call 75; refine (blind_first [unl ((Int.gcd n d : Int) == 1) 3, unl false 2, trErr t] _ _ ((intsAt_new _ _ _ _ _ rfl (by simp) (by first | rfl | simp)).below (Below.drew (Below.refl _ _)))).mono ?_; rintro _ _ ⟨rfl, rfl⟩))); rw [contF]; refine ⟨?_, ?_⟩; (next => (repeat (with_reducible first | exact Below.refl _ _ | assumption | refine Below.drewN _ ?_ | refine Below.drew ?_ | refine Below_alloc ?_ _ | refine Below.alloc ?_ (by first | (simp; done) | (simp; omega) | omega) _ | refine Below.setCell ?_ (by first | (simp; done) | (simp; omega) | omega) _ | refine Below_call ?_ (by assumption) | refine Below.trans ?_ (by assumption)))))
    (rw [wpSteps]; go_wp2_with (first | (go_at_call 89; refine (blind_divisor _ _ _ h1 h2 hd h3).mono ?_; rintro _ _ ⟨rfl, m2, rfl⟩) | (go_at_call 78; refine (blind_unless _ _ _).mono ?_; rintro _ _ ⟨rfl, rfl⟩) | (go_at_call 77; refine (blind_within _ _ _ _).mono ?_; rintro _ _ ⟨rfl, rfl⟩) | (go_at_call 90; refine (blind_trialsErr _ _).mono ?_; rintro _ _ ⟨rfl, rfl⟩) | (first | (go_at_call 75; refine (blind_first [unl ((Int.gcd n d : Int) == 1) 3, unl false 2, trErr t] _ _ (intsAt_new _ _ _ _ _ rfl (by simp) (by first | rfl | simp))).mono ?_; rintro _ _ ⟨rfl, rfl⟩) | (go_at_call 75; refine (blind_first [unl ((Int.gcd n d : Int) == 1) 3, unl false 2, trErr t] _ _ ((intsAt_new _ _ _ _ _ rfl (by simp) (by first | rfl | simp)).below (Below.drew (Below.refl _ _)))).mono ?_; rintro _ _ ⟨rfl, rfl⟩))); rw [contF]; refine ⟨?_, ?_⟩; (next => (repeat (with_reducible first | exact Below.refl _ _ | assumption | refine Below.drewN _ ?_ | refine Below.drew ?_ | refine Below_alloc ?_ _ | refine Below.alloc ?_ (by first | (simp; done) | (simp; omega) | omega) _ | refine Below.setCell ?_ (by first | (simp; done) | (simp; omega) | omega) _ | refine Below_call ?_ (by assumption) | refine Below.trans ?_ (by assumption)))))
    (rw [wpSteps])
    (rw [wpMixC])
    (rw [wpMix]; simp only [pick, List.drop_succ_cons, List.drop_zero, List.head?_cons, Option.toList_some, List.cons_append, List.nil_append])
    (repeat (first | (go_big_quiet_step (fail)) | (quiet_step (fail))))
    (try refine wpQuiet_nil ?_)
    (rw [wpMix])
    (refine hQ' _ _ ?_)
    obtain ⟨WX, hWX⟩ : ∃ WX, WX = (W0.drewN (1 + m2)).alloc (.cells #[.int .i64 (unl ((Int.gcd n d : Int) == 1) 3), .int .i64 (unl false 2), .int .i64 (trErr t)] 29) := ⟨_, rfl⟩
    rw [← hWX]
    have hBX : Below W0.heap.size W0 WX := by rw [hWX]; (repeat (with_reducible first | exact Below.refl _ _ | assumption | refine Below.drewN _ ?_ | refine Below.drew ?_ | refine Below_alloc ?_ _ | refine Below.alloc ?_ (by first | (simp; done) | (simp; omega) | omega) _ | refine Below.setCell ?_ (by first | (simp; done) | (simp; omega) | omega) _ | refine Below_call ?_ (by assumption) | refine Below.trans ?_ (by assumption)))
    have z0 := ((bcell hBX).1 _ 0 hz0).trans y0
    have z1 := ((bcell hBX).1 _ 1 hz0).trans y1
    have zf := fun i => ((bcell hBX).2 _ i hz0).trans (yf i)
    have u0 := ((bcell hBX).1 w.heap.size 0 (by omega)).trans x0
    have u1 := ((bcell hBX).1 w.heap.size 1 (by omega)).trans x1
    have hzX : w.heap.size + 1 < WX.heap.size := Nat.lt_of_lt_of_le hz0 hBX.size
    have hBWX : Below w.heap.size w WX := by (repeat (with_reducible first | exact Below.refl _ _ | assumption | refine Below.drewN _ ?_ | refine Below.drew ?_ | refine Below_alloc ?_ _ | refine Below.alloc ?_ (by first | (simp; done) | (simp; omega) | omega) _ | refine Below.setCell ?_ (by first | (simp; done) | (simp; omega) | omega) _ | refine Below_call ?_ (by assumption) | refine Below.trans ?_ (by assumption)))
    clear hWX hBX
    go_wp2_with fail
    (try simp only [Exit.inBlock, Exit.then])
    refine bodyPost_ret (v := .tuple #[.agg #[.int .i64 0, .int .i64 0], .int .i64 (firstNZ [unl ((Int.gcd n d : Int) == 1) 3, unl false 2, trErr t])]) ?_ rfl ?_
    · simp [results, Try.results25, go_sem, z0, z1]
    · exact ⟨by rw [HF.out], by (repeat (with_reducible first | exact Below.refl _ _ | assumption | refine Below.drewN _ ?_ | refine Below.drew ?_ | refine Below_alloc ?_ _ | refine Below.alloc ?_ (by first | (simp; done) | (simp; omega) | omega) _ | refine Below.setCell ?_ (by first | (simp; done) | (simp; omega) | omega) _ | refine Below_call ?_ (by assumption) | refine Below.trans ?_ (by assumption)))⟩
  · have HL : Hid (lowB n d = ((Int.gcd n d : Int) == 1)) := hid (by simp [lowB, hd])
    have HP : Hid (parB n d = (decide (d ≤ 1000000000))) := hid (by simp [parB, hin])
    have HF : Hid (triErr n d t = firstNZ [unl ((Int.gcd n d : Int) == 1) 3, unl (decide (d ≤ 1000000000)) 2, trErr t]) := hid (by unfold triErr; rw [HL.out, HP.out])
    have hne : (firstNZ [unl ((Int.gcd n d : Int) == 1) 3, unl (decide (d ≤ 1000000000)) 2, trErr t] != 0) = true := by rw [← HF.out]; simpa using hE
    have HE := hid hE
    clear hE
    go_enter Try.func25, Try.ntmps25
    go_wp2_with fail
    obtain ⟨W0, hW0⟩ : ∃ W0, W0 = (w.alloc (.cells #[.int .i64 n, .int .i64 d] 48)).alloc (.cells #[.int .i64 0, .int .i64 0] 48) := ⟨_, rfl⟩
    have x0 : W0.cell? ⟨w.heap.size, 0, none⟩ = some (.int .i64 n) := by rw [hW0]; simp
    have x1 : W0.cell? ⟨w.heap.size, 1, none⟩ = some (.int .i64 d) := by rw [hW0]; simp
    have y0 : W0.cell? ⟨w.heap.size + 1, 0, none⟩ = some (.int .i64 0) := by rw [hW0]; simp
    have y1 : W0.cell? ⟨w.heap.size + 1, 1, none⟩ = some (.int .i64 0) := by rw [hW0]; simp
    have yf : ∀ i, W0.frozen? ⟨w.heap.size + 1, i, none⟩ = false := by intro i; rw [hW0]; simp
    have hz0 : w.heap.size + 1 < W0.heap.size := by rw [hW0]; simp
    have hBW : Below w.heap.size w W0 := by rw [hW0]; (repeat (with_reducible first | exact Below.refl _ _ | assumption | refine Below.drewN _ ?_ | refine Below.drew ?_ | refine Below_alloc ?_ _ | refine Below.alloc ?_ (by first | (simp; done) | (simp; omega) | omega) _ | refine Below.setCell ?_ (by first | (simp; done) | (simp; omega) | omega) _ | refine Below_call ?_ (by assumption) | refine Below.trans ?_ (by assumption)))
    rw [← hW0]
    clear hW0
    refine wp_mixC (fun wc => Below (W0.heap.size) W0 wc) 27 [.q [0, 1, 2, 3, 4, 5, 6, 7, 12, 13, 14, 15, 23], .f [8], .q [9, 10], .f [11, 16], .q [17, 18, 19, 20, 21], .f [22, 24, 25, 26]] [.q [27]] (by kernel_rfl) (by kernel_rfl) ((Below.refl _ _).drew) ?_
    intro Q' hQ'
    (rw [wpMixC]; simp only [pick, List.drop_succ_cons, List.drop_zero, List.head?_cons, Option.toList_some, List.cons_append, List.nil_append])
    (repeat (first | go_big_quiet_skip | (go_big_quiet_want; refine quiet_simple rfl ?_; go_big_quiet_op; go_big_quiet_on) | (go_big_quiet_want; refine quiet_cellB (ty := 3) rfl rfl (by kernel_rfl) (by assumption) (by first | omega | (simp; omega)) ?_; simp only [Act.put, List.setIfInBounds_toArray, List.set_cons_succ, List.set_cons_zero]; go_big_quiet_on)))
    (try refine wpQuiet_nil ?_)
    (rw [wpMixC]; simp only [pick, List.drop_succ_cons, List.drop_zero, List.head?_cons, Option.toList_some, List.cons_append, List.nil_append])
    (rw [wpSteps]; go_wp2_with (first | (go_at_call 89; refine (blind_divisor _ _ _ h1 h2 hd h3).mono ?_; rintro _ _ ⟨rfl, m2, rfl⟩) | (go_at_call 78; refine (blind_unless _ _ _).mono ?_; rintro _ _ ⟨rfl, rfl⟩) | (go_at_call 77; refine (blind_within _ _ _ _).mono ?_; rintro _ _ ⟨rfl, rfl⟩) | (go_at_call 90; refine (blind_trialsErr _ _).mono ?_; rintro _ _ ⟨rfl, rfl⟩) | (first | (go_at_call 75; refine (blind_first [unl ((Int.gcd n d : Int) == 1) 3, unl (decide (d ≤ 1000000000)) 2, trErr t] _ _ (intsAt_new _ _ _ _ _ rfl (by simp) (by first | rfl | simp))).mono ?_; rintro _ _ ⟨rfl, rfl⟩) | (go_at_call 75; refine (blind_first [unl ((Int.gcd n d : Int) == 1) 3, unl (decide (d ≤ 1000000000)) 2, trErr t] _ _ ((intsAt_new _ _ _ _ _ rfl (by simp) (by first | rfl | simp)).below (Below.drew (Below.refl _ _)))).mono ?_; rintro _ _ ⟨rfl, rfl⟩))); rw [contF]; refine ⟨?_, ?_⟩; (next => (repeat (with_reducible first | exact Below.refl _ _ | assumption | refine Below.drewN _ ?_ | refine Below.drew ?_ | refine Below_alloc ?_ _ | refine Below.alloc ?_ (by first | (simp; done) | (simp; omega) | omega) _ | refine Below.setCell ?_ (by first | (simp; done) | (simp; omega) | omega) _ | refine Below_call ?_ (by assumption) | refine Below.trans ?_ (by assumption)))))
    (rw [wpSteps])
    (rw [wpMixC]; simp only [pick, List.drop_succ_cons, List.drop_zero, List.head?_cons, Option.toList_some, List.cons_append, List.nil_append])
    (repeat (first | go_big_quiet_skip | (go_big_quiet_want; refine quiet_simple rfl ?_; go_big_quiet_op; go_big_quiet_on) | (go_big_quiet_want; refine quiet_cellB (ty := 3) rfl rfl (by kernel_rfl) (by assumption) (by first | omega | (simp; omega)) ?_; simp only [Act.put, List.setIfInBounds_toArray, List.set_cons_succ, List.set_cons_zero]; go_big_quiet_on)))
    (try refine wpQuiet_nil ?_)
    (rw [wpMixC]; simp only [pick, List.drop_succ_cons, List.drop_zero, List.head?_cons, Option.toList_some, List.cons_append, List.nil_append])
    (rw [wpSteps]; go_wp2_with (first | (go_at_call 89; refine (blind_divisor _ _ _ h1 h2 hd h3).mono ?_; rintro _ _ ⟨rfl, m2, rfl⟩) | (go_at_call 78; refine (blind_unless _ _ _).mono ?_; rintro _ _ ⟨rfl, rfl⟩) | (go_at_call 77; refine (blind_within _ _ _ _).mono ?_; rintro _ _ ⟨rfl, rfl⟩) | (go_at_call 90; refine (blind_trialsErr _ _).mono ?_; rintro _ _ ⟨rfl, rfl⟩) | (first | (go_at_call 75; refine (blind_first [unl ((Int.gcd n d : Int) == 1) 3, unl (decide (d ≤ 1000000000)) 2, trErr t] _ _ (intsAt_new _ _ _ _ _ rfl (by simp) (by first | rfl | simp))).mono ?_; rintro _ _ ⟨rfl, rfl⟩) | (go_at_call 75; refine (blind_first [unl ((Int.gcd n d : Int) == 1) 3, unl (decide (d ≤ 1000000000)) 2, trErr t] _ _ ((intsAt_new _ _ _ _ _ rfl (by simp) (by first | rfl | simp)).below (Below.drew (Below.refl _ _)))).mono ?_; rintro _ _ ⟨rfl, rfl⟩))); rw [contF]; refine ⟨?_, ?_⟩; (next => (repeat (with_reducible first | exact Below.refl _ _ | assumption | refine Below.drewN _ ?_ | refine Below.drew ?_ | refine Below_alloc ?_ _ | refine Below.alloc ?_ (by first | (simp; done) | (simp; omega) | omega) _ | refine Below.setCell ?_ (by first | (simp; done) | (simp; omega) | omega) _ | refine Below_call ?_ (by assumption) | refine Below.trans ?_ (by assumption)))))
    (rw [wpSteps]; go_wp2_with (first | (go_at_call 89; refine (blind_divisor _ _ _ h1 h2 hd h3).mono ?_; rintro _ _ ⟨rfl, m2, rfl⟩) | (go_at_call 78; refine (blind_unless _ _ _).mono ?_; rintro _ _ ⟨rfl, rfl⟩) | (go_at_call 77; refine (blind_within _ _ _ _).mono ?_; rintro _ _ ⟨rfl, rfl⟩) | (go_at_call 90; refine (blind_trialsErr _ _).mono ?_; rintro _ _ ⟨rfl, rfl⟩) | (first | (go_at_call 75; refine (blind_first [unl ((Int.gcd n d : Int) == 1) 3, unl (decide (d ≤ 1000000000)) 2, trErr t] _ _ (intsAt_new _ _ _ _ _ rfl (by simp) (by first | rfl | simp))).mono ?_; rintro _ _ ⟨rfl, rfl⟩) | (go_at_call 75; refine (blind_first [unl ((Int.gcd n d : Int) == 1) 3, unl (decide (d ≤ 1000000000)) 2, trErr t] _ _ ((intsAt_new _ _ _ _ _ rfl (by simp) (by first | rfl | simp)).below (Below.drew (Below.refl _ _)))).mono ?_; rintro _ _ ⟨rfl, rfl⟩))); rw [contF]; refine ⟨?_, ?_⟩; (next => (repeat (with_reducible first | exact Below.refl _ _ | assumption | refine Below.drewN _ ?_ | refine Below.drew ?_ | refine Below_alloc ?_ _ | refine Below.alloc ?_ (by first | (simp; done) | (simp; omega) | omega) _ | refine Below.setCell ?_ (by first | (simp; done) | (simp; omega) | omega) _ | refine Below_call ?_ (by assumption) | refine Below.trans ?_ (by assumption)))))
    (rw [wpSteps])
    (rw [wpMixC]; simp only [pick, List.drop_succ_cons, List.drop_zero, List.head?_cons, Option.toList_some, List.cons_append, List.nil_append])
    (repeat (first | go_big_quiet_skip | (go_big_quiet_want; refine quiet_simple rfl ?_; go_big_quiet_op; go_big_quiet_on) | (go_big_quiet_want; refine quiet_cellB (ty := 3) rfl rfl (by kernel_rfl) (by assumption) (by first | omega | (simp; omega)) ?_; simp only [Act.put, List.setIfInBounds_toArray, List.set_cons_succ, List.set_cons_zero]; go_big_quiet_on)))
    (try refine wpQuiet_nil ?_)
    (rw [wpMixC]; simp only [pick, List.drop_succ_cons, List.drop_zero, List.head?_cons, Option.toList_some, List.cons_append, List.nil_append])
    (rw [wpSteps]; go_wp2_with (first | (go_at_call 89; refine (blind_divisor _ _ _ h1 h2 hd h3).mono ?_; rintro _ _ ⟨rfl, m2, rfl⟩) | (go_at_call 78; refine (blind_unless _ _ _).mono ?_; rintro _ _ ⟨rfl, rfl⟩) | (go_at_call 77; refine (blind_within _ _ _ _).mono ?_; rintro _ _ ⟨rfl, rfl⟩) | (go_at_call 90; refine (blind_trialsErr _ _).mono ?_; rintro _ _ ⟨rfl, rfl⟩) | (first | (go_at_call 75; refine (blind_first [unl ((Int.gcd n d : Int) == 1) 3, unl (decide (d ≤ 1000000000)) 2, trErr t] _ _ (intsAt_new _ _ _ _ _ rfl (by simp) (by first | rfl | simp))).mono ?_; rintro _ _ ⟨rfl, rfl⟩) | (go_at_call 75; refine (blind_first [unl ((Int.gcd n d : Int) == 1) 3, unl (decide (d ≤ 1000000000)) 2, trErr t] _ _ ((intsAt_new _ _ _ _ _ rfl (by simp) (by first | rfl | simp)).below (Below.drew (Below.refl _ _)))).mono ?_; rintro _ _ ⟨rfl, rfl⟩))); rw [contF]; refine ⟨?_, ?_⟩; (next => (repeat (with_reducible first | exact Below.refl _ _ | assumption | refine Below.drewN _ ?_ | refine Below.drew ?_ | refine Below_alloc ?_ _ | refine Below.alloc ?_ (by first | (simp; done) | (simp; omega) | omega) _ | refine Below.setCell ?_ (by first | (simp; done) | (simp; omega) | omega) _ | refine Below_call ?_ (by assumption) | refine Below.trans ?_ (by assumption)))))
    (rw [wpSteps]; go_wp2_with (first | (go_at_call 89; refine (blind_divisor _ _ _ h1 h2 hd h3).mono ?_; rintro _ _ ⟨rfl, m2, rfl⟩) | (go_at_call 78; refine (blind_unless _ _ _).mono ?_; rintro _ _ ⟨rfl, rfl⟩) | (go_at_call 77; refine (blind_within _ _ _ _).mono ?_; rintro _ _ ⟨rfl, rfl⟩) | (go_at_call 90; refine (blind_trialsErr _ _).mono ?_; rintro _ _ ⟨rfl, rfl⟩) | (first | (go_at_call 75; refine (blind_first [unl ((Int.gcd n d : Int) == 1) 3, unl (decide (d ≤ 1000000000)) 2, trErr t] _ _ (intsAt_new _ _ _ _ _ rfl (by simp) (by first | rfl | simp))).mono ?_; rintro _ _ ⟨rfl, rfl⟩) | (go_at_call 75; refine (blind_first [unl ((Int.gcd n d : Int) == 1) 3, unl (decide (d ≤ 1000000000)) 2, trErr t] _ _ ((intsAt_new _ _ _ _ _ rfl (by simp) (by first | rfl | simp)).below (Below.drew (Below.refl _ _)))).mono ?_; rintro _ _ ⟨rfl, rfl⟩))); rw [contF]; refine ⟨?_, ?_⟩; (next => (repeat (with_reducible first | exact Below.refl _ _ | assumption | refine Below.drewN _ ?_ | refine Below.drew ?_ | refine Below_alloc ?_ _ | refine Below.alloc ?_ (by first | (simp; done) | (simp; omega) | omega) _ | refine Below.setCell ?_ (by first | (simp; done) | (simp; omega) | omega) _ | refine Below_call ?_ (by assumption) | refine Below.trans ?_ (by assumption)))))
    (rw [wpSteps]; go_wp2_with (first | (go_at_call 89; refine (blind_divisor _ _ _ h1 h2 hd h3).mono ?_; rintro _ _ ⟨rfl, m2, rfl⟩) | (go_at_call 78; refine (blind_unless _ _ _).mono ?_; rintro _ _ ⟨rfl, rfl⟩) | (go_at_call 77; refine (blind_within _ _ _ _).mono ?_; rintro _ _ ⟨rfl, rfl⟩) | (go_at_call 90; refine (blind_trialsErr _ _).mono ?_; rintro _ _ ⟨rfl, rfl⟩) | (first | (go_at_call 75; refine (blind_first [unl ((Int.gcd n d : Int) == 1) 3, unl (decide (d ≤ 1000000000)) 2, trErr t] _ _ (intsAt_new _ _ _ _ _ rfl (by simp) (by first | rfl | simp))).mono ?_; rintro _ _ ⟨rfl, rfl⟩) | (go_at_call 75; refine (blind_first [unl ((Int.gcd n d : Int) == 1) 3, unl (decide (d ≤ 1000000000)) 2, trErr t] _ _ ((intsAt_new _ _ _ _ _ rfl (by simp) (by first | rfl | simp)).below (Below.drew (Below.refl _ _)))).mono ?_; rintro _ _ ⟨rfl, rfl⟩))); rw [contF]; refine ⟨?_, ?_⟩; (next => (repeat (with_reducible first | exact Below.refl _ _ | assumption | refine Below.drewN _ ?_ | refine Below.drew ?_ | refine Below_alloc ?_ _ | refine Below.alloc ?_ (by first | (simp; done) | (simp; omega) | omega) _ | refine Below.setCell ?_ (by first | (simp; done) | (simp; omega) | omega) _ | refine Below_call ?_ (by assumption) | refine Below.trans ?_ (by assumption)))))
    (rw [wpSteps]; go_wp2_with (first | (go_at_call 89; refine (blind_divisor _ _ _ h1 h2 hd h3).mono ?_; rintro _ _ ⟨rfl, m2, rfl⟩) | (go_at_call 78; refine (blind_unless _ _ _).mono ?_; rintro _ _ ⟨rfl, rfl⟩) | (go_at_call 77; refine (blind_within _ _ _ _).mono ?_; rintro _ _ ⟨rfl, rfl⟩) | (go_at_call 90; refine (blind_trialsErr _ _).mono ?_; rintro _ _ ⟨rfl, rfl⟩) | (first | (go_at_call 75; refine (blind_first [unl ((Int.gcd n d : Int) == 1) 3, unl (decide (d ≤ 1000000000)) 2, trErr t] _ _ (intsAt_new _ _ _ _ _ rfl (by simp) (by first | rfl | simp))).mono ?_; rintro _ _ ⟨rfl, rfl⟩) | (go_at_call 75; refine (blind_first [unl ((Int.gcd n d : Int) == 1) 3, unl (decide (d ≤ 1000000000)) 2, trErr t] _ _ ((intsAt_new _ _ _ _ _ rfl (by simp) (by first | rfl | simp)).below (Below.drew (Below.refl _ _)))).mono ?_; rintro _ _ ⟨rfl, rfl⟩))); rw [contF]; refine ⟨?_, ?_⟩; (next => (repeat (with_reducible first | exact Below.refl _ _ | assumption | refine Below.drewN _ ?_ | refine Below.drew ?_ | refine Below_alloc ?_ _ | refine Below.alloc ?_ (by first | (simp; done) | (simp; omega) | omega) _ | refine Below.setCell ?_ (by first | (simp; done) | (simp; omega) | omega) _ | refine Below_call ?_ (by assumption) | refine Below.trans ?_ (by assumption)))))
    (rw [wpSteps])
    (rw [wpMixC])
    (rw [wpMix]; simp only [pick, List.drop_succ_cons, List.drop_zero, List.head?_cons, Option.toList_some, List.cons_append, List.nil_append])
    (repeat (first | (go_big_quiet_step (fail)) | (quiet_step (fail))))
    (try refine wpQuiet_nil ?_)
    (rw [wpMix])
    (refine hQ' _ _ ?_)
    obtain ⟨WX, hWX⟩ : ∃ WX, WX = (W0.drewN (1 + m2)).alloc (.cells #[.int .i64 (unl ((Int.gcd n d : Int) == 1) 3), .int .i64 (unl (decide (d ≤ 1000000000)) 2), .int .i64 (trErr t)] 29) := ⟨_, rfl⟩
    rw [← hWX]
    have hBX : Below W0.heap.size W0 WX := by rw [hWX]; (repeat (with_reducible first | exact Below.refl _ _ | assumption | refine Below.drewN _ ?_ | refine Below.drew ?_ | refine Below_alloc ?_ _ | refine Below.alloc ?_ (by first | (simp; done) | (simp; omega) | omega) _ | refine Below.setCell ?_ (by first | (simp; done) | (simp; omega) | omega) _ | refine Below_call ?_ (by assumption) | refine Below.trans ?_ (by assumption)))
    have z0 := ((bcell hBX).1 _ 0 hz0).trans y0
    have z1 := ((bcell hBX).1 _ 1 hz0).trans y1
    have zf := fun i => ((bcell hBX).2 _ i hz0).trans (yf i)
    have u0 := ((bcell hBX).1 w.heap.size 0 (by omega)).trans x0
    have u1 := ((bcell hBX).1 w.heap.size 1 (by omega)).trans x1
    have hzX : w.heap.size + 1 < WX.heap.size := Nat.lt_of_lt_of_le hz0 hBX.size
    have hBWX : Below w.heap.size w WX := by (repeat (with_reducible first | exact Below.refl _ _ | assumption | refine Below.drewN _ ?_ | refine Below.drew ?_ | refine Below_alloc ?_ _ | refine Below.alloc ?_ (by first | (simp; done) | (simp; omega) | omega) _ | refine Below.setCell ?_ (by first | (simp; done) | (simp; omega) | omega) _ | refine Below_call ?_ (by assumption) | refine Below.trans ?_ (by assumption)))
    clear hWX hBX
    go_wp2_with fail
    (try simp only [Exit.inBlock, Exit.then])
    refine bodyPost_ret (v := .tuple #[.agg #[.int .i64 0, .int .i64 0], .int .i64 (firstNZ [unl ((Int.gcd n d : Int) == 1) 3, unl (decide (d ≤ 1000000000)) 2, trErr t])]) ?_ rfl ?_
    · simp [results, Try.results25, go_sem, z0, z1]
    · exact ⟨by rw [HF.out], by (repeat (with_reducible first | exact Below.refl _ _ | assumption | refine Below.drewN _ ?_ | refine Below.drew ?_ | refine Below_alloc ?_ _ | refine Below.alloc ?_ (by first | (simp; done) | (simp; omega) | omega) _ | refine Below.setCell ?_ (by first | (simp; done) | (simp; omega) | omega) _ | refine Below_call ?_ (by assumption) | refine Below.trans ?_ (by assumption)))⟩
  · have HL : Hid (lowB n d = false) := hid (by simp [lowB, hd])
    have HP : Hid (parB n d = false) := hid (by simp [parB, hin])
    have HF : Hid (triErr n d t = firstNZ [unl false 3, unl false 2, trErr t]) := hid (by unfold triErr; rw [HL.out, HP.out])
    have hne : (firstNZ [unl false 3, unl false 2, trErr t] != 0) = true := by rw [← HF.out]; simpa using hE
    have HE := hid hE
    clear hE
    have hdd : decide ((0 : Int) < d) = false := by simpa using hd
    go_enter Try.func25, Try.ntmps25
    go_wp2_with fail
    obtain ⟨W0, hW0⟩ : ∃ W0, W0 = (w.alloc (.cells #[.int .i64 n, .int .i64 d] 48)).alloc (.cells #[.int .i64 0, .int .i64 0] 48) := ⟨_, rfl⟩
    have x0 : W0.cell? ⟨w.heap.size, 0, none⟩ = some (.int .i64 n) := by rw [hW0]; simp
    have x1 : W0.cell? ⟨w.heap.size, 1, none⟩ = some (.int .i64 d) := by rw [hW0]; simp
    have y0 : W0.cell? ⟨w.heap.size + 1, 0, none⟩ = some (.int .i64 0) := by rw [hW0]; simp
    have y1 : W0.cell? ⟨w.heap.size + 1, 1, none⟩ = some (.int .i64 0) := by rw [hW0]; simp
    have yf : ∀ i, W0.frozen? ⟨w.heap.size + 1, i, none⟩ = false := by intro i; rw [hW0]; simp
    have hz0 : w.heap.size + 1 < W0.heap.size := by rw [hW0]; simp
    have hBW : Below w.heap.size w W0 := by rw [hW0]; (repeat (with_reducible first | exact Below.refl _ _ | assumption | refine Below.drewN _ ?_ | refine Below.drew ?_ | refine Below_alloc ?_ _ | refine Below.alloc ?_ (by first | (simp; done) | (simp; omega) | omega) _ | refine Below.setCell ?_ (by first | (simp; done) | (simp; omega) | omega) _ | refine Below_call ?_ (by assumption) | refine Below.trans ?_ (by assumption)))
    rw [← hW0]
    clear hW0
    refine wp_mixC (fun wc => Below (W0.heap.size) W0 wc) 27 [.q [0, 1, 2, 3, 4, 5, 6, 7, 12, 13, 14, 15, 23], .f [8], .q [9, 10], .f [11, 16], .q [17, 18, 19, 20, 21], .f [22, 24, 25, 26]] [.q [27]] (by kernel_rfl) (by kernel_rfl) ((Below.refl _ _).drew) ?_
    intro Q' hQ'
    (rw [wpMixC]; simp only [pick, List.drop_succ_cons, List.drop_zero, List.head?_cons, Option.toList_some, List.cons_append, List.nil_append])
    (repeat (first | go_big_quiet_skip | (go_big_quiet_want; refine quiet_simple rfl ?_; go_big_quiet_op; go_big_quiet_on) | (go_big_quiet_want; refine quiet_cellB (ty := 3) rfl rfl (by kernel_rfl) (by assumption) (by first | omega | (simp; omega)) ?_; simp only [Act.put, List.setIfInBounds_toArray, List.set_cons_succ, List.set_cons_zero]; go_big_quiet_on)))
    (try refine wpQuiet_nil ?_)
    (rw [wpMixC]; simp only [pick, List.drop_succ_cons, List.drop_zero, List.head?_cons, Option.toList_some, List.cons_append, List.nil_append])
    (rw [wpSteps]; go_wp2_with (first | (go_at_call 89; refine (blind_divisor _ _ _ h1 h2 hd h3).mono ?_; rintro _ _ ⟨rfl, m2, rfl⟩) | (go_at_call 78; refine (blind_unless _ _ _).mono ?_; rintro _ _ ⟨rfl, rfl⟩) | (go_at_call 77; refine (blind_within _ _ _ _).mono ?_; rintro _ _ ⟨rfl, rfl⟩) | (go_at_call 90; refine (blind_trialsErr _ _).mono ?_; rintro _ _ ⟨rfl, rfl⟩) | (first | (go_at_call 75; refine (blind_first [unl false 3, unl false 2, trErr t] _ _ (intsAt_new _ _ _ _ _ rfl (by simp) (by first | rfl | simp))).mono ?_; rintro _ _ ⟨rfl, rfl⟩) | (go_at_call 75; refine (blind_first [unl false 3, unl false 2, trErr t] _ _ ((intsAt_new _ _ _ _ _ rfl (by simp) (by first | rfl | simp)).below (Below.drew (Below.refl _ _)))).mono ?_; rintro _ _ ⟨rfl, rfl⟩))); rw [contF]; refine ⟨?_, ?_⟩; (next => (repeat (with_reducible first | exact Below.refl _ _ | assumption | refine Below.drewN _ ?_ | refine Below.drew ?_ | refine Below_alloc ?_ _ | refine Below.alloc ?_ (by first | (simp; done) | (simp; omega) | omega) _ | refine Below.setCell ?_ (by first | (simp; done) | (simp; omega) | omega) _ | refine Below_call ?_ (by assumption) | refine Below.trans ?_ (by assumption)))))
    (rw [wpSteps])
    (rw [wpMixC]; simp only [pick, List.drop_succ_cons, List.drop_zero, List.head?_cons, Option.toList_some, List.cons_append, List.nil_append])
    (repeat (first | go_big_quiet_skip | (go_big_quiet_want; refine quiet_simple rfl ?_; go_big_quiet_op; go_big_quiet_on) | (go_big_quiet_want; refine quiet_cellB (ty := 3) rfl rfl (by kernel_rfl) (by assumption) (by first | omega | (simp; omega)) ?_; simp only [Act.put, List.setIfInBounds_toArray, List.set_cons_succ, List.set_cons_zero]; go_big_quiet_on)))
    (try refine wpQuiet_nil ?_)
    (rw [wpMixC]; simp only [pick, List.drop_succ_cons, List.drop_zero, List.head?_cons, Option.toList_some, List.cons_append, List.nil_append])
    (rw [wpSteps]; go_wp2_with (first | (go_at_call 89; refine (blind_divisor _ _ _ h1 h2 hd h3).mono ?_; rintro _ _ ⟨rfl, m2, rfl⟩) | (go_at_call 78; refine (blind_unless _ _ _).mono ?_; rintro _ _ ⟨rfl, rfl⟩) | (go_at_call 77; refine (blind_within _ _ _ _).mono ?_; rintro _ _ ⟨rfl, rfl⟩) | (go_at_call 90; refine (blind_trialsErr _ _).mono ?_; rintro _ _ ⟨rfl, rfl⟩) | (first | (go_at_call 75; refine (blind_first [unl false 3, unl false 2, trErr t] _ _ (intsAt_new _ _ _ _ _ rfl (by simp) (by first | rfl | simp))).mono ?_; rintro _ _ ⟨rfl, rfl⟩) | (go_at_call 75; refine (blind_first [unl false 3, unl false 2, trErr t] _ _ ((intsAt_new _ _ _ _ _ rfl (by simp) (by first | rfl | simp)).below (Below.drew (Below.refl _ _)))).mono ?_; rintro _ _ ⟨rfl, rfl⟩))); rw [contF]; refine ⟨?_, ?_⟩; (next => (repeat (with_reducible first | exact Below.refl _ _ | assumption | refine Below.drewN _ ?_ | refine Below.drew ?_ | refine Below_alloc ?_ _ | refine Below.alloc ?_ (by first | (simp; done) | (simp; omega) | omega) _ | refine Below.setCell ?_ (by first | (simp; done) | (simp; omega) | omega) _ | refine Below_call ?_ (by assumption) | refine Below.trans ?_ (by assumption)))))
    (rw [wpSteps]; go_wp2_with (first | (go_at_call 89; refine (blind_divisor _ _ _ h1 h2 hd h3).mono ?_; rintro _ _ ⟨rfl, m2, rfl⟩) | (go_at_call 78; refine (blind_unless _ _ _).mono ?_; rintro _ _ ⟨rfl, rfl⟩) | (go_at_call 77; refine (blind_within _ _ _ _).mono ?_; rintro _ _ ⟨rfl, rfl⟩) | (go_at_call 90; refine (blind_trialsErr _ _).mono ?_; rintro _ _ ⟨rfl, rfl⟩) | (first | (go_at_call 75; refine (blind_first [unl false 3, unl false 2, trErr t] _ _ (intsAt_new _ _ _ _ _ rfl (by simp) (by first | rfl | simp))).mono ?_; rintro _ _ ⟨rfl, rfl⟩) | (go_at_call 75; refine (blind_first [unl false 3, unl false 2, trErr t] _ _ ((intsAt_new _ _ _ _ _ rfl (by simp) (by first | rfl | simp)).below (Below.drew (Below.refl _ _)))).mono ?_; rintro _ _ ⟨rfl, rfl⟩))); rw [contF]; refine ⟨?_, ?_⟩; (next => (repeat (with_reducible first | exact Below.refl _ _ | assumption | refine Below.drewN _ ?_ | refine Below.drew ?_ | refine Below_alloc ?_ _ | refine Below.alloc ?_ (by first | (simp; done) | (simp; omega) | omega) _ | refine Below.setCell ?_ (by first | (simp; done) | (simp; omega) | omega) _ | refine Below_call ?_ (by assumption) | refine Below.trans ?_ (by assumption)))))
    (rw [wpSteps])
    (rw [wpMixC]; simp only [pick, List.drop_succ_cons, List.drop_zero, List.head?_cons, Option.toList_some, List.cons_append, List.nil_append])
    (repeat (first | go_big_quiet_skip | (go_big_quiet_want; refine quiet_simple rfl ?_; go_big_quiet_op; go_big_quiet_on) | (go_big_quiet_want; refine quiet_cellB (ty := 3) rfl rfl (by kernel_rfl) (by assumption) (by first | omega | (simp; omega)) ?_; simp only [Act.put, List.setIfInBounds_toArray, List.set_cons_succ, List.set_cons_zero]; go_big_quiet_on)))
    (try refine wpQuiet_nil ?_)
    (rw [wpMixC]; simp only [pick, List.drop_succ_cons, List.drop_zero, List.head?_cons, Option.toList_some, List.cons_append, List.nil_append])
    (rw [wpSteps]; go_wp2_with (first | (go_at_call 89; refine (blind_divisor _ _ _ h1 h2 hd h3).mono ?_; rintro _ _ ⟨rfl, m2, rfl⟩) | (go_at_call 78; refine (blind_unless _ _ _).mono ?_; rintro _ _ ⟨rfl, rfl⟩) | (go_at_call 77; refine (blind_within _ _ _ _).mono ?_; rintro _ _ ⟨rfl, rfl⟩) | (go_at_call 90; refine (blind_trialsErr _ _).mono ?_; rintro _ _ ⟨rfl, rfl⟩) | (first | (go_at_call 75; refine (blind_first [unl false 3, unl false 2, trErr t] _ _ (intsAt_new _ _ _ _ _ rfl (by simp) (by first | rfl | simp))).mono ?_; rintro _ _ ⟨rfl, rfl⟩) | (go_at_call 75; refine (blind_first [unl false 3, unl false 2, trErr t] _ _ ((intsAt_new _ _ _ _ _ rfl (by simp) (by first | rfl | simp)).below (Below.drew (Below.refl _ _)))).mono ?_; rintro _ _ ⟨rfl, rfl⟩))); rw [contF]; refine ⟨?_, ?_⟩; (next => (repeat (with_reducible first | exact Below.refl _ _ | assumption | refine Below.drewN _ ?_ | refine Below.drew ?_ | refine Below_alloc ?_ _ | refine Below.alloc ?_ (by first | (simp; done) | (simp; omega) | omega) _ | refine Below.setCell ?_ (by first | (simp; done) | (simp; omega) | omega) _ | refine Below_call ?_ (by assumption) | refine Below.trans ?_ (by assumption)))))
    (rw [wpSteps]; go_wp2_with (first | (go_at_call 89; refine (blind_divisor _ _ _ h1 h2 hd h3).mono ?_; rintro _ _ ⟨rfl, m2, rfl⟩) | (go_at_call 78; refine (blind_unless _ _ _).mono ?_; rintro _ _ ⟨rfl, rfl⟩) | (go_at_call 77; refine (blind_within _ _ _ _).mono ?_; rintro _ _ ⟨rfl, rfl⟩) | (go_at_call 90; refine (blind_trialsErr _ _).mono ?_; rintro _ _ ⟨rfl, rfl⟩) | (first | (go_at_call 75; refine (blind_first [unl false 3, unl false 2, trErr t] _ _ (intsAt_new _ _ _ _ _ rfl (by simp) (by first | rfl | simp))).mono ?_; rintro _ _ ⟨rfl, rfl⟩) | (go_at_call 75; refine (blind_first [unl false 3, unl false 2, trErr t] _ _ ((intsAt_new _ _ _ _ _ rfl (by simp) (by first | rfl | simp)).below (Below.drew (Below.refl _ _)))).mono ?_; rintro _ _ ⟨rfl, rfl⟩))); rw [contF]; refine ⟨?_, ?_⟩; (next => (repeat (with_reducible first | exact Below.refl _ _ | assumption | refine Below.drewN _ ?_ | refine Below.drew ?_ | refine Below_alloc ?_ _ | refine Below.alloc ?_ (by first | (simp; done) | (simp; omega) | omega) _ | refine Below.setCell ?_ (by first | (simp; done) | (simp; omega) | omega) _ | refine Below_call ?_ (by assumption) | refine Below.trans ?_ (by assumption)))))
    (rw [wpSteps]; go_wp2_with (first | (go_at_call 89; refine (blind_divisor _ _ _ h1 h2 hd h3).mono ?_; rintro _ _ ⟨rfl, m2, rfl⟩) | (go_at_call 78; refine (blind_unless _ _ _).mono ?_; rintro _ _ ⟨rfl, rfl⟩) | (go_at_call 77; refine (blind_within _ _ _ _).mono ?_; rintro _ _ ⟨rfl, rfl⟩) | (go_at_call 90; refine (blind_trialsErr _ _).mono ?_; rintro _ _ ⟨rfl, rfl⟩) | (first | (go_at_call 75; refine (blind_first [unl false 3, unl false 2, trErr t] _ _ (intsAt_new _ _ _ _ _ rfl (by simp) (by first | rfl | simp))).mono ?_; rintro _ _ ⟨rfl, rfl⟩) | (go_at_call 75; refine (blind_first [unl false 3, unl false 2, trErr t] _ _ ((intsAt_new _ _ _ _ _ rfl (by simp) (by first | rfl | simp)).below (Below.drew (Below.refl _ _)))).mono ?_; rintro _ _ ⟨rfl, rfl⟩))); rw [contF]; refine ⟨?_, ?_⟩; (next => (repeat (with_reducible first | exact Below.refl _ _ | assumption | refine Below.drewN _ ?_ | refine Below.drew ?_ | refine Below_alloc ?_ _ | refine Below.alloc ?_ (by first | (simp; done) | (simp; omega) | omega) _ | refine Below.setCell ?_ (by first | (simp; done) | (simp; omega) | omega) _ | refine Below_call ?_ (by assumption) | refine Below.trans ?_ (by assumption)))))
    (rw [wpSteps]; go_wp2_with (first | (go_at_call 89; refine (blind_divisor _ _ _ h1 h2 hd h3).mono ?_; rintro _ _ ⟨rfl, m2, rfl⟩) | (go_at_call 78; refine (blind_unless _ _ _).mono ?_; rintro _ _ ⟨rfl, rfl⟩) | (go_at_call 77; refine (blind_within _ _ _ _).mono ?_; rintro _ _ ⟨rfl, rfl⟩) | (go_at_call 90; refine (blind_trialsErr _ _).mono ?_; rintro _ _ ⟨rfl, rfl⟩) | (first | (go_at_call 75; refine (blind_first [unl false 3, unl false 2, trErr t] _ _ (intsAt_new _ _ _ _ _ rfl (by simp) (by first | rfl | simp))).mono ?_; rintro _ _ ⟨rfl, rfl⟩) | (go_at_call 75; refine (blind_first [unl false 3, unl false 2, trErr t] _ _ ((intsAt_new _ _ _ _ _ rfl (by simp) (by first | rfl | simp)).below (Below.drew (Below.refl _ _)))).mono ?_; rintro _ _ ⟨rfl, rfl⟩))); rw [contF]; refine ⟨?_, ?_⟩; (next => (repeat (with_reducible first | exact Below.refl _ _ | assumption | refine Below.drewN _ ?_ | refine Below.drew ?_ | refine Below_alloc ?_ _ | refine Below.alloc ?_ (by first | (simp; done) | (simp; omega) | omega) _ | refine Below.setCell ?_ (by first | (simp; done) | (simp; omega) | omega) _ | refine Below_call ?_ (by assumption) | refine Below.trans ?_ (by assumption)))))
    (rw [wpSteps])
    (rw [wpMixC])
    (rw [wpMix]; simp only [pick, List.drop_succ_cons, List.drop_zero, List.head?_cons, Option.toList_some, List.cons_append, List.nil_append])
    (repeat (first | (go_big_quiet_step (fail)) | (quiet_step (fail))))
    (try refine wpQuiet_nil ?_)
    (rw [wpMix])
    (refine hQ' _ _ ?_)
    obtain ⟨WX, hWX⟩ : ∃ WX, WX = (W0.alloc (.cells #[.int .i64 (unl false 3), .int .i64 (unl false 2), .int .i64 (trErr t)] 29)).drew := ⟨_, rfl⟩
    rw [← hWX]
    have hBX : Below W0.heap.size W0 WX := by rw [hWX]; (repeat (with_reducible first | exact Below.refl _ _ | assumption | refine Below.drewN _ ?_ | refine Below.drew ?_ | refine Below_alloc ?_ _ | refine Below.alloc ?_ (by first | (simp; done) | (simp; omega) | omega) _ | refine Below.setCell ?_ (by first | (simp; done) | (simp; omega) | omega) _ | refine Below_call ?_ (by assumption) | refine Below.trans ?_ (by assumption)))
    have z0 := ((bcell hBX).1 _ 0 hz0).trans y0
    have z1 := ((bcell hBX).1 _ 1 hz0).trans y1
    have zf := fun i => ((bcell hBX).2 _ i hz0).trans (yf i)
    have u0 := ((bcell hBX).1 w.heap.size 0 (by omega)).trans x0
    have u1 := ((bcell hBX).1 w.heap.size 1 (by omega)).trans x1
    have hzX : w.heap.size + 1 < WX.heap.size := Nat.lt_of_lt_of_le hz0 hBX.size
    have hBWX : Below w.heap.size w WX := by (repeat (with_reducible first | exact Below.refl _ _ | assumption | refine Below.drewN _ ?_ | refine Below.drew ?_ | refine Below_alloc ?_ _ | refine Below.alloc ?_ (by first | (simp; done) | (simp; omega) | omega) _ | refine Below.setCell ?_ (by first | (simp; done) | (simp; omega) | omega) _ | refine Below_call ?_ (by assumption) | refine Below.trans ?_ (by assumption)))
    clear hWX hBX
    go_wp2_with fail
    (try simp only [Exit.inBlock, Exit.then])
    refine bodyPost_ret (v := .tuple #[.agg #[.int .i64 0, .int .i64 0], .int .i64 (firstNZ [unl false 3, unl false 2, trErr t])]) ?_ rfl ?_
    · simp [results, Try.results25, go_sem, z0, z1]
    · exact ⟨by rw [HF.out], by (repeat (with_reducible first | exact Below.refl _ _ | assumption | refine Below.drewN _ ?_ | refine Below.drew ?_ | refine Below_alloc ?_ _ | refine Below.alloc ?_ (by first | (simp; done) | (simp; omega) | omega) _ | refine Below.setCell ?_ (by first | (simp; done) | (simp; omega) | omega) _ | refine Below_call ?_ (by assumption) | refine Below.trans ?_ (by assumption)))⟩
  · have HL : Hid (lowB n d = false) := hid (by simp [lowB, hd])
    have HP : Hid (parB n d = (decide (d ≤ 1000000000))) := hid (by simp [parB, hin])
    have HF : Hid (triErr n d t = firstNZ [unl false 3, unl (decide (d ≤ 1000000000)) 2, trErr t]) := hid (by unfold triErr; rw [HL.out, HP.out])
    have hne : (firstNZ [unl false 3, unl (decide (d ≤ 1000000000)) 2, trErr t] != 0) = true := by rw [← HF.out]; simpa using hE
    have HE := hid hE
    clear hE
    have hdd : decide ((0 : Int) < d) = false := by simpa using hd
    go_enter Try.func25, Try.ntmps25
    go_wp2_with fail
    obtain ⟨W0, hW0⟩ : ∃ W0, W0 = (w.alloc (.cells #[.int .i64 n, .int .i64 d] 48)).alloc (.cells #[.int .i64 0, .int .i64 0] 48) := ⟨_, rfl⟩
    have x0 : W0.cell? ⟨w.heap.size, 0, none⟩ = some (.int .i64 n) := by rw [hW0]; simp
    have x1 : W0.cell? ⟨w.heap.size, 1, none⟩ = some (.int .i64 d) := by rw [hW0]; simp
    have y0 : W0.cell? ⟨w.heap.size + 1, 0, none⟩ = some (.int .i64 0) := by rw [hW0]; simp
    have y1 : W0.cell? ⟨w.heap.size + 1, 1, none⟩ = some (.int .i64 0) := by rw [hW0]; simp
    have yf : ∀ i, W0.frozen? ⟨w.heap.size + 1, i, none⟩ = false := by intro i; rw [hW0]; simp
    have hz0 : w.heap.size + 1 < W0.heap.size := by rw [hW0]; simp
    have hBW : Below w.heap.size w W0 := by rw [hW0]; (repeat (with_reducible first | exact Below.refl _ _ | assumption | refine Below.drewN _ ?_ | refine Below.drew ?_ | refine Below_alloc ?_ _ | refine Below.alloc ?_ (by first | (simp; done) | (simp; omega) | omega) _ | refine Below.setCell ?_ (by first | (simp; done) | (simp; omega) | omega) _ | refine Below_call ?_ (by assumption) | refine Below.trans ?_ (by assumption)))
    rw [← hW0]
    clear hW0
    refine wp_mixC (fun wc => Below (W0.heap.size) W0 wc) 27 [.q [0, 1, 2, 3, 4, 5, 6, 7, 12, 13, 14, 15, 23], .f [8], .q [9, 10], .f [11, 16], .q [17, 18, 19, 20, 21], .f [22, 24, 25, 26]] [.q [27]] (by kernel_rfl) (by kernel_rfl) ((Below.refl _ _).drew) ?_
    intro Q' hQ'
    (rw [wpMixC]; simp only [pick, List.drop_succ_cons, List.drop_zero, List.head?_cons, Option.toList_some, List.cons_append, List.nil_append])
    (repeat (first | go_big_quiet_skip | (go_big_quiet_want; refine quiet_simple rfl ?_; go_big_quiet_op; go_big_quiet_on) | (go_big_quiet_want; refine quiet_cellB (ty := 3) rfl rfl (by kernel_rfl) (by assumption) (by first | omega | (simp; omega)) ?_; simp only [Act.put, List.setIfInBounds_toArray, List.set_cons_succ, List.set_cons_zero]; go_big_quiet_on)))
    (try refine wpQuiet_nil ?_)
    (rw [wpMixC]; simp only [pick, List.drop_succ_cons, List.drop_zero, List.head?_cons, Option.toList_some, List.cons_append, List.nil_append])
    (rw [wpSteps]; go_wp2_with (first | (go_at_call 89; refine (blind_divisor _ _ _ h1 h2 hd h3).mono ?_; rintro _ _ ⟨rfl, m2, rfl⟩) | (go_at_call 78; refine (blind_unless _ _ _).mono ?_; rintro _ _ ⟨rfl, rfl⟩) | (go_at_call 77; refine (blind_within _ _ _ _).mono ?_; rintro _ _ ⟨rfl, rfl⟩) | (go_at_call 90; refine (blind_trialsErr _ _).mono ?_; rintro _ _ ⟨rfl, rfl⟩) | (first | (go_at_call 75; refine (blind_first [unl false 3, unl (decide (d ≤ 1000000000)) 2, trErr t] _ _ (intsAt_new _ _ _ _ _ rfl (by simp) (by first | rfl | simp))).mono ?_; rintro _ _ ⟨rfl, rfl⟩) | (go_at_call 75; refine (blind_first [unl false 3, unl (decide (d ≤ 1000000000)) 2, trErr t] _ _ ((intsAt_new _ _ _ _ _ rfl (by simp) (by first | rfl | simp)).below (Below.drew (Below.refl _ _)))).mono ?_; rintro _ _ ⟨rfl, rfl⟩))); rw [contF]; refine ⟨?_, ?_⟩; (next => (repeat (with_reducible first | exact Below.refl _ _ | assumption | refine Below.drewN _ ?_ | refine Below.drew ?_ | refine Below_alloc ?_ _ | refine Below.alloc ?_ (by first | (simp; done) | (simp; omega) | omega) _ | refine Below.setCell ?_ (by first | (simp; done) | (simp; omega) | omega) _ | refine Below_call ?_ (by assumption) | refine Below.trans ?_ (by assumption)))))
    (rw [wpSteps])
    (rw [wpMixC]; simp only [pick, List.drop_succ_cons, List.drop_zero, List.head?_cons, Option.toList_some, List.cons_append, List.nil_append])
    (repeat (first | go_big_quiet_skip | (go_big_quiet_want; refine quiet_simple rfl ?_; go_big_quiet_op; go_big_quiet_on) | (go_big_quiet_want; refine quiet_cellB (ty := 3) rfl rfl (by kernel_rfl) (by assumption) (by first | omega | (simp; omega)) ?_; simp only [Act.put, List.setIfInBounds_toArray, List.set_cons_succ, List.set_cons_zero]; go_big_quiet_on)))
    (try refine wpQuiet_nil ?_)
    (rw [wpMixC]; simp only [pick, List.drop_succ_cons, List.drop_zero, List.head?_cons, Option.toList_some, List.cons_append, List.nil_append])
    (rw [wpSteps]; go_wp2_with (first | (go_at_call 89; refine (blind_divisor _ _ _ h1 h2 hd h3).mono ?_; rintro _ _ ⟨rfl, m2, rfl⟩) | (go_at_call 78; refine (blind_unless _ _ _).mono ?_; rintro _ _ ⟨rfl, rfl⟩) | (go_at_call 77; refine (blind_within _ _ _ _).mono ?_; rintro _ _ ⟨rfl, rfl⟩) | (go_at_call 90; refine (blind_trialsErr _ _).mono ?_; rintro _ _ ⟨rfl, rfl⟩) | (first | (go_at_call 75; refine (blind_first [unl false 3, unl (decide (d ≤ 1000000000)) 2, trErr t] _ _ (intsAt_new _ _ _ _ _ rfl (by simp) (by first | rfl | simp))).mono ?_; rintro _ _ ⟨rfl, rfl⟩) | (go_at_call 75; refine (blind_first [unl false 3, unl (decide (d ≤ 1000000000)) 2, trErr t] _ _ ((intsAt_new _ _ _ _ _ rfl (by simp) (by first | rfl | simp)).below (Below.drew (Below.refl _ _)))).mono ?_; rintro _ _ ⟨rfl, rfl⟩))); rw [contF]; refine ⟨?_, ?_⟩; (next => (repeat (with_reducible first | exact Below.refl _ _ | assumption | refine Below.drewN _ ?_ | refine Below.drew ?_ | refine Below_alloc ?_ _ | refine Below.alloc ?_ (by first | (simp; done) | (simp; omega) | omega) _ | refine Below.setCell ?_ (by first | (simp; done) | (simp; omega) | omega) _ | refine Below_call ?_ (by assumption) | refine Below.trans ?_ (by assumption)))))
    (rw [wpSteps]; go_wp2_with (first | (go_at_call 89; refine (blind_divisor _ _ _ h1 h2 hd h3).mono ?_; rintro _ _ ⟨rfl, m2, rfl⟩) | (go_at_call 78; refine (blind_unless _ _ _).mono ?_; rintro _ _ ⟨rfl, rfl⟩) | (go_at_call 77; refine (blind_within _ _ _ _).mono ?_; rintro _ _ ⟨rfl, rfl⟩) | (go_at_call 90; refine (blind_trialsErr _ _).mono ?_; rintro _ _ ⟨rfl, rfl⟩) | (first | (go_at_call 75; refine (blind_first [unl false 3, unl (decide (d ≤ 1000000000)) 2, trErr t] _ _ (intsAt_new _ _ _ _ _ rfl (by simp) (by first | rfl | simp))).mono ?_; rintro _ _ ⟨rfl, rfl⟩) | (go_at_call 75; refine (blind_first [unl false 3, unl (decide (d ≤ 1000000000)) 2, trErr t] _ _ ((intsAt_new _ _ _ _ _ rfl (by simp) (by first | rfl | simp)).below (Below.drew (Below.refl _ _)))).mono ?_; rintro _ _ ⟨rfl, rfl⟩))); rw [contF]; refine ⟨?_, ?_⟩; (next => (repeat (with_reducible first | exact Below.refl _ _ | assumption | refine Below.drewN _ ?_ | refine Below.drew ?_ | refine Below_alloc ?_ _ | refine Below.alloc ?_ (by first | (simp; done) | (simp; omega) | omega) _ | refine Below.setCell ?_ (by first | (simp; done) | (simp; omega) | omega) _ | refine Below_call ?_ (by assumption) | refine Below.trans ?_ (by assumption)))))
    (rw [wpSteps])
    (rw [wpMixC]; simp only [pick, List.drop_succ_cons, List.drop_zero, List.head?_cons, Option.toList_some, List.cons_append, List.nil_append])
    (repeat (first | go_big_quiet_skip | (go_big_quiet_want; refine quiet_simple rfl ?_; go_big_quiet_op; go_big_quiet_on) | (go_big_quiet_want; refine quiet_cellB (ty := 3) rfl rfl (by kernel_rfl) (by assumption) (by first | omega | (simp; omega)) ?_; simp only [Act.put, List.setIfInBounds_toArray, List.set_cons_succ, List.set_cons_zero]; go_big_quiet_on)))
    (try refine wpQuiet_nil ?_)
    (rw [wpMixC]; simp only [pick, List.drop_succ_cons, List.drop_zero, List.head?_cons, Option.toList_some, List.cons_append, List.nil_append])
    (rw [wpSteps]; go_wp2_with (first | (go_at_call 89; refine (blind_divisor _ _ _ h1 h2 hd h3).mono ?_; rintro _ _ ⟨rfl, m2, rfl⟩) | (go_at_call 78; refine (blind_unless _ _ _).mono ?_; rintro _ _ ⟨rfl, rfl⟩) | (go_at_call 77; refine (blind_within _ _ _ _).mono ?_; rintro _ _ ⟨rfl, rfl⟩) | (go_at_call 90; refine (blind_trialsErr _ _).mono ?_; rintro _ _ ⟨rfl, rfl⟩) | (first | (go_at_call 75; refine (blind_first [unl false 3, unl (decide (d ≤ 1000000000)) 2, trErr t] _ _ (intsAt_new _ _ _ _ _ rfl (by simp) (by first | rfl | simp))).mono ?_; rintro _ _ ⟨rfl, rfl⟩) | (go_at_call 75; refine (blind_first [unl false 3, unl (decide (d ≤ 1000000000)) 2, trErr t] _ _ ((intsAt_new _ _ _ _ _ rfl (by simp) (by first | rfl | simp)).below (Below.drew (Below.refl _ _)))).mono ?_; rintro _ _ ⟨rfl, rfl⟩))); rw [contF]; refine ⟨?_, ?_⟩; (next => (repeat (with_reducible first | exact Below.refl _ _ | assumption | refine Below.drewN _ ?_ | refine Below.drew ?_ | refine Below_alloc ?_ _ | refine Below.alloc ?_ (by first | (simp; done) | (simp; omega) | omega) _ | refine Below.setCell ?_ (by first | (simp; done) | (simp; omega) | omega) _ | refine Below_call ?_ (by assumption) | refine Below.trans ?_ (by assumption)))))
    (rw [wpSteps]; go_wp2_with (first | (go_at_call 89; refine (blind_divisor _ _ _ h1 h2 hd h3).mono ?_; rintro _ _ ⟨rfl, m2, rfl⟩) | (go_at_call 78; refine (blind_unless _ _ _).mono ?_; rintro _ _ ⟨rfl, rfl⟩) | (go_at_call 77; refine (blind_within _ _ _ _).mono ?_; rintro _ _ ⟨rfl, rfl⟩) | (go_at_call 90; refine (blind_trialsErr _ _).mono ?_; rintro _ _ ⟨rfl, rfl⟩) | (first | (go_at_call 75; refine (blind_first [unl false 3, unl (decide (d ≤ 1000000000)) 2, trErr t] _ _ (intsAt_new _ _ _ _ _ rfl (by simp) (by first | rfl | simp))).mono ?_; rintro _ _ ⟨rfl, rfl⟩) | (go_at_call 75; refine (blind_first [unl false 3, unl (decide (d ≤ 1000000000)) 2, trErr t] _ _ ((intsAt_new _ _ _ _ _ rfl (by simp) (by first | rfl | simp)).below (Below.drew (Below.refl _ _)))).mono ?_; rintro _ _ ⟨rfl, rfl⟩))); rw [contF]; refine ⟨?_, ?_⟩; (next => (repeat (with_reducible first | exact Below.refl _ _ | assumption | refine Below.drewN _ ?_ | refine Below.drew ?_ | refine Below_alloc ?_ _ | refine Below.alloc ?_ (by first | (simp; done) | (simp; omega) | omega) _ | refine Below.setCell ?_ (by first | (simp; done) | (simp; omega) | omega) _ | refine Below_call ?_ (by assumption) | refine Below.trans ?_ (by assumption)))))
    (rw [wpSteps]; go_wp2_with (first | (go_at_call 89; refine (blind_divisor _ _ _ h1 h2 hd h3).mono ?_; rintro _ _ ⟨rfl, m2, rfl⟩) | (go_at_call 78; refine (blind_unless _ _ _).mono ?_; rintro _ _ ⟨rfl, rfl⟩) | (go_at_call 77; refine (blind_within _ _ _ _).mono ?_; rintro _ _ ⟨rfl, rfl⟩) | (go_at_call 90; refine (blind_trialsErr _ _).mono ?_; rintro _ _ ⟨rfl, rfl⟩) | (first | (go_at_call 75; refine (blind_first [unl false 3, unl (decide (d ≤ 1000000000)) 2, trErr t] _ _ (intsAt_new _ _ _ _ _ rfl (by simp) (by first | rfl | simp))).mono ?_; rintro _ _ ⟨rfl, rfl⟩) | (go_at_call 75; refine (blind_first [unl false 3, unl (decide (d ≤ 1000000000)) 2, trErr t] _ _ ((intsAt_new _ _ _ _ _ rfl (by simp) (by first | rfl | simp)).below (Below.drew (Below.refl _ _)))).mono ?_; rintro _ _ ⟨rfl, rfl⟩))); rw [contF]; refine ⟨?_, ?_⟩; (next => (repeat (with_reducible first | exact Below.refl _ _ | assumption | refine Below.drewN _ ?_ | refine Below.drew ?_ | refine Below_alloc ?_ _ | refine Below.alloc ?_ (by first | (simp; done) | (simp; omega) | omega) _ | refine Below.setCell ?_ (by first | (simp; done) | (simp; omega) | omega) _ | refine Below_call ?_ (by assumption) | refine Below.trans ?_ (by assumption)))))
    (rw [wpSteps]; go_wp2_with (first | (go_at_call 89; refine (blind_divisor _ _ _ h1 h2 hd h3).mono ?_; rintro _ _ ⟨rfl, m2, rfl⟩) | (go_at_call 78; refine (blind_unless _ _ _).mono ?_; rintro _ _ ⟨rfl, rfl⟩) | (go_at_call 77; refine (blind_within _ _ _ _).mono ?_; rintro _ _ ⟨rfl, rfl⟩) | (go_at_call 90; refine (blind_trialsErr _ _).mono ?_; rintro _ _ ⟨rfl, rfl⟩) | (first | (go_at_call 75; refine (blind_first [unl false 3, unl (decide (d ≤ 1000000000)) 2, trErr t] _ _ (intsAt_new _ _ _ _ _ rfl (by simp) (by first | rfl | simp))).mono ?_; rintro _ _ ⟨rfl, rfl⟩) | (go_at_call 75; refine (blind_first [unl false 3, unl (decide (d ≤ 1000000000)) 2, trErr t] _ _ ((intsAt_new _ _ _ _ _ rfl (by simp) (by first | rfl | simp)).below (Below.drew (Below.refl _ _)))).mono ?_; rintro _ _ ⟨rfl, rfl⟩))); rw [contF]; refine ⟨?_, ?_⟩; (next => (repeat (with_reducible first | exact Below.refl _ _ | assumption | refine Below.drewN _ ?_ | refine Below.drew ?_ | refine Below_alloc ?_ _ | refine Below.alloc ?_ (by first | (simp; done) | (simp; omega) | omega) _ | refine Below.setCell ?_ (by first | (simp; done) | (simp; omega) | omega) _ | refine Below_call ?_ (by assumption) | refine Below.trans ?_ (by assumption)))))
    (rw [wpSteps])
    (rw [wpMixC])
    (rw [wpMix]; simp only [pick, List.drop_succ_cons, List.drop_zero, List.head?_cons, Option.toList_some, List.cons_append, List.nil_append])
    (repeat (first | (go_big_quiet_step (fail)) | (quiet_step (fail))))
    (try refine wpQuiet_nil ?_)
    (rw [wpMix])
    (refine hQ' _ _ ?_)
    obtain ⟨WX, hWX⟩ : ∃ WX, WX = (W0.alloc (.cells #[.int .i64 (unl false 3), .int .i64 (unl (decide (d ≤ 1000000000)) 2), .int .i64 (trErr t)] 29)).drew := ⟨_, rfl⟩
    rw [← hWX]
    have hBX : Below W0.heap.size W0 WX := by rw [hWX]; (repeat (with_reducible first | exact Below.refl _ _ | assumption | refine Below.drewN _ ?_ | refine Below.drew ?_ | refine Below_alloc ?_ _ | refine Below.alloc ?_ (by first | (simp; done) | (simp; omega) | omega) _ | refine Below.setCell ?_ (by first | (simp; done) | (simp; omega) | omega) _ | refine Below_call ?_ (by assumption) | refine Below.trans ?_ (by assumption)))
    have z0 := ((bcell hBX).1 _ 0 hz0).trans y0
    have z1 := ((bcell hBX).1 _ 1 hz0).trans y1
    have zf := fun i => ((bcell hBX).2 _ i hz0).trans (yf i)
    have u0 := ((bcell hBX).1 w.heap.size 0 (by omega)).trans x0
    have u1 := ((bcell hBX).1 w.heap.size 1 (by omega)).trans x1
    have hzX : w.heap.size + 1 < WX.heap.size := Nat.lt_of_lt_of_le hz0 hBX.size
    have hBWX : Below w.heap.size w WX := by (repeat (with_reducible first | exact Below.refl _ _ | assumption | refine Below.drewN _ ?_ | refine Below.drew ?_ | refine Below_alloc ?_ _ | refine Below.alloc ?_ (by first | (simp; done) | (simp; omega) | omega) _ | refine Below.setCell ?_ (by first | (simp; done) | (simp; omega) | omega) _ | refine Below_call ?_ (by assumption) | refine Below.trans ?_ (by assumption)))
    clear hWX hBX
    go_wp2_with fail
    (try simp only [Exit.inBlock, Exit.then])
    refine bodyPost_ret (v := .tuple #[.agg #[.int .i64 0, .int .i64 0], .int .i64 (firstNZ [unl false 3, unl (decide (d ≤ 1000000000)) 2, trErr t])]) ?_ rfl ?_
    · simp [results, Try.results25, go_sem, z0, z1]
    · exact ⟨by rw [HF.out], by (repeat (with_reducible first | exact Below.refl _ _ | assumption | refine Below.drewN _ ?_ | refine Below.drew ?_ | refine Below_alloc ?_ _ | refine Below.alloc ?_ (by first | (simp; done) | (simp; omega) | omega) _ | refine Below.setCell ?_ (by first | (simp; done) | (simp; omega) | omega) _ | refine Below_call ?_ (by assumption) | refine Below.trans ?_ (by assumption)))⟩

set_option maxRecDepth 100000 in
set_option maxHeartbeats 4000000 in
theorem blind_TrialsOf_ok (n d t : Int) (w : World) (hE : triErr n d t = 0) :
    Calls Try.prog 25 #[.agg #[.int .i64 n, .int .i64 d], .int .i64 t] w fun e w' => e = .returned (triV n d t) ∧ Below w.heap.size w w' := by
  obtain ⟨hlow, ⟨hn0, hnd, hd9, hd⟩, ht1, ht2⟩ := triErr_ok hE
  have hL : ((Int.gcd n d : Int) == 1) = true := by
    simp only [lowB, Bool.and_eq_true] at hlow; exact hlow.2
  have HP : Hid (parB n d = true) := hid (by simp only [parB, inB, Bool.and_eq_true, decide_eq_true_iff]; omega)
  have hin : inB n 0 d = true := inB_true.2 ⟨hn0, hnd⟩
  have htr : trErr t = 0 := by have := triErr_rest (t := t) hlow HP.out; rw [← this]; exact hE
  have HTV : Hid (triV n d t = if triBig d t = true then .tuple #[.agg #[.int .i64 0, .int .i64 0], .int .i64 8] else .tuple #[.agg #[.int .i64 (triNum n d t), .int .i64 (triDen d t)], .int .i64 0]) := hid (by simp only [triV, hE, if_true])
  have h1 : -9223372036854775808 ≤ n := by omega
  have h2 : n ≤ 9223372036854775807 := by omega
  have h3 : d ≤ 9223372036854775807 := by omega
  obtain ⟨dn, rfl⟩ : ∃ dn : Nat, d = dn := ⟨d.toNat, by omega⟩
  obtain ⟨nn, rfl⟩ : ∃ nn : Nat, n = nn := ⟨n.toNat, by omega⟩
  obtain ⟨tn, rfl⟩ : ∃ tn : Nat, t = tn := ⟨t.toNat, by omega⟩
  obtain ⟨rn, hrn⟩ : ∃ rn : Nat, (dn : Int) - nn = rn := ⟨dn - nn, by omega⟩
  have hrd : rn ≤ dn := by omega
  have HBIG : Hid (triBig dn tn = decide (1000000000 < dn ^ tn)) := hid (decide_eq_decide.2 (by simp only [pw, Int.toNat_natCast]))
  have HNUM : Hid (triNum nn dn tn = ((dn ^ tn : Nat) : Int) - ((rn ^ tn : Nat) : Int) ∧ triDen dn tn = ((dn ^ tn : Nat) : Int)) := hid (by
    have e : ((dn : Int) - nn).toNat = rn := by omega
    simp only [triNum, triDen, pw, e, Int.toNat_natCast]; exact ⟨trivial, trivial⟩)
  have hsub : IntKind.i64.wrap ((dn : Int) - (nn : Int)) = (rn : Int) := by rw [hrn]; exact IntWalk.i64_in _ (by omega)
  have HF : Hid (firstNZ [unl (((Nat.gcd nn dn : Nat) : Int) == 1) 3, unl true 2, trErr tn] = 0) := hid (by
    have hg : ((Nat.gcd nn dn : Nat) : Int) == 1 := hL
    rw [hg, htr]; simp [unl, firstNZ])
  have hlc : decide ((dn : Int) ≤ 1000000000) = true := by simpa using hd9
  have hdp : 0 < dn := by omega
  have hdn9 : dn ≤ 1000000000 := by omega
  clear hlow htr hE hL hlc
  go_enter Try.func25, Try.ntmps25
  go_wp2_with fail
  obtain ⟨W0, hW0⟩ : ∃ W0, W0 = (w.alloc (.cells #[.int .i64 (nn : Int), .int .i64 (dn : Int)] 48)).alloc (.cells #[.int .i64 0, .int .i64 0] 48) := ⟨_, rfl⟩
  have x0 : W0.cell? ⟨w.heap.size, 0, none⟩ = some (.int .i64 (nn : Int)) := by rw [hW0]; simp
  have x1 : W0.cell? ⟨w.heap.size, 1, none⟩ = some (.int .i64 (dn : Int)) := by rw [hW0]; simp
  have y0 : W0.cell? ⟨w.heap.size + 1, 0, none⟩ = some (.int .i64 0) := by rw [hW0]; simp
  have y1 : W0.cell? ⟨w.heap.size + 1, 1, none⟩ = some (.int .i64 0) := by rw [hW0]; simp
  have yf : ∀ i, W0.frozen? ⟨w.heap.size + 1, i, none⟩ = false := by intro i; rw [hW0]; simp
  have hz0 : w.heap.size + 1 < W0.heap.size := by rw [hW0]; simp
  have hBW : Below w.heap.size w W0 := by rw [hW0]; (repeat (with_reducible first | exact Below.refl _ _ | assumption | refine Below.drewN _ ?_ | refine Below.drew ?_ | refine Below_alloc ?_ _ | refine Below.alloc ?_ (by first | (simp; done) | (simp; omega) | omega) _ | refine Below.setCell ?_ (by first | (simp; done) | (simp; omega) | omega) _ | refine Below_call ?_ (by assumption) | refine Below.trans ?_ (by assumption)))
  rw [← hW0]
  clear hW0
  refine wp_mixC (fun wc => Below (W0.heap.size) W0 wc) 27 [.q [0, 1, 2, 3, 4, 5, 6, 7, 12, 13, 14, 15, 23], .f [8], .q [9, 10], .f [11, 16], .q [17, 18, 19, 20, 21], .f [22, 24, 25, 26]] [.q [27]] (by kernel_rfl) (by kernel_rfl) ((Below.refl _ _).drew) ?_
  intro Q' hQ'
  (rw [wpMixC]; simp only [pick, List.drop_succ_cons, List.drop_zero, List.head?_cons, Option.toList_some, List.cons_append, List.nil_append])
  (repeat (first | go_big_quiet_skip | (go_big_quiet_want; refine quiet_simple rfl ?_; go_big_quiet_op; go_big_quiet_on) | (go_big_quiet_want; refine quiet_cellB (ty := 3) rfl rfl (by kernel_rfl) (by assumption) (by first | omega | (simp; omega)) ?_; simp only [Act.put, List.setIfInBounds_toArray, List.set_cons_succ, List.set_cons_zero]; go_big_quiet_on)))
  (try refine wpQuiet_nil ?_)
  (rw [wpMixC]; simp only [pick, List.drop_succ_cons, List.drop_zero, List.head?_cons, Option.toList_some, List.cons_append, List.nil_append])
  (rw [wpSteps]; go_wp2_with (first | (go_at_call 89; refine (blind_divisor _ _ _ h1 h2 hd h3).mono ?_; rintro _ _ ⟨rfl, m2, rfl⟩) | (go_at_call 78; refine (blind_unless _ _ _).mono ?_; rintro _ _ ⟨rfl, rfl⟩) | (go_at_call 77; refine (blind_within _ _ _ _).mono ?_; rintro _ _ ⟨rfl, rfl⟩) | (go_at_call 90; refine (blind_trialsErr _ _).mono ?_; rintro _ _ ⟨rfl, rfl⟩) | (first | (go_at_call 75; refine (blind_first [unl (((Nat.gcd nn dn : Nat) : Int) == 1) 3, unl true 2, trErr tn] _ _ (intsAt_new _ _ _ _ _ rfl (by simp) (by first | rfl | simp))).mono ?_; rintro _ _ ⟨rfl, rfl⟩) | (go_at_call 75; refine (blind_first [unl (((Nat.gcd nn dn : Nat) : Int) == 1) 3, unl true 2, trErr tn] _ _ ((intsAt_new _ _ _ _ _ rfl (by simp) (by first | rfl | simp)).below (Below.drew (Below.refl _ _)))).mono ?_; rintro _ _ ⟨rfl, rfl⟩))); rw [contF]; refine ⟨?_, ?_⟩; (next => (repeat (with_reducible first | exact Below.refl _ _ | assumption | refine Below.drewN _ ?_ | refine Below.drew ?_ | refine Below_alloc ?_ _ | refine Below.alloc ?_ (by first | (simp; done) | (simp; omega) | omega) _ | refine Below.setCell ?_ (by first | (simp; done) | (simp; omega) | omega) _ | refine Below_call ?_ (by assumption) | refine Below.trans ?_ (by assumption)))))
  (rw [wpSteps])
  (rw [wpMixC]; simp only [pick, List.drop_succ_cons, List.drop_zero, List.head?_cons, Option.toList_some, List.cons_append, List.nil_append])
  (repeat (first | go_big_quiet_skip | (go_big_quiet_want; refine quiet_simple rfl ?_; go_big_quiet_op; go_big_quiet_on) | (go_big_quiet_want; refine quiet_cellB (ty := 3) rfl rfl (by kernel_rfl) (by assumption) (by first | omega | (simp; omega)) ?_; simp only [Act.put, List.setIfInBounds_toArray, List.set_cons_succ, List.set_cons_zero]; go_big_quiet_on)))
  (try refine wpQuiet_nil ?_)
  (rw [wpMixC]; simp only [pick, List.drop_succ_cons, List.drop_zero, List.head?_cons, Option.toList_some, List.cons_append, List.nil_append])
  (rw [wpSteps]; go_wp2_with (first | (go_at_call 89; refine (blind_divisor _ _ _ h1 h2 hd h3).mono ?_; rintro _ _ ⟨rfl, m2, rfl⟩) | (go_at_call 78; refine (blind_unless _ _ _).mono ?_; rintro _ _ ⟨rfl, rfl⟩) | (go_at_call 77; refine (blind_within _ _ _ _).mono ?_; rintro _ _ ⟨rfl, rfl⟩) | (go_at_call 90; refine (blind_trialsErr _ _).mono ?_; rintro _ _ ⟨rfl, rfl⟩) | (first | (go_at_call 75; refine (blind_first [unl (((Nat.gcd nn dn : Nat) : Int) == 1) 3, unl true 2, trErr tn] _ _ (intsAt_new _ _ _ _ _ rfl (by simp) (by first | rfl | simp))).mono ?_; rintro _ _ ⟨rfl, rfl⟩) | (go_at_call 75; refine (blind_first [unl (((Nat.gcd nn dn : Nat) : Int) == 1) 3, unl true 2, trErr tn] _ _ ((intsAt_new _ _ _ _ _ rfl (by simp) (by first | rfl | simp)).below (Below.drew (Below.refl _ _)))).mono ?_; rintro _ _ ⟨rfl, rfl⟩))); rw [contF]; refine ⟨?_, ?_⟩; (next => (repeat (with_reducible first | exact Below.refl _ _ | assumption | refine Below.drewN _ ?_ | refine Below.drew ?_ | refine Below_alloc ?_ _ | refine Below.alloc ?_ (by first | (simp; done) | (simp; omega) | omega) _ | refine Below.setCell ?_ (by first | (simp; done) | (simp; omega) | omega) _ | refine Below_call ?_ (by assumption) | refine Below.trans ?_ (by assumption)))))
  (rw [wpSteps]; go_wp2_with (first | (go_at_call 89; refine (blind_divisor _ _ _ h1 h2 hd h3).mono ?_; rintro _ _ ⟨rfl, m2, rfl⟩) | (go_at_call 78; refine (blind_unless _ _ _).mono ?_; rintro _ _ ⟨rfl, rfl⟩) | (go_at_call 77; refine (blind_within _ _ _ _).mono ?_; rintro _ _ ⟨rfl, rfl⟩) | (go_at_call 90; refine (blind_trialsErr _ _).mono ?_; rintro _ _ ⟨rfl, rfl⟩) | (first | (go_at_call 75; refine (blind_first [unl (((Nat.gcd nn dn : Nat) : Int) == 1) 3, unl true 2, trErr tn] _ _ (intsAt_new _ _ _ _ _ rfl (by simp) (by first | rfl | simp))).mono ?_; rintro _ _ ⟨rfl, rfl⟩) | (go_at_call 75; refine (blind_first [unl (((Nat.gcd nn dn : Nat) : Int) == 1) 3, unl true 2, trErr tn] _ _ ((intsAt_new _ _ _ _ _ rfl (by simp) (by first | rfl | simp)).below (Below.drew (Below.refl _ _)))).mono ?_; rintro _ _ ⟨rfl, rfl⟩))); rw [contF]; refine ⟨?_, ?_⟩; (next => (repeat (with_reducible first | exact Below.refl _ _ | assumption | refine Below.drewN _ ?_ | refine Below.drew ?_ | refine Below_alloc ?_ _ | refine Below.alloc ?_ (by first | (simp; done) | (simp; omega) | omega) _ | refine Below.setCell ?_ (by first | (simp; done) | (simp; omega) | omega) _ | refine Below_call ?_ (by assumption) | refine Below.trans ?_ (by assumption)))))
  (rw [wpSteps])
  (rw [wpMixC]; simp only [pick, List.drop_succ_cons, List.drop_zero, List.head?_cons, Option.toList_some, List.cons_append, List.nil_append])
  (repeat (first | go_big_quiet_skip | (go_big_quiet_want; refine quiet_simple rfl ?_; go_big_quiet_op; go_big_quiet_on) | (go_big_quiet_want; refine quiet_cellB (ty := 3) rfl rfl (by kernel_rfl) (by assumption) (by first | omega | (simp; omega)) ?_; simp only [Act.put, List.setIfInBounds_toArray, List.set_cons_succ, List.set_cons_zero]; go_big_quiet_on)))
  (try refine wpQuiet_nil ?_)
  (rw [wpMixC]; simp only [pick, List.drop_succ_cons, List.drop_zero, List.head?_cons, Option.toList_some, List.cons_append, List.nil_append])
  (rw [wpSteps]; go_wp2_with (first | (go_at_call 89; refine (blind_divisor _ _ _ h1 h2 hd h3).mono ?_; rintro _ _ ⟨rfl, m2, rfl⟩) | (go_at_call 78; refine (blind_unless _ _ _).mono ?_; rintro _ _ ⟨rfl, rfl⟩) | (go_at_call 77; refine (blind_within _ _ _ _).mono ?_; rintro _ _ ⟨rfl, rfl⟩) | (go_at_call 90; refine (blind_trialsErr _ _).mono ?_; rintro _ _ ⟨rfl, rfl⟩) | (first | (go_at_call 75; refine (blind_first [unl (((Nat.gcd nn dn : Nat) : Int) == 1) 3, unl true 2, trErr tn] _ _ (intsAt_new _ _ _ _ _ rfl (by simp) (by first | rfl | simp))).mono ?_; rintro _ _ ⟨rfl, rfl⟩) | (go_at_call 75; refine (blind_first [unl (((Nat.gcd nn dn : Nat) : Int) == 1) 3, unl true 2, trErr tn] _ _ ((intsAt_new _ _ _ _ _ rfl (by simp) (by first | rfl | simp)).below (Below.drew (Below.refl _ _)))).mono ?_; rintro _ _ ⟨rfl, rfl⟩))); rw [contF]; refine ⟨?_, ?_⟩; (next => (repeat (with_reducible first | exact Below.refl _ _ | assumption | refine Below.drewN _ ?_ | refine Below.drew ?_ | refine Below_alloc ?_ _ | refine Below.alloc ?_ (by first | (simp; done) | (simp; omega) | omega) _ | refine Below.setCell ?_ (by first | (simp; done) | (simp; omega) | omega) _ | refine Below_call ?_ (by assumption) | refine Below.trans ?_ (by assumption)))))
  (rw [wpSteps]; go_wp2_with (first | (go_at_call 89; refine (blind_divisor _ _ _ h1 h2 hd h3).mono ?_; rintro _ _ ⟨rfl, m2, rfl⟩) | (go_at_call 78; refine (blind_unless _ _ _).mono ?_; rintro _ _ ⟨rfl, rfl⟩) | (go_at_call 77; refine (blind_within _ _ _ _).mono ?_; rintro _ _ ⟨rfl, rfl⟩) | (go_at_call 90; refine (blind_trialsErr _ _).mono ?_; rintro _ _ ⟨rfl, rfl⟩) | (first | (go_at_call 75; refine (blind_first [unl (((Nat.gcd nn dn : Nat) : Int) == 1) 3, unl true 2, trErr tn] _ _ (intsAt_new _ _ _ _ _ rfl (by simp) (by first | rfl | simp))).mono ?_; rintro _ _ ⟨rfl, rfl⟩) | (go_at_call 75; refine (blind_first [unl (((Nat.gcd nn dn : Nat) : Int) == 1) 3, unl true 2, trErr tn] _ _ ((intsAt_new _ _ _ _ _ rfl (by simp) (by first | rfl | simp)).below (Below.drew (Below.refl _ _)))).mono ?_; rintro _ _ ⟨rfl, rfl⟩))); rw [contF]; refine ⟨?_, ?_⟩; (next => (repeat (with_reducible first | exact Below.refl _ _ | assumption | refine Below.drewN _ ?_ | refine Below.drew ?_ | refine Below_alloc ?_ _ | refine Below.alloc ?_ (by first | (simp; done) | (simp; omega) | omega) _ | refine Below.setCell ?_ (by first | (simp; done) | (simp; omega) | omega) _ | refine Below_call ?_ (by assumption) | refine Below.trans ?_ (by assumption)))))
  (rw [wpSteps]; go_wp2_with (first | (go_at_call 89; refine (blind_divisor _ _ _ h1 h2 hd h3).mono ?_; rintro _ _ ⟨rfl, m2, rfl⟩) | (go_at_call 78; refine (blind_unless _ _ _).mono ?_; rintro _ _ ⟨rfl, rfl⟩) | (go_at_call 77; refine (blind_within _ _ _ _).mono ?_; rintro _ _ ⟨rfl, rfl⟩) | (go_at_call 90; refine (blind_trialsErr _ _).mono ?_; rintro _ _ ⟨rfl, rfl⟩) | (first | (go_at_call 75; refine (blind_first [unl (((Nat.gcd nn dn : Nat) : Int) == 1) 3, unl true 2, trErr tn] _ _ (intsAt_new _ _ _ _ _ rfl (by simp) (by first | rfl | simp))).mono ?_; rintro _ _ ⟨rfl, rfl⟩) | (go_at_call 75; refine (blind_first [unl (((Nat.gcd nn dn : Nat) : Int) == 1) 3, unl true 2, trErr tn] _ _ ((intsAt_new _ _ _ _ _ rfl (by simp) (by first | rfl | simp)).below (Below.drew (Below.refl _ _)))).mono ?_; rintro _ _ ⟨rfl, rfl⟩))); rw [contF]; refine ⟨?_, ?_⟩; (next => (repeat (with_reducible first | exact Below.refl _ _ | assumption | refine Below.drewN _ ?_ | refine Below.drew ?_ | refine Below_alloc ?_ _ | refine Below.alloc ?_ (by first | (simp; done) | (simp; omega) | omega) _ | refine Below.setCell ?_ (by first | (simp; done) | (simp; omega) | omega) _ | refine Below_call ?_ (by assumption) | refine Below.trans ?_ (by assumption)))))
  (rw [wpSteps]; go_wp2_with (first | (go_at_call 89; refine (blind_divisor _ _ _ h1 h2 hd h3).mono ?_; rintro _ _ ⟨rfl, m2, rfl⟩) | (go_at_call 78; refine (blind_unless _ _ _).mono ?_; rintro _ _ ⟨rfl, rfl⟩) | (go_at_call 77; refine (blind_within _ _ _ _).mono ?_; rintro _ _ ⟨rfl, rfl⟩) | (go_at_call 90; refine (blind_trialsErr _ _).mono ?_; rintro _ _ ⟨rfl, rfl⟩) | (first | (go_at_call 75; refine (blind_first [unl (((Nat.gcd nn dn : Nat) : Int) == 1) 3, unl true 2, trErr tn] _ _ (intsAt_new _ _ _ _ _ rfl (by simp) (by first | rfl | simp))).mono ?_; rintro _ _ ⟨rfl, rfl⟩) | (go_at_call 75; refine (blind_first [unl (((Nat.gcd nn dn : Nat) : Int) == 1) 3, unl true 2, trErr tn] _ _ ((intsAt_new _ _ _ _ _ rfl (by simp) (by first | rfl | simp)).below (Below.drew (Below.refl _ _)))).mono ?_; rintro _ _ ⟨rfl, rfl⟩))); rw [contF]; refine ⟨?_, ?_⟩; (next => (repeat (with_reducible first | exact Below.refl _ _ | assumption | refine Below.drewN _ ?_ | refine Below.drew ?_ | refine Below_alloc ?_ _ | refine Below.alloc ?_ (by first | (simp; done) | (simp; omega) | omega) _ | refine Below.setCell ?_ (by first | (simp; done) | (simp; omega) | omega) _ | refine Below_call ?_ (by assumption) | refine Below.trans ?_ (by assumption)))))
  (rw [wpSteps])
  (rw [wpMixC])
  (rw [wpMix]; simp only [pick, List.drop_succ_cons, List.drop_zero, List.head?_cons, Option.toList_some, List.cons_append, List.nil_append])
  (repeat (first | (go_big_quiet_step (fail)) | (quiet_step (fail))))
  (try refine wpQuiet_nil ?_)
  (rw [wpMix])
  (refine hQ' _ _ ?_)
  rw [HF.out]
  obtain ⟨WX, hWX⟩ : ∃ WX, WX = (W0.drewN (1 + m2)).alloc (.cells #[.int .i64 (unl (((Nat.gcd nn dn : Nat) : Int) == 1) 3), .int .i64 (unl true 2), .int .i64 (trErr tn)] 29) := ⟨_, rfl⟩
  rw [← hWX]
  have hBX : Below W0.heap.size W0 WX := by rw [hWX]; (repeat (with_reducible first | exact Below.refl _ _ | assumption | refine Below.drewN _ ?_ | refine Below.drew ?_ | refine Below_alloc ?_ _ | refine Below.alloc ?_ (by first | (simp; done) | (simp; omega) | omega) _ | refine Below.setCell ?_ (by first | (simp; done) | (simp; omega) | omega) _ | refine Below_call ?_ (by assumption) | refine Below.trans ?_ (by assumption)))
  have z0 := ((bcell hBX).1 _ 0 hz0).trans y0
  have z1 := ((bcell hBX).1 _ 1 hz0).trans y1
  have zf := fun i => ((bcell hBX).2 _ i hz0).trans (yf i)
  have u0 := ((bcell hBX).1 w.heap.size 0 (by omega)).trans x0
  have u1 := ((bcell hBX).1 w.heap.size 1 (by omega)).trans x1
  have hzX : w.heap.size + 1 < WX.heap.size := Nat.lt_of_lt_of_le hz0 hBX.size
  have hBWX : Below w.heap.size w WX := by (repeat (with_reducible first | exact Below.refl _ _ | assumption | refine Below.drewN _ ?_ | refine Below.drew ?_ | refine Below_alloc ?_ _ | refine Below.alloc ?_ (by first | (simp; done) | (simp; omega) | omega) _ | refine Below.setCell ?_ (by first | (simp; done) | (simp; omega) | omega) _ | refine Below_call ?_ (by assumption) | refine Below.trans ?_ (by assumption)))
  clear hWX hBX
  have hzz := hBWX.size
  clear hd9 h1 h2 h3 hn0 hnd
  go_wp2_with fail
  go_loopw [7, 8, 41] (fun a b i wr => ∃ k A B : Nat, k ≤ tn ∧ i = .int .i64 k ∧ a = .int .i64 A ∧ b = .int .i64 B ∧ Hid (A = dn ^ k ∧ B = rn ^ k) ∧ A ≤ 1000000000 ∧ B ≤ A ∧ Below WX.heap.size WX wr) (fun _ _ i _ => tn - (intOf i).toNat)
  case atStart => exact ⟨0, 1, 1, Nat.zero_le _, rfl, rfl, rfl, hid ⟨rfl, rfl⟩, by omega, Nat.le_refl _, Below.refl _ _⟩
  case round =>
    obtain ⟨k, A, B, hk, rfl, rfl, rfl, HAB, hA, hBA, hbel⟩ := hrel
    obtain ⟨hcb, hfb⟩ := bcell hbel
    have r0 := (hcb _ 0 hzX).trans z0
    have r1 := (hcb _ 1 hzX).trans z1
    have rf := fun i => (hfb _ i hzX).trans (zf i)
    have s0 := (hcb w.heap.size 0 (by omega)).trans u0
    have s1 := (hcb w.heap.size 1 (by omega)).trans u1
    have hzw : w.heap.size + 1 < wr.heap.size := Nat.lt_of_lt_of_le hzX hbel.size
    have hB : Below w.heap.size w wr := hBWX.trans (hbel.mono hzz)
    clear hcb hfb
    by_cases hlt : k < tn
    · obtain ⟨M, hM⟩ : ∃ M : Nat, M = A * dn := ⟨_, rfl⟩
      obtain ⟨R, hR⟩ : ∃ R : Nat, R = B * rn := ⟨_, rfl⟩
      have hM18 : M ≤ 1000000000000000000 := by rw [hM]; exact mul_small hA hdn9
      have hRM : R ≤ M := by rw [hM, hR]; exact Nat.mul_le_mul hBA hrd
      have hmul : IntKind.i64.wrap ((A : Int) * (dn : Int)) = (M : Int) := by rw [← Int.natCast_mul, ← hM]; exact IntWalk.i64_in _ (by omega)
      have hmul2 : IntKind.i64.wrap ((B : Int) * (rn : Int)) = (R : Int) := by rw [← Int.natCast_mul, ← hR]; exact IntWalk.i64_in _ (by omega)
      have HMR : Hid (M = dn ^ (k + 1) ∧ R = rn ^ (k + 1)) := hid (by rw [hM, hR, HAB.out.1, HAB.out.2]; exact ⟨(Nat.pow_succ ..).symm, (Nat.pow_succ ..).symm⟩)
      clear hM hR
      by_cases hbig : 1000000000 < M
      · have HTB : Hid (triV nn dn tn = .tuple #[.agg #[.int .i64 0, .int .i64 0], .int .i64 8]) := hid (by
          have e : decide (1000000000 < dn ^ tn) = true := by rw [decide_eq_true_iff]; exact big_mono hdp (show k + 1 ≤ tn by omega) (by rw [← HMR.out.1]; exact hbig)
          rw [HTV.out, HBIG.out, e]; rfl)
        have hbg : (1000000000 : Int) < (M : Int) := by omega
        go_wp2_with fail
        refine wp_mixC (fun wc => Below (wr.heap.size) wr wc) 12 [.q [0, 1, 2, 3, 4, 5, 6, 7, 8, 9, 10, 11]] [.q [12]] (by kernel_rfl) (by kernel_rfl) ((Below.refl _ _).drew) ?_
        intro Q' hQ'
        (rw [wpMixC]; simp only [pick, List.drop_succ_cons, List.drop_zero, List.head?_cons, Option.toList_some, List.cons_append, List.nil_append])
        (repeat (first | go_big_quiet_skip | (go_big_quiet_want; refine quiet_simple rfl ?_; go_big_quiet_op; go_big_quiet_on) | (go_big_quiet_want; refine quiet_cellB (ty := 3) rfl rfl (by kernel_rfl) (by assumption) (by first | omega | (simp; omega)) ?_; simp only [Act.put, List.setIfInBounds_toArray, List.set_cons_succ, List.set_cons_zero]; go_big_quiet_on)))
        (try refine wpQuiet_nil ?_)
        (rw [wpMixC])
        (rw [wpMix]; simp only [pick, List.drop_succ_cons, List.drop_zero, List.head?_cons, Option.toList_some, List.cons_append, List.nil_append])
        (repeat (first | (go_big_quiet_step (fail)) | (quiet_step (fail))))
        (try refine wpQuiet_nil ?_)
        (rw [wpMix])
        (refine hQ' _ _ ?_)
        go_wp2_with fail
        (try simp only [Exit.inBlock, Exit.then])
        refine bodyPost_ret (v := .tuple #[.agg #[.int .i64 0, .int .i64 0], .int .i64 8]) ?_ rfl ?_
        · simp [results, Try.results25, go_sem, r0, r1]
        · exact ⟨by rw [HTB.out], by (repeat (with_reducible first | exact Below.refl _ _ | assumption | refine Below.drewN _ ?_ | refine Below.drew ?_ | refine Below_alloc ?_ _ | refine Below.alloc ?_ (by first | (simp; done) | (simp; omega) | omega) _ | refine Below.setCell ?_ (by first | (simp; done) | (simp; omega) | omega) _ | refine Below_call ?_ (by assumption) | refine Below.trans ?_ (by assumption)))⟩
      · have hbg : ¬ (1000000000 : Int) < (M : Int) := by omega
        go_wp2_with fail
        refine wp_mixC (fun wc => Below (wr.heap.size) wr wc) 12 [.q [0, 1, 2, 3, 4, 5, 6, 7, 8, 9, 10, 11]] [.q [12]] (by kernel_rfl) (by kernel_rfl) ((Below.refl _ _).drew) ?_
        intro Q' hQ'
        (rw [wpMixC]; simp only [pick, List.drop_succ_cons, List.drop_zero, List.head?_cons, Option.toList_some, List.cons_append, List.nil_append])
        (repeat (first | go_big_quiet_skip | (go_big_quiet_want; refine quiet_simple rfl ?_; go_big_quiet_op; go_big_quiet_on) | (go_big_quiet_want; refine quiet_cellB (ty := 3) rfl rfl (by kernel_rfl) (by assumption) (by first | omega | (simp; omega)) ?_; simp only [Act.put, List.setIfInBounds_toArray, List.set_cons_succ, List.set_cons_zero]; go_big_quiet_on)))
        (try refine wpQuiet_nil ?_)
        (rw [wpMixC])
        (rw [wpMix]; simp only [pick, List.drop_succ_cons, List.drop_zero, List.head?_cons, Option.toList_some, List.cons_append, List.nil_append])
        (repeat (first | (go_big_quiet_step (fail)) | (quiet_step (fail))))
        (try refine wpQuiet_nil ?_)
        (rw [wpMix])
        (refine hQ' _ _ ?_)
        go_wp2_with fail
        go_roundw
        case rel => exact ⟨k + 1, M, R, by omega, by go_num, rfl, rfl, HMR, by omega, hRM, by (repeat (with_reducible first | exact Below.refl _ _ | assumption | refine Below.drewN _ ?_ | refine Below.drew ?_ | refine Below_alloc ?_ _ | refine Below.alloc ?_ (by first | (simp; done) | (simp; omega) | omega) _ | refine Below.setCell ?_ (by first | (simp; done) | (simp; omega) | omega) _ | refine Below_call ?_ (by assumption) | refine Below.trans ?_ (by assumption)))⟩
        case measure => simp [intOf]; omega
    · have hkl : k = tn := by omega
      have HTB : Hid (triV nn dn tn = .tuple #[.agg #[.int .i64 ((A : Int) - (B : Int)), .int .i64 A], .int .i64 0]) := hid (by
        have e : decide (1000000000 < dn ^ tn) = false := by rw [decide_eq_false_iff_not, ← hkl, ← HAB.out.1]; omega
        rw [HTV.out, HBIG.out, e, HNUM.out.1, HNUM.out.2, HAB.out.1, HAB.out.2, hkl]; rfl)
      go_wp2_with fail
      (try simp only [Exit.inBlock, Exit.then])
      refine bodyPost_ret (v := .tuple #[.agg #[.int .i64 ((A : Int) - (B : Int)), .int .i64 A], .int .i64 0]) ?_ rfl ?_
      · simp [results, Try.results25, go_sem, r0, r1]
      · exact ⟨by rw [HTB.out], by (repeat (with_reducible first | exact Below.refl _ _ | assumption | refine Below.drewN _ ?_ | refine Below.drew ?_ | refine Below_alloc ?_ _ | refine Below.alloc ?_ (by first | (simp; done) | (simp; omega) | omega) _ | refine Below.setCell ?_ (by first | (simp; done) | (simp; omega) | omega) _ | refine Below_call ?_ (by assumption) | refine Below.trans ?_ (by assumption)))⟩

theorem blind_TrialsOf (n d t : Int) (w : World) (h1 : -9223372036854775808 ≤ n) (h2 : n ≤ 9223372036854775807) (h3 : d ≤ 9223372036854775807) :
    Calls Try.prog 25 #[.agg #[.int .i64 n, .int .i64 d], .int .i64 t] w fun e w' => e = .returned (triV n d t) ∧ Below w.heap.size w w' := by
  by_cases hE : triErr n d t = 0
  · exact blind_TrialsOf_ok n d t w hE
  · have := blind_TrialsOf_err n d t w h1 h2 h3 hE
    unfold triV
    rwa [if_neg hE]

end Go.Proofs.Ytllddidjiabegaa

/- Trials of the reference. -/
set_option linter.unusedVariables false
set_option linter.unusedSimpArgs false
namespace Go.Proofs.Ytllddidjiabegaa
open Go.RowKit

def triRefV (n d t : Int) : Value :=
  if triBig d t = true then .tuple #[.agg #[.int .i64 0, .int .i64 0], .bool false] else .tuple #[.agg #[.int .i64 (triNum n d t), .int .i64 (triDen d t)], .bool true]
theorem low_pow {nn dn rn k : Nat} (h : Nat.gcd nn dn = 1) (hr : rn + nn = dn) : Nat.gcd (dn ^ k - rn ^ k) (dn ^ k) = 1 := by
  have h1 : Nat.Coprime rn dn := by
    have h2 : (dn - nn).gcd dn = nn.gcd dn := Nat.gcd_self_sub_left (by omega)
    have h3 : dn - nn = rn := by omega
    rw [h3] at h2
    exact h2.trans h
  have h4 : rn ^ k ≤ dn ^ k := Nat.pow_le_pow_left (by omega) k
  rw [Nat.gcd_self_sub_left h4]
  exact h1.pow k k
theorem low_same {A B : Nat} (hBA : B ≤ A) (h : Nat.gcd (A - B) A = 1) : lowNum ((A : Int) - B) A = (A : Int) - B ∧ lowDen ((A : Int) - B) A = A := by
  have e : Int.gcd ((A : Int) - B) A = 1 := by
    rw [← Int.ofNat_sub hBA, Int.gcd_natCast_natCast]; exact h
  unfold lowNum lowDen
  rw [e]
  simp

set_option maxRecDepth 100000 in
set_option maxHeartbeats 4000000 in
theorem ref_Trials (n d t : Int) (w : World) (hE : triErr n d t = 0) :
    Calls Try.prog 29 #[.agg #[.int .i64 n, .int .i64 d], .int .i64 t] w fun e w' => e = .returned (triRefV n d t) ∧ Below w.heap.size w w' := by
  obtain ⟨hlow, ⟨hn0, hnd, hd9, hd⟩, ht1, ht2⟩ := triErr_ok hE
  have hL : ((Int.gcd n d : Int) == 1) = true := by
    simp only [lowB, Bool.and_eq_true] at hlow; exact hlow.2
  have HP : Hid (parB n d = true) := hid (by simp only [parB, inB, Bool.and_eq_true, decide_eq_true_iff]; omega)
  have hin : inB n 0 d = true := inB_true.2 ⟨hn0, hnd⟩
  have htr : trErr t = 0 := by have := triErr_rest (t := t) hlow HP.out; rw [← this]; exact hE
  have HTV : Hid (triRefV n d t = if triBig d t = true then .tuple #[.agg #[.int .i64 0, .int .i64 0], .bool false] else .tuple #[.agg #[.int .i64 (triNum n d t), .int .i64 (triDen d t)], .bool true]) := hid rfl
  have h1 : -9223372036854775808 ≤ n := by omega
  have h2 : n ≤ 9223372036854775807 := by omega
  have h3 : d ≤ 9223372036854775807 := by omega
  obtain ⟨dn, rfl⟩ : ∃ dn : Nat, d = dn := ⟨d.toNat, by omega⟩
  obtain ⟨nn, rfl⟩ : ∃ nn : Nat, n = nn := ⟨n.toNat, by omega⟩
  obtain ⟨tn, rfl⟩ : ∃ tn : Nat, t = tn := ⟨t.toNat, by omega⟩
  obtain ⟨rn, hrn⟩ : ∃ rn : Nat, (dn : Int) - nn = rn := ⟨dn - nn, by omega⟩
  have hrd : rn ≤ dn := by omega
  have HBIG : Hid (triBig dn tn = decide (1000000000 < dn ^ tn)) := hid (decide_eq_decide.2 (by simp only [pw, Int.toNat_natCast]))
  have HNUM : Hid (triNum nn dn tn = ((dn ^ tn : Nat) : Int) - ((rn ^ tn : Nat) : Int) ∧ triDen dn tn = ((dn ^ tn : Nat) : Int)) := hid (by
    have e : ((dn : Int) - nn).toNat = rn := by omega
    simp only [triNum, triDen, pw, e, Int.toNat_natCast]; exact ⟨trivial, trivial⟩)
  have hsub : IntKind.i64.wrap ((dn : Int) - (nn : Int)) = (rn : Int) := by rw [hrn]; exact IntWalk.i64_in _ (by omega)
  have HF : Hid (firstNZ [unl (((Nat.gcd nn dn : Nat) : Int) == 1) 3, unl true 2, trErr tn] = 0) := hid (by
    have hg : ((Nat.gcd nn dn : Nat) : Int) == 1 := hL
    rw [hg, htr]; simp [unl, firstNZ])
  have hlc : decide ((dn : Int) ≤ 1000000000) = true := by simpa using hd9
  have hdp : 0 < dn := by omega
  have hdn9 : dn ≤ 1000000000 := by omega
  have hgc : Nat.gcd nn dn = 1 := by
    have h : ((Nat.gcd nn dn : Nat) : Int) = 1 := by simpa using (show (((Nat.gcd nn dn : Nat) : Int) == 1) = true from hL)
    omega
  clear hlow htr hE hL hlc
  go_enter Try.func29, Try.ntmps29
  go_wp2_with fail
  obtain ⟨W0, hW0⟩ : ∃ W0, W0 = (w.alloc (.cells #[.int .i64 (nn : Int), .int .i64 (dn : Int)] 48)).alloc (.cells #[.int .i64 0, .int .i64 0] 48) := ⟨_, rfl⟩
  have x0 : W0.cell? ⟨w.heap.size, 0, none⟩ = some (.int .i64 (nn : Int)) := by rw [hW0]; simp
  have x1 : W0.cell? ⟨w.heap.size, 1, none⟩ = some (.int .i64 (dn : Int)) := by rw [hW0]; simp
  have y0 : W0.cell? ⟨w.heap.size + 1, 0, none⟩ = some (.int .i64 0) := by rw [hW0]; simp
  have y1 : W0.cell? ⟨w.heap.size + 1, 1, none⟩ = some (.int .i64 0) := by rw [hW0]; simp
  have yf : ∀ i, W0.frozen? ⟨w.heap.size + 1, i, none⟩ = false := by intro i; rw [hW0]; simp
  have hz0 : w.heap.size + 1 < W0.heap.size := by rw [hW0]; simp
  have hBW : Below w.heap.size w W0 := by rw [hW0]; (repeat (with_reducible first | exact Below.refl _ _ | assumption | refine Below.drewN _ ?_ | refine Below.drew ?_ | refine Below_alloc ?_ _ | refine Below.alloc ?_ (by first | (simp; done) | (simp; omega) | omega) _ | refine Below.setCell ?_ (by first | (simp; done) | (simp; omega) | omega) _ | refine Below_call ?_ (by assumption) | refine Below.trans ?_ (by assumption)))
  rw [← hW0]
  clear hW0
  obtain ⟨WX, rfl⟩ : ∃ WX, WX = W0 := ⟨_, rfl⟩
  have HGC : Hid (Nat.gcd nn dn = 1) := hid hgc
  have hrs : rn + nn = dn := by omega
  have hBWX := hBW
  have hzX := hz0
  have hzz := hBWX.size
  clear hd9 h1 h2 h3 hn0 hnd hgc
  go_loopw [6, 7, 8] (fun a b i wr => ∃ k A B : Nat, k ≤ tn ∧ i = .int .i64 k ∧ a = .int .i64 A ∧ b = .int .i64 B ∧ Hid (A = dn ^ k ∧ B = rn ^ k) ∧ A ≤ 1000000000 ∧ B ≤ A ∧ Below WX.heap.size WX wr) (fun _ _ i _ => tn - (intOf i).toNat)
  case atStart => exact ⟨0, 1, 1, Nat.zero_le _, rfl, rfl, rfl, hid ⟨rfl, rfl⟩, by omega, Nat.le_refl _, Below.refl _ _⟩
  case round =>
    obtain ⟨k, A, B, hk, rfl, rfl, rfl, HAB, hA, hBA, hbel⟩ := hrel
    obtain ⟨hcb, hfb⟩ := bcell hbel
    have r0 := (hcb _ 0 hzX).trans y0
    have r1 := (hcb _ 1 hzX).trans y1
    have rf := fun i => (hfb _ i hzX).trans (yf i)
    have s0 := (hcb w.heap.size 0 (by omega)).trans x0
    have s1 := (hcb w.heap.size 1 (by omega)).trans x1
    have hzw : w.heap.size + 1 < wr.heap.size := Nat.lt_of_lt_of_le hzX hbel.size
    have hB : Below w.heap.size w wr := hBWX.trans (hbel.mono hzz)
    clear hcb hfb
    by_cases hlt : k < tn
    · obtain ⟨M, hM⟩ : ∃ M : Nat, M = A * dn := ⟨_, rfl⟩
      obtain ⟨R, hR⟩ : ∃ R : Nat, R = B * rn := ⟨_, rfl⟩
      have hM18 : M ≤ 1000000000000000000 := by rw [hM]; exact mul_small hA hdn9
      have hRM : R ≤ M := by rw [hM, hR]; exact Nat.mul_le_mul hBA hrd
      have hmul : IntKind.i64.wrap ((A : Int) * (dn : Int)) = (M : Int) := by rw [← Int.natCast_mul, ← hM]; exact IntWalk.i64_in _ (by omega)
      have hmul2 : IntKind.i64.wrap ((B : Int) * (rn : Int)) = (R : Int) := by rw [← Int.natCast_mul, ← hR]; exact IntWalk.i64_in _ (by omega)
      have HMR : Hid (M = dn ^ (k + 1) ∧ R = rn ^ (k + 1)) := hid (by rw [hM, hR, HAB.out.1, HAB.out.2]; exact ⟨(Nat.pow_succ ..).symm, (Nat.pow_succ ..).symm⟩)
      clear hM hR
      by_cases hbig : 1000000000 < M
      · have HTB : Hid (triRefV nn dn tn = .tuple #[.agg #[.int .i64 0, .int .i64 0], .bool false]) := hid (by
          have e : decide (1000000000 < dn ^ tn) = true := by rw [decide_eq_true_iff]; exact big_mono hdp (show k + 1 ≤ tn by omega) (by rw [← HMR.out.1]; exact hbig)
          rw [HTV.out, HBIG.out, e]; rfl)
        have hbg : (1000000000 : Int) < (M : Int) := by omega
        go_wp2_with fail
        refine wp_mixC (fun wc => Below (wr.heap.size) wr wc) 12 [.q [0, 1, 2, 3, 4, 5, 6, 7, 8, 9, 10, 11]] [.q [12]] (by kernel_rfl) (by kernel_rfl) ((Below.refl _ _).drew) ?_
        intro Q' hQ'
        (rw [wpMixC]; simp only [pick, List.drop_succ_cons, List.drop_zero, List.head?_cons, Option.toList_some, List.cons_append, List.nil_append])
        (repeat (first | go_big_quiet_skip | (go_big_quiet_want; refine quiet_simple rfl ?_; go_big_quiet_op; go_big_quiet_on) | (go_big_quiet_want; refine quiet_cellB (ty := 3) rfl rfl (by kernel_rfl) (by assumption) (by first | omega | (simp; omega)) ?_; simp only [Act.put, List.setIfInBounds_toArray, List.set_cons_succ, List.set_cons_zero]; go_big_quiet_on)))
        (try refine wpQuiet_nil ?_)
        (rw [wpMixC])
        (rw [wpMix]; simp only [pick, List.drop_succ_cons, List.drop_zero, List.head?_cons, Option.toList_some, List.cons_append, List.nil_append])
        (repeat (first | (go_big_quiet_step (fail)) | (quiet_step (fail))))
        (try refine wpQuiet_nil ?_)
        (rw [wpMix])
        (refine hQ' _ _ ?_)
        go_wp2_with fail
        (try simp only [Exit.inBlock, Exit.then])
        refine bodyPost_ret (v := .tuple #[.agg #[.int .i64 0, .int .i64 0], .bool false]) ?_ rfl ?_
        · simp [results, Try.results29, go_sem, r0, r1]
        · exact ⟨by rw [HTB.out], by (repeat (with_reducible first | exact Below.refl _ _ | assumption | refine Below.drewN _ ?_ | refine Below.drew ?_ | refine Below_alloc ?_ _ | refine Below.alloc ?_ (by first | (simp; done) | (simp; omega) | omega) _ | refine Below.setCell ?_ (by first | (simp; done) | (simp; omega) | omega) _ | refine Below_call ?_ (by assumption) | refine Below.trans ?_ (by assumption)))⟩
      · have hbg : ¬ (1000000000 : Int) < (M : Int) := by omega
        go_wp2_with fail
        refine wp_mixC (fun wc => Below (wr.heap.size) wr wc) 12 [.q [0, 1, 2, 3, 4, 5, 6, 7, 8, 9, 10, 11]] [.q [12]] (by kernel_rfl) (by kernel_rfl) ((Below.refl _ _).drew) ?_
        intro Q' hQ'
        (rw [wpMixC]; simp only [pick, List.drop_succ_cons, List.drop_zero, List.head?_cons, Option.toList_some, List.cons_append, List.nil_append])
        (repeat (first | go_big_quiet_skip | (go_big_quiet_want; refine quiet_simple rfl ?_; go_big_quiet_op; go_big_quiet_on) | (go_big_quiet_want; refine quiet_cellB (ty := 3) rfl rfl (by kernel_rfl) (by assumption) (by first | omega | (simp; omega)) ?_; simp only [Act.put, List.setIfInBounds_toArray, List.set_cons_succ, List.set_cons_zero]; go_big_quiet_on)))
        (try refine wpQuiet_nil ?_)
        (rw [wpMixC])
        (rw [wpMix]; simp only [pick, List.drop_succ_cons, List.drop_zero, List.head?_cons, Option.toList_some, List.cons_append, List.nil_append])
        (repeat (first | (go_big_quiet_step (fail)) | (quiet_step (fail))))
        (try refine wpQuiet_nil ?_)
        (rw [wpMix])
        (refine hQ' _ _ ?_)
        go_wp2_with fail
        go_roundw
        case rel => exact ⟨k + 1, M, R, by omega, by go_num, rfl, rfl, HMR, by omega, hRM, by (repeat (with_reducible first | exact Below.refl _ _ | assumption | refine Below.drewN _ ?_ | refine Below.drew ?_ | refine Below_alloc ?_ _ | refine Below.alloc ?_ (by first | (simp; done) | (simp; omega) | omega) _ | refine Below.setCell ?_ (by first | (simp; done) | (simp; omega) | omega) _ | refine Below_call ?_ (by assumption) | refine Below.trans ?_ (by assumption)))⟩
        case measure => simp [intOf]; omega
    · have hkl : k = tn := by omega
      have HTB : Hid (triRefV nn dn tn = .tuple #[.agg #[.int .i64 ((A : Int) - (B : Int)), .int .i64 A], .bool true]) := hid (by
        have e : decide (1000000000 < dn ^ tn) = false := by rw [decide_eq_false_iff_not, ← hkl, ← HAB.out.1]; omega
        rw [HTV.out, HBIG.out, e, HNUM.out.1, HNUM.out.2, HAB.out.1, HAB.out.2, hkl]; rfl)
      have hA0 : 0 < A := by rw [HAB.out.1]; exact Nat.pow_pos hdp
      have HLS := hid (low_same hBA (by rw [HAB.out.1, HAB.out.2]; exact low_pow HGC.out hrs))
      have HLO : Hid (∀ W, Calls Try.prog 72 #[.int .i64 ((A : Int) - (B : Int)), .int .i64 A] W fun e w' => e = .returned (.agg #[.int .i64 ((A : Int) - (B : Int)), .int .i64 A]) ∧ Below W.heap.size W w') := hid (fun W => by
        have := base_Lowest ((A : Int) - B) A W (by omega) (by omega) (by omega) (by omega)
        rwa [HLS.out.1, HLS.out.2] at this)
      go_wp2_with (go_at_call 72; refine (HLO.out _).mono ?_; rintro _ w2 ⟨rfl, hb2⟩; obtain ⟨hc2, hf2⟩ := bcell hb2; have q0 := (hc2 _ 0 hzw).trans r0; have q1 := (hc2 _ 1 hzw).trans r1; have qf := fun i => (hf2 _ i hzw).trans (rf i))
      (try simp only [Exit.inBlock, Exit.then])
      refine bodyPost_ret (v := .tuple #[.agg #[.int .i64 ((A : Int) - (B : Int)), .int .i64 A], .bool true]) ?_ rfl ?_
      · simp [results, Try.results29, go_sem, q0, q1]
      · exact ⟨by rw [HTB.out], by (repeat (with_reducible first | exact Below.refl _ _ | assumption | refine Below.drewN _ ?_ | refine Below.drew ?_ | refine Below_alloc ?_ _ | refine Below.alloc ?_ (by first | (simp; done) | (simp; omega) | omega) _ | refine Below.setCell ?_ (by first | (simp; done) | (simp; omega) | omega) _ | refine Below_call ?_ (by assumption) | refine Below.trans ?_ (by assumption)))⟩

end Go.Proofs.Ytllddidjiabegaa

