/- The law of trials: its small functions, and the ways that end early. -/
import Derived.Test.YtllddidjiabegaaK10
set_option linter.unusedVariables false
set_option linter.unusedSimpArgs false
namespace Go.Proofs.Ytllddidjiabegaa
open Go.RowKit

def cmpI (x y : Int) : Int := if x < y then -1 else if y < x then 1 else 0

set_option maxRecDepth 100000 in
set_option maxHeartbeats 1000000 in
theorem base_Cmp (n1 d1 n2 d2 x y : Int) (w : World) (hx : n1 * d2 = x) (hy : n2 * d1 = y) (bx : 0 ≤ x ∧ x ≤ 1000000000000000000) (bY : 0 ≤ y ∧ y ≤ 1000000000000000000) :
    Calls Try.prog 38 #[.agg #[.int .i64 n1, .int .i64 d1], .agg #[.int .i64 n2, .int .i64 d2]] w fun e w' => e = .returned (.int .i64 (cmpI x y)) ∧ Below w.heap.size w w' := by
  have h1 : IntKind.i64.wrap (n1 * d2) = x := by rw [hx]; exact IntWalk.i64_in _ (by omega)
  have h2 : IntKind.i64.wrap (n2 * d1) = y := by rw [hy]; exact IntWalk.i64_in _ (by omega)
  obtain ⟨W, hW⟩ : ∃ W, W = (w.alloc (.cells #[.int .i64 n1, .int .i64 d1] 48)).alloc (.cells #[.int .i64 n2, .int .i64 d2] 48) := ⟨_, rfl⟩
  have hzW : W.heap.size = w.heap.size + 1 + 1 := by rw [hW]; simp
  have hBW : Below w.heap.size w W := by rw [hW]; (repeat (with_reducible first | exact Below.refl _ _ | assumption | refine Below.drewN _ ?_ | refine Below.drew ?_ | refine Below_alloc ?_ _ | refine Below.alloc ?_ (by first | (simp; done) | (simp; omega) | omega) _ | refine Below.setCell ?_ (by first | (simp; done) | (simp; omega) | omega) _ | refine Below_call ?_ (by assumption) | refine Below.trans ?_ (by assumption)))
  obtain ⟨q0, q1⟩ := alloc2r w _ _ _ _ W hW
  obtain ⟨a0, a1, fa0, fa1, hl0⟩ := two_cells q0
  obtain ⟨b0, b1, fb0, fb1, hl1⟩ := two_cells q1
  clear q0 q1 hx hy fa0 fa1 fb0 fb1
  have HC : Hid ((x < y → cmpI x y = -1) ∧ (y < x → cmpI x y = 1) ∧ (x = y → cmpI x y = 0)) := hid (by
    unfold cmpI
    exact ⟨fun h => by rw [if_pos h], fun h => by rw [if_neg (by omega), if_pos h], fun h => by rw [if_neg (by omega), if_neg (by omega)]⟩)
  rcases Int.lt_trichotomy x y with h | h | h
  · have HH := hid (HC.out.1 h)
    go_enter Try.func38, Try.ntmps38
    go_wp2_with fail
    rw [← hW]
    clear hW
    refine wp_mixC (fun wc => Below (W.heap.size) W wc) 11 [.q [0, 1, 2, 3, 4, 5, 6, 7, 8, 9, 10]] [.q [11]] (by kernel_rfl) (by kernel_rfl) ((Below.refl _ _).drew) ?_
    intro Q' hQ'
    (rw [wpMixC]; simp only [pick, List.drop_succ_cons, List.drop_zero, List.head?_cons, Option.toList_some, List.cons_append, List.nil_append])
    (repeat (first | go_big_quiet_skip | (go_big_quiet_want; refine quiet_simple rfl ?_; go_big_quiet_op; go_big_quiet_on) | (go_big_quiet_want; refine quiet_cellB (ty := 3) rfl rfl (by kernel_rfl) (by assumption) (by first | omega | (simp; omega)) ?_; simp only [Act.put, List.setIfInBounds_toArray, List.set_cons_succ, List.set_cons_zero]; go_big_quiet_on)))
    (try refine wpQuiet_nil ?_)
    (rw [wpMixC])
    (rw [wpMix]; simp only [pick, List.drop_succ_cons, List.drop_zero, List.head?_cons, Option.toList_some, List.cons_append, List.nil_append])
    (repeat (first | (go_big_quiet_step (fail)) | (quiet_step (fail))))
    (try refine wpQuiet_nil ?_)
    (rw [wpMix])
    (refine hQ' _ _ ?_)
    go_wp2_with fail
    go_ret
    exact ⟨by rw [HH.out]; rfl, by (repeat (with_reducible first | exact Below.refl _ _ | assumption | refine Below.drewN _ ?_ | refine Below.drew ?_ | refine Below_alloc ?_ _ | refine Below.alloc ?_ (by first | (simp; done) | (simp; omega) | omega) _ | refine Below.setCell ?_ (by first | (simp; done) | (simp; omega) | omega) _ | refine Below_call ?_ (by assumption) | refine Below.trans ?_ (by assumption)))⟩
  · have HH := hid (HC.out.2.2 h)
    have HXY := hid h
    subst h
    go_enter Try.func38, Try.ntmps38
    go_wp2_with fail
    rw [← hW]
    clear hW
    refine wp_mixC (fun wc => Below (W.heap.size) W wc) 11 [.q [0, 1, 2, 3, 4, 5, 6, 7, 8, 9, 10]] [.q [11]] (by kernel_rfl) (by kernel_rfl) ((Below.refl _ _).drew) ?_
    intro Q' hQ'
    (rw [wpMixC]; simp only [pick, List.drop_succ_cons, List.drop_zero, List.head?_cons, Option.toList_some, List.cons_append, List.nil_append])
    (repeat (first | go_big_quiet_skip | (go_big_quiet_want; refine quiet_simple rfl ?_; go_big_quiet_op; go_big_quiet_on) | (go_big_quiet_want; refine quiet_cellB (ty := 3) rfl rfl (by kernel_rfl) (by assumption) (by first | omega | (simp; omega)) ?_; simp only [Act.put, List.setIfInBounds_toArray, List.set_cons_succ, List.set_cons_zero]; go_big_quiet_on)))
    (try refine wpQuiet_nil ?_)
    (rw [wpMixC])
    (rw [wpMix]; simp only [pick, List.drop_succ_cons, List.drop_zero, List.head?_cons, Option.toList_some, List.cons_append, List.nil_append])
    (repeat (first | (go_big_quiet_step (fail)) | (quiet_step (fail))))
    (try refine wpQuiet_nil ?_)
    (rw [wpMix])
    (refine hQ' _ _ ?_)
    go_wp2_with fail
    go_ret
    exact ⟨by rw [HH.out]; rfl, by (repeat (with_reducible first | exact Below.refl _ _ | assumption | refine Below.drewN _ ?_ | refine Below.drew ?_ | refine Below_alloc ?_ _ | refine Below.alloc ?_ (by first | (simp; done) | (simp; omega) | omega) _ | refine Below.setCell ?_ (by first | (simp; done) | (simp; omega) | omega) _ | refine Below_call ?_ (by assumption) | refine Below.trans ?_ (by assumption)))⟩
  · have HH := hid (HC.out.2.1 h)
    go_enter Try.func38, Try.ntmps38
    go_wp2_with fail
    rw [← hW]
    clear hW
    refine wp_mixC (fun wc => Below (W.heap.size) W wc) 11 [.q [0, 1, 2, 3, 4, 5, 6, 7, 8, 9, 10]] [.q [11]] (by kernel_rfl) (by kernel_rfl) ((Below.refl _ _).drew) ?_
    intro Q' hQ'
    (rw [wpMixC]; simp only [pick, List.drop_succ_cons, List.drop_zero, List.head?_cons, Option.toList_some, List.cons_append, List.nil_append])
    (repeat (first | go_big_quiet_skip | (go_big_quiet_want; refine quiet_simple rfl ?_; go_big_quiet_op; go_big_quiet_on) | (go_big_quiet_want; refine quiet_cellB (ty := 3) rfl rfl (by kernel_rfl) (by assumption) (by first | omega | (simp; omega)) ?_; simp only [Act.put, List.setIfInBounds_toArray, List.set_cons_succ, List.set_cons_zero]; go_big_quiet_on)))
    (try refine wpQuiet_nil ?_)
    (rw [wpMixC])
    (rw [wpMix]; simp only [pick, List.drop_succ_cons, List.drop_zero, List.head?_cons, Option.toList_some, List.cons_append, List.nil_append])
    (repeat (first | (go_big_quiet_step (fail)) | (quiet_step (fail))))
    (try refine wpQuiet_nil ?_)
    (rw [wpMix])
    (refine hQ' _ _ ?_)
    go_wp2_with fail
    go_ret
    exact ⟨by rw [HH.out]; rfl, by (repeat (with_reducible first | exact Below.refl _ _ | assumption | refine Below.drewN _ ?_ | refine Below.drew ?_ | refine Below_alloc ?_ _ | refine Below.alloc ?_ (by first | (simp; done) | (simp; omega) | omega) _ | refine Below.setCell ?_ (by first | (simp; done) | (simp; omega) | omega) _ | refine Below_call ?_ (by assumption) | refine Below.trans ?_ (by assumption)))⟩

set_option maxRecDepth 100000 in
theorem base_IsSmall (n d : Int) (w : World) (hn : 0 ≤ n ∧ n ≤ 1000000000) (hd : 0 < d ∧ d ≤ 1000000000) :
    Calls Try.prog 31 #[.agg #[.int .i64 n, .int .i64 d]] w fun e w' => e = .returned (.bool true) ∧ Below w.heap.size w w' := by
  have HI : Hid (inB n (-1000000000) 1000000000 = true ∧ inB d 1 1000000000 = true) := hid ⟨inB_true.2 (by omega), inB_true.2 (by omega)⟩
  have H1 : Hid (∀ W, Calls Try.prog 44 #[.int .i64 n, .int .i64 (-1000000000), .int .i64 1000000000] W fun e w' => e = .returned (.bool true) ∧ W = w') := hid (fun W => by have := base_Within n (-1000000000) 1000000000 W; rwa [HI.out.1] at this)
  have H2 : Hid (∀ W, Calls Try.prog 44 #[.int .i64 d, .int .i64 1, .int .i64 1000000000] W fun e w' => e = .returned (.bool true) ∧ W = w') := hid (fun W => by have := base_Within d 1 1000000000 W; rwa [HI.out.2] at this)
  go_enter Try.func31, Try.ntmps31
  go_wp2_with (first | (go_at_call 44; (with_reducible refine (H1.out _).mono ?_); rintro _ _ ⟨rfl, rfl⟩) | (go_at_call 44; (with_reducible refine (H2.out _).mono ?_); rintro _ _ ⟨rfl, rfl⟩))
  go_ret
  exact ⟨rfl, by (repeat (with_reducible first | exact Below.refl _ _ | assumption | refine Below.drewN _ ?_ | refine Below.drew ?_ | refine Below_alloc ?_ _ | refine Below.alloc ?_ (by first | (simp; done) | (simp; omega) | omega) _ | refine Below.setCell ?_ (by first | (simp; done) | (simp; omega) | omega) _ | refine Below_call ?_ (by assumption) | refine Below.trans ?_ (by assumption)))⟩

set_option maxRecDepth 100000 in
theorem base_Whole (n : Int) (w : World) : Calls Try.prog 39 #[.int .i64 n] w fun e w' => e = .returned (.agg #[.int .i64 n, .int .i64 1]) ∧ Below w.heap.size w w' := by
  go_enter Try.func39, Try.ntmps39
  go_wp2_with fail
  ((try simp only [Exit.inBlock, Exit.then]); refine bodyPost_ret (v := .agg #[.int .i64 n, .int .i64 1]) ?_ rfl ?_; (next => simp [results, Try.results39, go_sem]); refine ⟨?_, ?_⟩; (next => rfl); (next => (repeat (with_reducible first | exact Below.refl _ _ | assumption | refine Below.drewN _ ?_ | refine Below.drew ?_ | refine Below_alloc ?_ _ | refine Below.alloc ?_ (by first | (simp; done) | (simp; omega) | omega) _ | refine Below.setCell ?_ (by first | (simp; done) | (simp; omega) | omega) _ | refine Below_call ?_ (by assumption) | refine Below.trans ?_ (by assumption)))))

set_option maxRecDepth 100000 in
set_option maxHeartbeats 4000000 in
theorem law_Trials_err (n d t D : Int) (w : World) (q1 : (D == 0) = false) (q2 : (D != 0) = true)
    (RT : Hid (∀ W, Calls Try.prog 28 #[.agg #[.int .i64 n, .int .i64 d], .int .i64 t] W fun e w' => e = .returned (.int .i64 D) ∧ Below W.heap.size W w')) :
    Calls Try.prog 5 #[.agg #[.int .i64 n, .int .i64 d], .int .i64 t] w fun e w' => e = .returned (.bool true) ∧ Below w.heap.size w w' := by
  have HP : Hid (Pair2 (w.alloc (.cells #[.int .i64 n, .int .i64 d] 48)) w.heap.size (.int .i64 n) (.int .i64 d)) := hid ⟨by simp, by simp, by simp⟩
  go_enter Try.func5, Try.ntmps5
  go_wp2_with (first | (go_at_call 11; refine (law_awake _).mono ?_; rintro _ w1 ⟨rfl, hb1⟩; obtain ⟨nx, x0, x1⟩ := HP.out.below (w' := w1) (by (repeat (with_reducible first | exact Below.refl _ _ | assumption | refine Below.drewN _ ?_ | refine Below.drew ?_ | refine Below_alloc ?_ _ | refine Below.alloc ?_ (by first | (simp; done) | (simp; omega) | omega) _ | refine Below.setCell ?_ (by first | (simp; done) | (simp; omega) | omega) _ | refine Below_call ?_ (by assumption) | refine Below.trans ?_ (by assumption))))) | (go_at_call 28; refine (RT.out _).mono ?_; rintro _ w2 ⟨rfl, hb2⟩))
  go_ret
  exact ⟨rfl, by (repeat (with_reducible first | exact Below.refl _ _ | assumption | refine Below.drewN _ ?_ | refine Below.drew ?_ | refine Below_alloc ?_ _ | refine Below.alloc ?_ (by first | (simp; done) | (simp; omega) | omega) _ | refine Below.setCell ?_ (by first | (simp; done) | (simp; omega) | omega) _ | refine Below_call ?_ (by assumption) | refine Below.trans ?_ (by assumption)))⟩

set_option maxRecDepth 100000 in
set_option maxHeartbeats 4000000 in
theorem law_Trials_12 (n d : Int) (w : World)
    (RT : Hid (∀ W, Calls Try.prog 28 #[.agg #[.int .i64 n, .int .i64 d], .int .i64 12] W fun e w' => e = .returned (.int .i64 0) ∧ Below W.heap.size W w')) :
    Calls Try.prog 5 #[.agg #[.int .i64 n, .int .i64 d], .int .i64 12] w fun e w' => e = .returned (.bool true) ∧ Below w.heap.size w w' := by
  have HP : Hid (Pair2 (w.alloc (.cells #[.int .i64 n, .int .i64 d] 48)) w.heap.size (.int .i64 n) (.int .i64 d)) := hid ⟨by simp, by simp, by simp⟩
  go_enter Try.func5, Try.ntmps5
  go_wp2_with (first | (go_at_call 11; refine (law_awake _).mono ?_; rintro _ w1 ⟨rfl, hb1⟩; obtain ⟨nx, x0, x1⟩ := HP.out.below (w' := w1) (by (repeat (with_reducible first | exact Below.refl _ _ | assumption | refine Below.drewN _ ?_ | refine Below.drew ?_ | refine Below_alloc ?_ _ | refine Below.alloc ?_ (by first | (simp; done) | (simp; omega) | omega) _ | refine Below.setCell ?_ (by first | (simp; done) | (simp; omega) | omega) _ | refine Below_call ?_ (by assumption) | refine Below.trans ?_ (by assumption))))) | (go_at_call 28; refine (RT.out _).mono ?_; rintro _ w2 ⟨rfl, hb2⟩))
  go_ret
  exact ⟨rfl, by (repeat (with_reducible first | exact Below.refl _ _ | assumption | refine Below.drewN _ ?_ | refine Below.drew ?_ | refine Below_alloc ?_ _ | refine Below.alloc ?_ (by first | (simp; done) | (simp; omega) | omega) _ | refine Below.setCell ?_ (by first | (simp; done) | (simp; omega) | omega) _ | refine Below_call ?_ (by assumption) | refine Below.trans ?_ (by assumption)))⟩

set_option maxRecDepth 100000 in
set_option maxHeartbeats 4000000 in
theorem law_Trials_big (n d an ad ee : Int) (t : Nat) (w : World) (ht : t < 12) (he : ee = 0 ∨ ee = 8)
    (RT : Hid (∀ W, Calls Try.prog 28 #[.agg #[.int .i64 n, .int .i64 d], .int .i64 t] W fun e w' => e = .returned (.int .i64 0) ∧ Below W.heap.size W w'))
    (HA : Hid (∀ W, Calls Try.prog 25 #[.agg #[.int .i64 n, .int .i64 d], .int .i64 t] W fun e w' => e = .returned (.tuple #[.agg #[.int .i64 an, .int .i64 ad], .int .i64 ee]) ∧ Below W.heap.size W w'))
    (HB : Hid (∀ W, Calls Try.prog 25 #[.agg #[.int .i64 n, .int .i64 d], .int .i64 ((t : Int) + 1)] W fun e w' => e = .returned (.tuple #[.agg #[.int .i64 0, .int .i64 0], .int .i64 8]) ∧ Below W.heap.size W w'))
    (H1 : Hid (∀ W, Calls Try.prog 25 #[.agg #[.int .i64 n, .int .i64 d], .int .i64 1] W fun e w' => e = .returned (.tuple #[.agg #[.int .i64 n, .int .i64 d], .int .i64 0]) ∧ Below W.heap.size W w')) :
    Calls Try.prog 5 #[.agg #[.int .i64 n, .int .i64 d], .int .i64 t] w fun e w' => e = .returned (.bool true) ∧ Below w.heap.size w w' := by
  have HP : Hid (Pair2 (w.alloc (.cells #[.int .i64 n, .int .i64 d] 48)) w.heap.size (.int .i64 n) (.int .i64 d)) := hid ⟨by simp, by simp, by simp⟩
  have tok1 : True := trivial
  rcases he with rfl | rfl
  all_goals
    go_enter Try.func5, Try.ntmps5
    go_wp2_with (first | (go_at_call 11; refine (law_awake _).mono ?_; rintro _ w1 ⟨rfl, hb1⟩; obtain ⟨nx, x0, x1⟩ := HP.out.below (w' := w1) (by (repeat (with_reducible first | exact Below.refl _ _ | assumption | refine Below.drewN _ ?_ | refine Below.drew ?_ | refine Below_alloc ?_ _ | refine Below.alloc ?_ (by first | (simp; done) | (simp; omega) | omega) _ | refine Below.setCell ?_ (by first | (simp; done) | (simp; omega) | omega) _ | refine Below_call ?_ (by assumption) | refine Below.trans ?_ (by assumption))))) | (go_at_call 28; refine (RT.out _).mono ?_; rintro _ w2 ⟨rfl, hb2⟩; obtain ⟨nx, x0, x1⟩ := HP.out.below (w' := w2) (by (repeat (with_reducible first | exact Below.refl _ _ | assumption | refine Below.drewN _ ?_ | refine Below.drew ?_ | refine Below_alloc ?_ _ | refine Below.alloc ?_ (by first | (simp; done) | (simp; omega) | omega) _ | refine Below.setCell ?_ (by first | (simp; done) | (simp; omega) | omega) _ | refine Below_call ?_ (by assumption) | refine Below.trans ?_ (by assumption))))))
    refine (HA.out _).mono ?_
    rintro _ w3 ⟨rfl, hb3⟩
    obtain ⟨nx, x0, x1⟩ := HP.out.below (w' := w3.alloc (.cells #[.int .i64 an, .int .i64 ad] 48)) (by (repeat (with_reducible first | exact Below.refl _ _ | assumption | refine Below.drewN _ ?_ | refine Below.drew ?_ | refine Below_alloc ?_ _ | refine Below.alloc ?_ (by first | (simp; done) | (simp; omega) | omega) _ | refine Below.setCell ?_ (by first | (simp; done) | (simp; omega) | omega) _ | refine Below_call ?_ (by assumption) | refine Below.trans ?_ (by assumption))))
    go_wp2_with fail
    refine (HB.out _).mono ?_
    rintro _ w4 ⟨rfl, hb4⟩
    obtain ⟨nx, x0, x1⟩ := HP.out.below (w' := w4.alloc (.cells #[.int .i64 0, .int .i64 0] 48)) (by (repeat (with_reducible first | exact Below.refl _ _ | assumption | refine Below.drewN _ ?_ | refine Below.drew ?_ | refine Below_alloc ?_ _ | refine Below.alloc ?_ (by first | (simp; done) | (simp; omega) | omega) _ | refine Below.setCell ?_ (by first | (simp; done) | (simp; omega) | omega) _ | refine Below_call ?_ (by assumption) | refine Below.trans ?_ (by assumption))))
    go_wp2_with fail
    refine (H1.out _).mono ?_
    rintro _ w5 ⟨rfl, hb5⟩
    obtain ⟨nx, x0, x1⟩ := HP.out.below (w' := w5.alloc (.cells #[.int .i64 n, .int .i64 d] 48)) (by (repeat (with_reducible first | exact Below.refl _ _ | assumption | refine Below.drewN _ ?_ | refine Below.drew ?_ | refine Below_alloc ?_ _ | refine Below.alloc ?_ (by first | (simp; done) | (simp; omega) | omega) _ | refine Below.setCell ?_ (by first | (simp; done) | (simp; omega) | omega) _ | refine Below_call ?_ (by assumption) | refine Below.trans ?_ (by assumption))))
    go_wp2_with fail
    go_ret
    exact ⟨rfl, by (repeat (with_reducible first | exact Below.refl _ _ | assumption | refine Below.drewN _ ?_ | refine Below.drew ?_ | refine Below_alloc ?_ _ | refine Below.alloc ?_ (by first | (simp; done) | (simp; omega) | omega) _ | refine Below.setCell ?_ (by first | (simp; done) | (simp; omega) | omega) _ | refine Below_call ?_ (by assumption) | refine Below.trans ?_ (by assumption)))⟩
end Go.Proofs.Ytllddidjiabegaa

