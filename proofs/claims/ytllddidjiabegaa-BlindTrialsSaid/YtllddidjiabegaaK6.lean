/- The law of chances, walked. -/
import Derived.Test.YtllddidjiabegaaK4
import Derived.Test.YtllddidjiabegaaK5
import Derived.Test.YtllddidjiabegaaK1
set_option linter.unusedVariables false
set_option linter.unusedSimpArgs false
namespace Go.Proofs.Ytllddidjiabegaa
open Go.RowKit

/-- a block of four cells. -/
def Quad (w : World) (b : Nat) (x y z u : Value) : Prop := b < w.heap.size ∧ w.cell? ⟨b, 0, none⟩ = some x ∧ w.cell? ⟨b, 1, none⟩ = some y ∧ w.cell? ⟨b, 2, none⟩ = some z ∧ w.cell? ⟨b, 3, none⟩ = some u
theorem Quad.below {w w' : World} {b : Nat} {x y z u : Value} (h : Quad w b x y z u) (hb : Below w.heap.size w w') : Quad w' b x y z u :=
  ⟨Nat.lt_of_lt_of_le h.1 hb.size, (hb.cell (p := ⟨b, 0, none⟩) h.1).trans h.2.1, (hb.cell (p := ⟨b, 1, none⟩) h.1).trans h.2.2.1, (hb.cell (p := ⟨b, 2, none⟩) h.1).trans h.2.2.2.1, (hb.cell (p := ⟨b, 3, none⟩) h.1).trans h.2.2.2.2⟩

set_option maxRecDepth 100000 in
set_option maxHeartbeats 4000000 in
theorem law_Chances_od (xa xs xi xc n d t pn pd qn qd D : Int) (w : World) (q1 : (D == 0) = false) (q2 : (D != 0) = true)
    (HX : Hid (∀ W, Calls Try.prog 24 #[.agg #[.int .i64 xa, .int .i64 xs, .int .i64 xi, .int .i64 xc]] W fun e w' => e = .returned (.tuple #[.agg #[.int .i64 pn, .int .i64 pd], .int .i64 0]) ∧ Below W.heap.size W w'))
    (HT : Hid (∀ W, Calls Try.prog 25 #[.agg #[.int .i64 n, .int .i64 d], .int .i64 t] W fun e w' => e = .returned (.tuple #[.agg #[.int .i64 0, .int .i64 0], .int .i64 D]) ∧ Below W.heap.size W w'))
    (RE : Hid (∀ W, Calls Try.prog 26 #[.agg #[.int .i64 xa, .int .i64 xs, .int .i64 xi, .int .i64 xc]] W fun e w' => e = .returned (.int .i64 0) ∧ Below W.heap.size W w'))
    (RT : Hid (∀ W, Calls Try.prog 28 #[.agg #[.int .i64 n, .int .i64 d], .int .i64 t] W fun e w' => e = .returned (.int .i64 D) ∧ Below W.heap.size W w'))
    (RC : Hid (∀ W, Calls Try.prog 27 #[.agg #[.int .i64 xa, .int .i64 xs, .int .i64 xi, .int .i64 xc]] W fun e w' => e = .returned (.agg #[.int .i64 pn, .int .i64 pd]) ∧ Below W.heap.size W w'))
    : Calls Try.prog 4 #[.agg #[.int .i64 xa, .int .i64 xs, .int .i64 xi, .int .i64 xc], .agg #[.int .i64 n, .int .i64 d], .int .i64 t] w fun e w' => e = .returned (.bool true) ∧ Below w.heap.size w w' := by
  have HQ : Hid (Quad ((w.alloc (.cells #[.int .i64 xa, .int .i64 xs, .int .i64 xi, .int .i64 xc] 46)).alloc (.cells #[.int .i64 n, .int .i64 d] 48)) w.heap.size (.int .i64 xa) (.int .i64 xs) (.int .i64 xi) (.int .i64 xc)) := hid ⟨by simp; omega, by simp, by simp, by simp, by simp⟩
  have HP : Hid (Pair2 ((w.alloc (.cells #[.int .i64 xa, .int .i64 xs, .int .i64 xi, .int .i64 xc] 46)).alloc (.cells #[.int .i64 n, .int .i64 d] 48)) (w.heap.size + 1) (.int .i64 n) (.int .i64 d)) := hid ⟨by simp, by simp, by simp⟩
  go_enter Try.func4, Try.ntmps4
  go_wp2_with (go_at_call 11; refine (law_awake _).mono ?_; rintro _ w1 ⟨rfl, hb1⟩; obtain ⟨nx, x0, x1, x2, x3⟩ := HQ.out.below (w' := w1) (by (repeat (with_reducible first | exact Below.refl _ _ | assumption | refine Below.drewN _ ?_ | refine Below.drew ?_ | refine Below_alloc ?_ _ | refine Below.alloc ?_ (by first | (simp; done) | (simp; omega) | omega) _ | refine Below.setCell ?_ (by first | (simp; done) | (simp; omega) | omega) _ | refine Below_call ?_ (by assumption) | refine Below.trans ?_ (by assumption)))))
  refine (HX.out _).mono ?_
  rintro _ w2 ⟨rfl, hb2⟩
  obtain ⟨nc, c0, c1⟩ := HP.out.below (w' := w2.alloc (.cells #[.int .i64 pn, .int .i64 pd] 48)) (by (repeat (with_reducible first | exact Below.refl _ _ | assumption | refine Below.drewN _ ?_ | refine Below.drew ?_ | refine Below_alloc ?_ _ | refine Below.alloc ?_ (by first | (simp; done) | (simp; omega) | omega) _ | refine Below.setCell ?_ (by first | (simp; done) | (simp; omega) | omega) _ | refine Below_call ?_ (by assumption) | refine Below.trans ?_ (by assumption))))
  have HPB : Hid (Pair2 (w2.alloc (.cells #[.int .i64 pn, .int .i64 pd] 48)) w2.heap.size (.int .i64 pn) (.int .i64 pd)) := hid ⟨by simp, by simp, by simp⟩
  go_wp2_with fail
  refine (HT.out _).mono ?_
  rintro _ w3 ⟨rfl, hb3⟩
  obtain ⟨nx, x0, x1, x2, x3⟩ := HQ.out.below (w' := w3.alloc (.cells #[.int .i64 0, .int .i64 0] 48)) (by (repeat (with_reducible first | exact Below.refl _ _ | assumption | refine Below.drewN _ ?_ | refine Below.drew ?_ | refine Below_alloc ?_ _ | refine Below.alloc ?_ (by first | (simp; done) | (simp; omega) | omega) _ | refine Below.setCell ?_ (by first | (simp; done) | (simp; omega) | omega) _ | refine Below_call ?_ (by assumption) | refine Below.trans ?_ (by assumption))))
  have HQB : Hid (Pair2 (w3.alloc (.cells #[.int .i64 0, .int .i64 0] 48)) w3.heap.size (.int .i64 0) (.int .i64 0)) := hid ⟨by simp, by simp, by simp⟩
  go_wp2_with fail
  refine (RE.out _).mono ?_
  rintro _ w4 ⟨rfl, hb4⟩
  obtain ⟨hB4, hB4a, hB4b, hB4c⟩ : Below w.heap.size w w4 ∧ Below (w2.alloc (.cells #[.int .i64 pn, .int .i64 pd] 48)).heap.size (w2.alloc (.cells #[.int .i64 pn, .int .i64 pd] 48)) w4 ∧ Below (w3.alloc (.cells #[.int .i64 0, .int .i64 0] 48)).heap.size (w3.alloc (.cells #[.int .i64 0, .int .i64 0] 48)) w4 ∧ Below ((w.alloc (.cells #[.int .i64 xa, .int .i64 xs, .int .i64 xi, .int .i64 xc] 46)).alloc (.cells #[.int .i64 n, .int .i64 d] 48)).heap.size ((w.alloc (.cells #[.int .i64 xa, .int .i64 xs, .int .i64 xi, .int .i64 xc] 46)).alloc (.cells #[.int .i64 n, .int .i64 d] 48)) w4 := ⟨by (repeat (with_reducible first | exact Below.refl _ _ | assumption | refine Below.drewN _ ?_ | refine Below.drew ?_ | refine Below_alloc ?_ _ | refine Below.alloc ?_ (by first | (simp; done) | (simp; omega) | omega) _ | refine Below.setCell ?_ (by first | (simp; done) | (simp; omega) | omega) _ | refine Below_call ?_ (by assumption) | refine Below.trans ?_ (by assumption))), by (repeat (with_reducible first | exact Below.refl _ _ | assumption | refine Below.drewN _ ?_ | refine Below.drew ?_ | refine Below_alloc ?_ _ | refine Below.alloc ?_ (by first | (simp; done) | (simp; omega) | omega) _ | refine Below.setCell ?_ (by first | (simp; done) | (simp; omega) | omega) _ | refine Below_call ?_ (by assumption) | refine Below.trans ?_ (by assumption))), by (repeat (with_reducible first | exact Below.refl _ _ | assumption | refine Below.drewN _ ?_ | refine Below.drew ?_ | refine Below_alloc ?_ _ | refine Below.alloc ?_ (by first | (simp; done) | (simp; omega) | omega) _ | refine Below.setCell ?_ (by first | (simp; done) | (simp; omega) | omega) _ | refine Below_call ?_ (by assumption) | refine Below.trans ?_ (by assumption))), by (repeat (with_reducible first | exact Below.refl _ _ | assumption | refine Below.drewN _ ?_ | refine Below.drew ?_ | refine Below_alloc ?_ _ | refine Below.alloc ?_ (by first | (simp; done) | (simp; omega) | omega) _ | refine Below.setCell ?_ (by first | (simp; done) | (simp; omega) | omega) _ | refine Below_call ?_ (by assumption) | refine Below.trans ?_ (by assumption)))⟩
  obtain ⟨nx4, y0, y1, y2, y3⟩ := HQ.out.below hB4c
  have HP4 := hid (HP.out.below hB4c)
  obtain ⟨np4, z0, z1⟩ := HPB.out.below hB4a
  have HQ4 := hid (HQB.out.below hB4b)
  clear hb1 hb2 hb3 hb4 hB4a hB4b hB4c HQ HP HPB HQB
  go_wp2_with fail
  refine wp_mixC (fun wc => Below (w4.heap.size) w4 wc) 26 [.q [0, 1, 2, 3, 4, 5, 6, 7, 8, 9, 10, 11, 12, 13, 14, 15, 16, 17, 18, 19, 20], .f [21], .q [22, 23, 24, 25]] [] (by kernel_rfl) (by kernel_rfl) ((Below.refl _ _).drew) ?_
  intro Q' hQ'
  (rw [wpMixC]; simp only [pick, List.drop_succ_cons, List.drop_zero, List.head?_cons, Option.toList_some, List.cons_append, List.nil_append])
  (repeat (first | go_big_quiet_skip | (go_big_quiet_want; refine quiet_simple rfl ?_; go_big_quiet_op; go_big_quiet_on) | (go_big_quiet_want; refine quiet_agg4B (ty := 46) rfl rfl (by kernel_rfl) (by assumption) (by assumption) (by assumption) (by assumption) (by first | omega | (simp; omega)) ?_; simp only [Act.put, List.setIfInBounds_toArray, List.set_cons_succ, List.set_cons_zero]; go_big_quiet_on) | (go_big_quiet_want; refine quiet_agg2B (ty := 48) rfl rfl (by kernel_rfl) (by assumption) (by assumption) (by first | omega | (simp; omega)) ?_; simp only [Act.put, List.setIfInBounds_toArray, List.set_cons_succ, List.set_cons_zero]; go_big_quiet_on)))
  (try refine wpQuiet_nil ?_)
  (rw [wpMixC]; simp only [pick, List.drop_succ_cons, List.drop_zero, List.head?_cons, Option.toList_some, List.cons_append, List.nil_append])
  (rw [wpSteps]; go_wp2_with ((go_at_call 27; refine (RC.out _).mono ?_; rintro _ w5 ⟨rfl, hb5⟩)); rw [contF]; refine ⟨?_, ?_⟩; (next => (repeat (with_reducible first | exact Below.refl _ _ | assumption | refine Below.drewN _ ?_ | refine Below.drew ?_ | refine Below_alloc ?_ _ | refine Below.alloc ?_ (by first | (simp; done) | (simp; omega) | omega) _ | refine Below.setCell ?_ (by first | (simp; done) | (simp; omega) | omega) _ | refine Below_call ?_ (by assumption) | refine Below.trans ?_ (by assumption)))))
  (rw [wpSteps])
  (rw [wpMixC]; simp only [pick, List.drop_succ_cons, List.drop_zero, List.head?_cons, Option.toList_some, List.cons_append, List.nil_append])
  (repeat (first | go_big_quiet_skip | (go_big_quiet_want; refine quiet_simple rfl ?_; go_big_quiet_op; go_big_quiet_on) | (go_big_quiet_want; refine quiet_agg4B (ty := 46) rfl rfl (by kernel_rfl) (by assumption) (by assumption) (by assumption) (by assumption) (by first | omega | (simp; omega)) ?_; simp only [Act.put, List.setIfInBounds_toArray, List.set_cons_succ, List.set_cons_zero]; go_big_quiet_on) | (go_big_quiet_want; refine quiet_agg2B (ty := 48) rfl rfl (by kernel_rfl) (by assumption) (by assumption) (by first | omega | (simp; omega)) ?_; simp only [Act.put, List.setIfInBounds_toArray, List.set_cons_succ, List.set_cons_zero]; go_big_quiet_on)))
  (try refine wpQuiet_nil ?_)
  (rw [wpMixC])
  (rw [wpMix])
  (refine hQ' _ _ ?_)
  have hB5 : Below w4.heap.size w4 w5 := by (repeat (with_reducible first | exact Below.refl _ _ | assumption | refine Below.drewN _ ?_ | refine Below.drew ?_ | refine Below_alloc ?_ _ | refine Below.alloc ?_ (by first | (simp; done) | (simp; omega) | omega) _ | refine Below.setCell ?_ (by first | (simp; done) | (simp; omega) | omega) _ | refine Below_call ?_ (by assumption) | refine Below.trans ?_ (by assumption)))
  clear hb5
  obtain ⟨nc5, d0, d1⟩ := HP4.out.below hB5
  have HQ5 := hid (HQ4.out.below hB5)
  have HP5 := hid (HP4.out.below hB5)
  have hBW5 : Below w.heap.size w w5 := by (repeat (with_reducible first | exact Below.refl _ _ | assumption | refine Below.drewN _ ?_ | refine Below.drew ?_ | refine Below_alloc ?_ _ | refine Below.alloc ?_ (by first | (simp; done) | (simp; omega) | omega) _ | refine Below.setCell ?_ (by first | (simp; done) | (simp; omega) | omega) _ | refine Below_call ?_ (by assumption) | refine Below.trans ?_ (by assumption)))
  clear hB5 hB4
  go_wp2_with fail
  refine (RT.out _).mono ?_
  rintro _ w6 ⟨rfl, hb6⟩
  obtain ⟨nc6, e0, e1⟩ := HP5.out.below hb6
  obtain ⟨nq6, g0, g1⟩ := HQ5.out.below hb6
  go_wp2_with fail
  go_ret
  exact ⟨by simp, by (repeat (with_reducible first | exact Below.refl _ _ | assumption | refine Below.drewN _ ?_ | refine Below.drew ?_ | refine Below_alloc ?_ _ | refine Below.alloc ?_ (by first | (simp; done) | (simp; omega) | omega) _ | refine Below.setCell ?_ (by first | (simp; done) | (simp; omega) | omega) _ | refine Below_call ?_ (by assumption) | refine Below.trans ?_ (by assumption)))⟩

set_option maxRecDepth 100000 in
set_option maxHeartbeats 4000000 in
theorem law_Chances_oo (xa xs xi xc n d t pn pd qn qd D : Int) (w : World) (q1 : (D == 0) = false) (q2 : (D != 0) = true)
    (HX : Hid (∀ W, Calls Try.prog 24 #[.agg #[.int .i64 xa, .int .i64 xs, .int .i64 xi, .int .i64 xc]] W fun e w' => e = .returned (.tuple #[.agg #[.int .i64 pn, .int .i64 pd], .int .i64 0]) ∧ Below W.heap.size W w'))
    (HT : Hid (∀ W, Calls Try.prog 25 #[.agg #[.int .i64 n, .int .i64 d], .int .i64 t] W fun e w' => e = .returned (.tuple #[.agg #[.int .i64 qn, .int .i64 qd], .int .i64 0]) ∧ Below W.heap.size W w'))
    (RE : Hid (∀ W, Calls Try.prog 26 #[.agg #[.int .i64 xa, .int .i64 xs, .int .i64 xi, .int .i64 xc]] W fun e w' => e = .returned (.int .i64 0) ∧ Below W.heap.size W w'))
    (RT : Hid (∀ W, Calls Try.prog 28 #[.agg #[.int .i64 n, .int .i64 d], .int .i64 t] W fun e w' => e = .returned (.int .i64 0) ∧ Below W.heap.size W w'))
    (RC : Hid (∀ W, Calls Try.prog 27 #[.agg #[.int .i64 xa, .int .i64 xs, .int .i64 xi, .int .i64 xc]] W fun e w' => e = .returned (.agg #[.int .i64 pn, .int .i64 pd]) ∧ Below W.heap.size W w'))
    (RR : Hid (∀ W, Calls Try.prog 29 #[.agg #[.int .i64 n, .int .i64 d], .int .i64 t] W fun e w' => e = .returned (.tuple #[.agg #[.int .i64 qn, .int .i64 qd], .bool true]) ∧ Below W.heap.size W w'))
    : Calls Try.prog 4 #[.agg #[.int .i64 xa, .int .i64 xs, .int .i64 xi, .int .i64 xc], .agg #[.int .i64 n, .int .i64 d], .int .i64 t] w fun e w' => e = .returned (.bool true) ∧ Below w.heap.size w w' := by
  have HQ : Hid (Quad ((w.alloc (.cells #[.int .i64 xa, .int .i64 xs, .int .i64 xi, .int .i64 xc] 46)).alloc (.cells #[.int .i64 n, .int .i64 d] 48)) w.heap.size (.int .i64 xa) (.int .i64 xs) (.int .i64 xi) (.int .i64 xc)) := hid ⟨by simp; omega, by simp, by simp, by simp, by simp⟩
  have HP : Hid (Pair2 ((w.alloc (.cells #[.int .i64 xa, .int .i64 xs, .int .i64 xi, .int .i64 xc] 46)).alloc (.cells #[.int .i64 n, .int .i64 d] 48)) (w.heap.size + 1) (.int .i64 n) (.int .i64 d)) := hid ⟨by simp, by simp, by simp⟩
  go_enter Try.func4, Try.ntmps4
  go_wp2_with (go_at_call 11; refine (law_awake _).mono ?_; rintro _ w1 ⟨rfl, hb1⟩; obtain ⟨nx, x0, x1, x2, x3⟩ := HQ.out.below (w' := w1) (by (repeat (with_reducible first | exact Below.refl _ _ | assumption | refine Below.drewN _ ?_ | refine Below.drew ?_ | refine Below_alloc ?_ _ | refine Below.alloc ?_ (by first | (simp; done) | (simp; omega) | omega) _ | refine Below.setCell ?_ (by first | (simp; done) | (simp; omega) | omega) _ | refine Below_call ?_ (by assumption) | refine Below.trans ?_ (by assumption)))))
  refine (HX.out _).mono ?_
  rintro _ w2 ⟨rfl, hb2⟩
  obtain ⟨nc, c0, c1⟩ := HP.out.below (w' := w2.alloc (.cells #[.int .i64 pn, .int .i64 pd] 48)) (by (repeat (with_reducible first | exact Below.refl _ _ | assumption | refine Below.drewN _ ?_ | refine Below.drew ?_ | refine Below_alloc ?_ _ | refine Below.alloc ?_ (by first | (simp; done) | (simp; omega) | omega) _ | refine Below.setCell ?_ (by first | (simp; done) | (simp; omega) | omega) _ | refine Below_call ?_ (by assumption) | refine Below.trans ?_ (by assumption))))
  have HPB : Hid (Pair2 (w2.alloc (.cells #[.int .i64 pn, .int .i64 pd] 48)) w2.heap.size (.int .i64 pn) (.int .i64 pd)) := hid ⟨by simp, by simp, by simp⟩
  go_wp2_with fail
  refine (HT.out _).mono ?_
  rintro _ w3 ⟨rfl, hb3⟩
  obtain ⟨nx, x0, x1, x2, x3⟩ := HQ.out.below (w' := w3.alloc (.cells #[.int .i64 qn, .int .i64 qd] 48)) (by (repeat (with_reducible first | exact Below.refl _ _ | assumption | refine Below.drewN _ ?_ | refine Below.drew ?_ | refine Below_alloc ?_ _ | refine Below.alloc ?_ (by first | (simp; done) | (simp; omega) | omega) _ | refine Below.setCell ?_ (by first | (simp; done) | (simp; omega) | omega) _ | refine Below_call ?_ (by assumption) | refine Below.trans ?_ (by assumption))))
  have HQB : Hid (Pair2 (w3.alloc (.cells #[.int .i64 qn, .int .i64 qd] 48)) w3.heap.size (.int .i64 qn) (.int .i64 qd)) := hid ⟨by simp, by simp, by simp⟩
  go_wp2_with fail
  refine (RE.out _).mono ?_
  rintro _ w4 ⟨rfl, hb4⟩
  obtain ⟨hB4, hB4a, hB4b, hB4c⟩ : Below w.heap.size w w4 ∧ Below (w2.alloc (.cells #[.int .i64 pn, .int .i64 pd] 48)).heap.size (w2.alloc (.cells #[.int .i64 pn, .int .i64 pd] 48)) w4 ∧ Below (w3.alloc (.cells #[.int .i64 qn, .int .i64 qd] 48)).heap.size (w3.alloc (.cells #[.int .i64 qn, .int .i64 qd] 48)) w4 ∧ Below ((w.alloc (.cells #[.int .i64 xa, .int .i64 xs, .int .i64 xi, .int .i64 xc] 46)).alloc (.cells #[.int .i64 n, .int .i64 d] 48)).heap.size ((w.alloc (.cells #[.int .i64 xa, .int .i64 xs, .int .i64 xi, .int .i64 xc] 46)).alloc (.cells #[.int .i64 n, .int .i64 d] 48)) w4 := ⟨by (repeat (with_reducible first | exact Below.refl _ _ | assumption | refine Below.drewN _ ?_ | refine Below.drew ?_ | refine Below_alloc ?_ _ | refine Below.alloc ?_ (by first | (simp; done) | (simp; omega) | omega) _ | refine Below.setCell ?_ (by first | (simp; done) | (simp; omega) | omega) _ | refine Below_call ?_ (by assumption) | refine Below.trans ?_ (by assumption))), by (repeat (with_reducible first | exact Below.refl _ _ | assumption | refine Below.drewN _ ?_ | refine Below.drew ?_ | refine Below_alloc ?_ _ | refine Below.alloc ?_ (by first | (simp; done) | (simp; omega) | omega) _ | refine Below.setCell ?_ (by first | (simp; done) | (simp; omega) | omega) _ | refine Below_call ?_ (by assumption) | refine Below.trans ?_ (by assumption))), by (repeat (with_reducible first | exact Below.refl _ _ | assumption | refine Below.drewN _ ?_ | refine Below.drew ?_ | refine Below_alloc ?_ _ | refine Below.alloc ?_ (by first | (simp; done) | (simp; omega) | omega) _ | refine Below.setCell ?_ (by first | (simp; done) | (simp; omega) | omega) _ | refine Below_call ?_ (by assumption) | refine Below.trans ?_ (by assumption))), by (repeat (with_reducible first | exact Below.refl _ _ | assumption | refine Below.drewN _ ?_ | refine Below.drew ?_ | refine Below_alloc ?_ _ | refine Below.alloc ?_ (by first | (simp; done) | (simp; omega) | omega) _ | refine Below.setCell ?_ (by first | (simp; done) | (simp; omega) | omega) _ | refine Below_call ?_ (by assumption) | refine Below.trans ?_ (by assumption)))⟩
  obtain ⟨nx4, y0, y1, y2, y3⟩ := HQ.out.below hB4c
  have HP4 := hid (HP.out.below hB4c)
  obtain ⟨np4, z0, z1⟩ := HPB.out.below hB4a
  have HQ4 := hid (HQB.out.below hB4b)
  clear hb1 hb2 hb3 hb4 hB4a hB4b hB4c HQ HP HPB HQB
  go_wp2_with fail
  refine wp_mixC (fun wc => Below (w4.heap.size) w4 wc) 26 [.q [0, 1, 2, 3, 4, 5, 6, 7, 8, 9, 10, 11, 12, 13, 14, 15, 16, 17, 18, 19, 20], .f [21], .q [22, 23, 24, 25]] [] (by kernel_rfl) (by kernel_rfl) ((Below.refl _ _).drew) ?_
  intro Q' hQ'
  (rw [wpMixC]; simp only [pick, List.drop_succ_cons, List.drop_zero, List.head?_cons, Option.toList_some, List.cons_append, List.nil_append])
  (repeat (first | go_big_quiet_skip | (go_big_quiet_want; refine quiet_simple rfl ?_; go_big_quiet_op; go_big_quiet_on) | (go_big_quiet_want; refine quiet_agg4B (ty := 46) rfl rfl (by kernel_rfl) (by assumption) (by assumption) (by assumption) (by assumption) (by first | omega | (simp; omega)) ?_; simp only [Act.put, List.setIfInBounds_toArray, List.set_cons_succ, List.set_cons_zero]; go_big_quiet_on) | (go_big_quiet_want; refine quiet_agg2B (ty := 48) rfl rfl (by kernel_rfl) (by assumption) (by assumption) (by first | omega | (simp; omega)) ?_; simp only [Act.put, List.setIfInBounds_toArray, List.set_cons_succ, List.set_cons_zero]; go_big_quiet_on)))
  (try refine wpQuiet_nil ?_)
  (rw [wpMixC]; simp only [pick, List.drop_succ_cons, List.drop_zero, List.head?_cons, Option.toList_some, List.cons_append, List.nil_append])
  (rw [wpSteps]; go_wp2_with ((go_at_call 27; refine (RC.out _).mono ?_; rintro _ w5 ⟨rfl, hb5⟩)); rw [contF]; refine ⟨?_, ?_⟩; (next => (repeat (with_reducible first | exact Below.refl _ _ | assumption | refine Below.drewN _ ?_ | refine Below.drew ?_ | refine Below_alloc ?_ _ | refine Below.alloc ?_ (by first | (simp; done) | (simp; omega) | omega) _ | refine Below.setCell ?_ (by first | (simp; done) | (simp; omega) | omega) _ | refine Below_call ?_ (by assumption) | refine Below.trans ?_ (by assumption)))))
  (rw [wpSteps])
  (rw [wpMixC]; simp only [pick, List.drop_succ_cons, List.drop_zero, List.head?_cons, Option.toList_some, List.cons_append, List.nil_append])
  (repeat (first | go_big_quiet_skip | (go_big_quiet_want; refine quiet_simple rfl ?_; go_big_quiet_op; go_big_quiet_on) | (go_big_quiet_want; refine quiet_agg4B (ty := 46) rfl rfl (by kernel_rfl) (by assumption) (by assumption) (by assumption) (by assumption) (by first | omega | (simp; omega)) ?_; simp only [Act.put, List.setIfInBounds_toArray, List.set_cons_succ, List.set_cons_zero]; go_big_quiet_on) | (go_big_quiet_want; refine quiet_agg2B (ty := 48) rfl rfl (by kernel_rfl) (by assumption) (by assumption) (by first | omega | (simp; omega)) ?_; simp only [Act.put, List.setIfInBounds_toArray, List.set_cons_succ, List.set_cons_zero]; go_big_quiet_on)))
  (try refine wpQuiet_nil ?_)
  (rw [wpMixC])
  (rw [wpMix])
  (refine hQ' _ _ ?_)
  have hB5 : Below w4.heap.size w4 w5 := by (repeat (with_reducible first | exact Below.refl _ _ | assumption | refine Below.drewN _ ?_ | refine Below.drew ?_ | refine Below_alloc ?_ _ | refine Below.alloc ?_ (by first | (simp; done) | (simp; omega) | omega) _ | refine Below.setCell ?_ (by first | (simp; done) | (simp; omega) | omega) _ | refine Below_call ?_ (by assumption) | refine Below.trans ?_ (by assumption)))
  clear hb5
  obtain ⟨nc5, d0, d1⟩ := HP4.out.below hB5
  have HQ5 := hid (HQ4.out.below hB5)
  have HP5 := hid (HP4.out.below hB5)
  have hBW5 : Below w.heap.size w w5 := by (repeat (with_reducible first | exact Below.refl _ _ | assumption | refine Below.drewN _ ?_ | refine Below.drew ?_ | refine Below_alloc ?_ _ | refine Below.alloc ?_ (by first | (simp; done) | (simp; omega) | omega) _ | refine Below.setCell ?_ (by first | (simp; done) | (simp; omega) | omega) _ | refine Below_call ?_ (by assumption) | refine Below.trans ?_ (by assumption)))
  clear hB5 hB4
  go_wp2_with fail
  refine (RT.out _).mono ?_
  rintro _ w6 ⟨rfl, hb6⟩
  obtain ⟨nc6, e0, e1⟩ := HP5.out.below hb6
  obtain ⟨nq6, g0, g1⟩ := HQ5.out.below hb6
  have HQ6 := hid (HQ5.out.below hb6)
  go_wp2_with fail
  refine (RR.out _).mono ?_
  rintro _ w7 ⟨rfl, hb7⟩
  obtain ⟨nq7, f0, f1⟩ := HQ6.out.below hb7
  go_wp2_with fail
  go_ret
  exact ⟨by simp, by (repeat (with_reducible first | exact Below.refl _ _ | assumption | refine Below.drewN _ ?_ | refine Below.drew ?_ | refine Below_alloc ?_ _ | refine Below.alloc ?_ (by first | (simp; done) | (simp; omega) | omega) _ | refine Below.setCell ?_ (by first | (simp; done) | (simp; omega) | omega) _ | refine Below_call ?_ (by assumption) | refine Below.trans ?_ (by assumption)))⟩

set_option maxRecDepth 100000 in
set_option maxHeartbeats 4000000 in
theorem law_Chances_ol (xa xs xi xc n d t pn pd qn qd D : Int) (w : World) (q1 : (D == 0) = false) (q2 : (D != 0) = true)
    (HX : Hid (∀ W, Calls Try.prog 24 #[.agg #[.int .i64 xa, .int .i64 xs, .int .i64 xi, .int .i64 xc]] W fun e w' => e = .returned (.tuple #[.agg #[.int .i64 pn, .int .i64 pd], .int .i64 0]) ∧ Below W.heap.size W w'))
    (HT : Hid (∀ W, Calls Try.prog 25 #[.agg #[.int .i64 n, .int .i64 d], .int .i64 t] W fun e w' => e = .returned (.tuple #[.agg #[.int .i64 0, .int .i64 0], .int .i64 8]) ∧ Below W.heap.size W w'))
    (RE : Hid (∀ W, Calls Try.prog 26 #[.agg #[.int .i64 xa, .int .i64 xs, .int .i64 xi, .int .i64 xc]] W fun e w' => e = .returned (.int .i64 0) ∧ Below W.heap.size W w'))
    (RT : Hid (∀ W, Calls Try.prog 28 #[.agg #[.int .i64 n, .int .i64 d], .int .i64 t] W fun e w' => e = .returned (.int .i64 0) ∧ Below W.heap.size W w'))
    (RC : Hid (∀ W, Calls Try.prog 27 #[.agg #[.int .i64 xa, .int .i64 xs, .int .i64 xi, .int .i64 xc]] W fun e w' => e = .returned (.agg #[.int .i64 pn, .int .i64 pd]) ∧ Below W.heap.size W w'))
    (RR : Hid (∀ W, Calls Try.prog 29 #[.agg #[.int .i64 n, .int .i64 d], .int .i64 t] W fun e w' => e = .returned (.tuple #[.agg #[.int .i64 0, .int .i64 0], .bool false]) ∧ Below W.heap.size W w'))
    : Calls Try.prog 4 #[.agg #[.int .i64 xa, .int .i64 xs, .int .i64 xi, .int .i64 xc], .agg #[.int .i64 n, .int .i64 d], .int .i64 t] w fun e w' => e = .returned (.bool true) ∧ Below w.heap.size w w' := by
  have HQ : Hid (Quad ((w.alloc (.cells #[.int .i64 xa, .int .i64 xs, .int .i64 xi, .int .i64 xc] 46)).alloc (.cells #[.int .i64 n, .int .i64 d] 48)) w.heap.size (.int .i64 xa) (.int .i64 xs) (.int .i64 xi) (.int .i64 xc)) := hid ⟨by simp; omega, by simp, by simp, by simp, by simp⟩
  have HP : Hid (Pair2 ((w.alloc (.cells #[.int .i64 xa, .int .i64 xs, .int .i64 xi, .int .i64 xc] 46)).alloc (.cells #[.int .i64 n, .int .i64 d] 48)) (w.heap.size + 1) (.int .i64 n) (.int .i64 d)) := hid ⟨by simp, by simp, by simp⟩
  go_enter Try.func4, Try.ntmps4
  go_wp2_with (go_at_call 11; refine (law_awake _).mono ?_; rintro _ w1 ⟨rfl, hb1⟩; obtain ⟨nx, x0, x1, x2, x3⟩ := HQ.out.below (w' := w1) (by (repeat (with_reducible first | exact Below.refl _ _ | assumption | refine Below.drewN _ ?_ | refine Below.drew ?_ | refine Below_alloc ?_ _ | refine Below.alloc ?_ (by first | (simp; done) | (simp; omega) | omega) _ | refine Below.setCell ?_ (by first | (simp; done) | (simp; omega) | omega) _ | refine Below_call ?_ (by assumption) | refine Below.trans ?_ (by assumption)))))
  refine (HX.out _).mono ?_
  rintro _ w2 ⟨rfl, hb2⟩
  obtain ⟨nc, c0, c1⟩ := HP.out.below (w' := w2.alloc (.cells #[.int .i64 pn, .int .i64 pd] 48)) (by (repeat (with_reducible first | exact Below.refl _ _ | assumption | refine Below.drewN _ ?_ | refine Below.drew ?_ | refine Below_alloc ?_ _ | refine Below.alloc ?_ (by first | (simp; done) | (simp; omega) | omega) _ | refine Below.setCell ?_ (by first | (simp; done) | (simp; omega) | omega) _ | refine Below_call ?_ (by assumption) | refine Below.trans ?_ (by assumption))))
  have HPB : Hid (Pair2 (w2.alloc (.cells #[.int .i64 pn, .int .i64 pd] 48)) w2.heap.size (.int .i64 pn) (.int .i64 pd)) := hid ⟨by simp, by simp, by simp⟩
  go_wp2_with fail
  refine (HT.out _).mono ?_
  rintro _ w3 ⟨rfl, hb3⟩
  obtain ⟨nx, x0, x1, x2, x3⟩ := HQ.out.below (w' := w3.alloc (.cells #[.int .i64 0, .int .i64 0] 48)) (by (repeat (with_reducible first | exact Below.refl _ _ | assumption | refine Below.drewN _ ?_ | refine Below.drew ?_ | refine Below_alloc ?_ _ | refine Below.alloc ?_ (by first | (simp; done) | (simp; omega) | omega) _ | refine Below.setCell ?_ (by first | (simp; done) | (simp; omega) | omega) _ | refine Below_call ?_ (by assumption) | refine Below.trans ?_ (by assumption))))
  have HQB : Hid (Pair2 (w3.alloc (.cells #[.int .i64 0, .int .i64 0] 48)) w3.heap.size (.int .i64 0) (.int .i64 0)) := hid ⟨by simp, by simp, by simp⟩
  go_wp2_with fail
  refine (RE.out _).mono ?_
  rintro _ w4 ⟨rfl, hb4⟩
  obtain ⟨hB4, hB4a, hB4b, hB4c⟩ : Below w.heap.size w w4 ∧ Below (w2.alloc (.cells #[.int .i64 pn, .int .i64 pd] 48)).heap.size (w2.alloc (.cells #[.int .i64 pn, .int .i64 pd] 48)) w4 ∧ Below (w3.alloc (.cells #[.int .i64 0, .int .i64 0] 48)).heap.size (w3.alloc (.cells #[.int .i64 0, .int .i64 0] 48)) w4 ∧ Below ((w.alloc (.cells #[.int .i64 xa, .int .i64 xs, .int .i64 xi, .int .i64 xc] 46)).alloc (.cells #[.int .i64 n, .int .i64 d] 48)).heap.size ((w.alloc (.cells #[.int .i64 xa, .int .i64 xs, .int .i64 xi, .int .i64 xc] 46)).alloc (.cells #[.int .i64 n, .int .i64 d] 48)) w4 := ⟨by (repeat (with_reducible first | exact Below.refl _ _ | assumption | refine Below.drewN _ ?_ | refine Below.drew ?_ | refine Below_alloc ?_ _ | refine Below.alloc ?_ (by first | (simp; done) | (simp; omega) | omega) _ | refine Below.setCell ?_ (by first | (simp; done) | (simp; omega) | omega) _ | refine Below_call ?_ (by assumption) | refine Below.trans ?_ (by assumption))), by (repeat (with_reducible first | exact Below.refl _ _ | assumption | refine Below.drewN _ ?_ | refine Below.drew ?_ | refine Below_alloc ?_ _ | refine Below.alloc ?_ (by first | (simp; done) | (simp; omega) | omega) _ | refine Below.setCell ?_ (by first | (simp; done) | (simp; omega) | omega) _ | refine Below_call ?_ (by assumption) | refine Below.trans ?_ (by assumption))), by (repeat (with_reducible first | exact Below.refl _ _ | assumption | refine Below.drewN _ ?_ | refine Below.drew ?_ | refine Below_alloc ?_ _ | refine Below.alloc ?_ (by first | (simp; done) | (simp; omega) | omega) _ | refine Below.setCell ?_ (by first | (simp; done) | (simp; omega) | omega) _ | refine Below_call ?_ (by assumption) | refine Below.trans ?_ (by assumption))), by (repeat (with_reducible first | exact Below.refl _ _ | assumption | refine Below.drewN _ ?_ | refine Below.drew ?_ | refine Below_alloc ?_ _ | refine Below.alloc ?_ (by first | (simp; done) | (simp; omega) | omega) _ | refine Below.setCell ?_ (by first | (simp; done) | (simp; omega) | omega) _ | refine Below_call ?_ (by assumption) | refine Below.trans ?_ (by assumption)))⟩
  obtain ⟨nx4, y0, y1, y2, y3⟩ := HQ.out.below hB4c
  have HP4 := hid (HP.out.below hB4c)
  obtain ⟨np4, z0, z1⟩ := HPB.out.below hB4a
  have HQ4 := hid (HQB.out.below hB4b)
  clear hb1 hb2 hb3 hb4 hB4a hB4b hB4c HQ HP HPB HQB
  go_wp2_with fail
  refine wp_mixC (fun wc => Below (w4.heap.size) w4 wc) 26 [.q [0, 1, 2, 3, 4, 5, 6, 7, 8, 9, 10, 11, 12, 13, 14, 15, 16, 17, 18, 19, 20], .f [21], .q [22, 23, 24, 25]] [] (by kernel_rfl) (by kernel_rfl) ((Below.refl _ _).drew) ?_
  intro Q' hQ'
  (rw [wpMixC]; simp only [pick, List.drop_succ_cons, List.drop_zero, List.head?_cons, Option.toList_some, List.cons_append, List.nil_append])
  (repeat (first | go_big_quiet_skip | (go_big_quiet_want; refine quiet_simple rfl ?_; go_big_quiet_op; go_big_quiet_on) | (go_big_quiet_want; refine quiet_agg4B (ty := 46) rfl rfl (by kernel_rfl) (by assumption) (by assumption) (by assumption) (by assumption) (by first | omega | (simp; omega)) ?_; simp only [Act.put, List.setIfInBounds_toArray, List.set_cons_succ, List.set_cons_zero]; go_big_quiet_on) | (go_big_quiet_want; refine quiet_agg2B (ty := 48) rfl rfl (by kernel_rfl) (by assumption) (by assumption) (by first | omega | (simp; omega)) ?_; simp only [Act.put, List.setIfInBounds_toArray, List.set_cons_succ, List.set_cons_zero]; go_big_quiet_on)))
  (try refine wpQuiet_nil ?_)
  (rw [wpMixC]; simp only [pick, List.drop_succ_cons, List.drop_zero, List.head?_cons, Option.toList_some, List.cons_append, List.nil_append])
  (rw [wpSteps]; go_wp2_with ((go_at_call 27; refine (RC.out _).mono ?_; rintro _ w5 ⟨rfl, hb5⟩)); rw [contF]; refine ⟨?_, ?_⟩; (next => (repeat (with_reducible first | exact Below.refl _ _ | assumption | refine Below.drewN _ ?_ | refine Below.drew ?_ | refine Below_alloc ?_ _ | refine Below.alloc ?_ (by first | (simp; done) | (simp; omega) | omega) _ | refine Below.setCell ?_ (by first | (simp; done) | (simp; omega) | omega) _ | refine Below_call ?_ (by assumption) | refine Below.trans ?_ (by assumption)))))
  (rw [wpSteps])
  (rw [wpMixC]; simp only [pick, List.drop_succ_cons, List.drop_zero, List.head?_cons, Option.toList_some, List.cons_append, List.nil_append])
  (repeat (first | go_big_quiet_skip | (go_big_quiet_want; refine quiet_simple rfl ?_; go_big_quiet_op; go_big_quiet_on) | (go_big_quiet_want; refine quiet_agg4B (ty := 46) rfl rfl (by kernel_rfl) (by assumption) (by assumption) (by assumption) (by assumption) (by first | omega | (simp; omega)) ?_; simp only [Act.put, List.setIfInBounds_toArray, List.set_cons_succ, List.set_cons_zero]; go_big_quiet_on) | (go_big_quiet_want; refine quiet_agg2B (ty := 48) rfl rfl (by kernel_rfl) (by assumption) (by assumption) (by first | omega | (simp; omega)) ?_; simp only [Act.put, List.setIfInBounds_toArray, List.set_cons_succ, List.set_cons_zero]; go_big_quiet_on)))
  (try refine wpQuiet_nil ?_)
  (rw [wpMixC])
  (rw [wpMix])
  (refine hQ' _ _ ?_)
  have hB5 : Below w4.heap.size w4 w5 := by (repeat (with_reducible first | exact Below.refl _ _ | assumption | refine Below.drewN _ ?_ | refine Below.drew ?_ | refine Below_alloc ?_ _ | refine Below.alloc ?_ (by first | (simp; done) | (simp; omega) | omega) _ | refine Below.setCell ?_ (by first | (simp; done) | (simp; omega) | omega) _ | refine Below_call ?_ (by assumption) | refine Below.trans ?_ (by assumption)))
  clear hb5
  obtain ⟨nc5, d0, d1⟩ := HP4.out.below hB5
  have HQ5 := hid (HQ4.out.below hB5)
  have HP5 := hid (HP4.out.below hB5)
  have hBW5 : Below w.heap.size w w5 := by (repeat (with_reducible first | exact Below.refl _ _ | assumption | refine Below.drewN _ ?_ | refine Below.drew ?_ | refine Below_alloc ?_ _ | refine Below.alloc ?_ (by first | (simp; done) | (simp; omega) | omega) _ | refine Below.setCell ?_ (by first | (simp; done) | (simp; omega) | omega) _ | refine Below_call ?_ (by assumption) | refine Below.trans ?_ (by assumption)))
  clear hB5 hB4
  go_wp2_with fail
  refine (RT.out _).mono ?_
  rintro _ w6 ⟨rfl, hb6⟩
  obtain ⟨nc6, e0, e1⟩ := HP5.out.below hb6
  obtain ⟨nq6, g0, g1⟩ := HQ5.out.below hb6
  have HQ6 := hid (HQ5.out.below hb6)
  go_wp2_with fail
  refine (RR.out _).mono ?_
  rintro _ w7 ⟨rfl, hb7⟩
  obtain ⟨nq7, f0, f1⟩ := HQ6.out.below hb7
  go_wp2_with fail
  go_ret
  exact ⟨by simp, by (repeat (with_reducible first | exact Below.refl _ _ | assumption | refine Below.drewN _ ?_ | refine Below.drew ?_ | refine Below_alloc ?_ _ | refine Below.alloc ?_ (by first | (simp; done) | (simp; omega) | omega) _ | refine Below.setCell ?_ (by first | (simp; done) | (simp; omega) | omega) _ | refine Below_call ?_ (by assumption) | refine Below.trans ?_ (by assumption)))⟩

set_option maxRecDepth 100000 in
set_option maxHeartbeats 4000000 in
theorem law_Chances_ed (xa xs xi xc n d t pn pd qn qd D : Int) (w : World) (q1 : (D == 0) = false) (q2 : (D != 0) = true)
    (HX : Hid (∀ W, Calls Try.prog 24 #[.agg #[.int .i64 xa, .int .i64 xs, .int .i64 xi, .int .i64 xc]] W fun e w' => e = .returned (.tuple #[.agg #[.int .i64 0, .int .i64 0], .int .i64 2]) ∧ Below W.heap.size W w'))
    (HT : Hid (∀ W, Calls Try.prog 25 #[.agg #[.int .i64 n, .int .i64 d], .int .i64 t] W fun e w' => e = .returned (.tuple #[.agg #[.int .i64 0, .int .i64 0], .int .i64 D]) ∧ Below W.heap.size W w'))
    (RE : Hid (∀ W, Calls Try.prog 26 #[.agg #[.int .i64 xa, .int .i64 xs, .int .i64 xi, .int .i64 xc]] W fun e w' => e = .returned (.int .i64 2) ∧ Below W.heap.size W w'))
    (RT : Hid (∀ W, Calls Try.prog 28 #[.agg #[.int .i64 n, .int .i64 d], .int .i64 t] W fun e w' => e = .returned (.int .i64 D) ∧ Below W.heap.size W w'))
    : Calls Try.prog 4 #[.agg #[.int .i64 xa, .int .i64 xs, .int .i64 xi, .int .i64 xc], .agg #[.int .i64 n, .int .i64 d], .int .i64 t] w fun e w' => e = .returned (.bool true) ∧ Below w.heap.size w w' := by
  have HQ : Hid (Quad ((w.alloc (.cells #[.int .i64 xa, .int .i64 xs, .int .i64 xi, .int .i64 xc] 46)).alloc (.cells #[.int .i64 n, .int .i64 d] 48)) w.heap.size (.int .i64 xa) (.int .i64 xs) (.int .i64 xi) (.int .i64 xc)) := hid ⟨by simp; omega, by simp, by simp, by simp, by simp⟩
  have HP : Hid (Pair2 ((w.alloc (.cells #[.int .i64 xa, .int .i64 xs, .int .i64 xi, .int .i64 xc] 46)).alloc (.cells #[.int .i64 n, .int .i64 d] 48)) (w.heap.size + 1) (.int .i64 n) (.int .i64 d)) := hid ⟨by simp, by simp, by simp⟩
  go_enter Try.func4, Try.ntmps4
  go_wp2_with (go_at_call 11; refine (law_awake _).mono ?_; rintro _ w1 ⟨rfl, hb1⟩; obtain ⟨nx, x0, x1, x2, x3⟩ := HQ.out.below (w' := w1) (by (repeat (with_reducible first | exact Below.refl _ _ | assumption | refine Below.drewN _ ?_ | refine Below.drew ?_ | refine Below_alloc ?_ _ | refine Below.alloc ?_ (by first | (simp; done) | (simp; omega) | omega) _ | refine Below.setCell ?_ (by first | (simp; done) | (simp; omega) | omega) _ | refine Below_call ?_ (by assumption) | refine Below.trans ?_ (by assumption)))))
  refine (HX.out _).mono ?_
  rintro _ w2 ⟨rfl, hb2⟩
  obtain ⟨nc, c0, c1⟩ := HP.out.below (w' := w2.alloc (.cells #[.int .i64 0, .int .i64 0] 48)) (by (repeat (with_reducible first | exact Below.refl _ _ | assumption | refine Below.drewN _ ?_ | refine Below.drew ?_ | refine Below_alloc ?_ _ | refine Below.alloc ?_ (by first | (simp; done) | (simp; omega) | omega) _ | refine Below.setCell ?_ (by first | (simp; done) | (simp; omega) | omega) _ | refine Below_call ?_ (by assumption) | refine Below.trans ?_ (by assumption))))
  have HPB : Hid (Pair2 (w2.alloc (.cells #[.int .i64 0, .int .i64 0] 48)) w2.heap.size (.int .i64 0) (.int .i64 0)) := hid ⟨by simp, by simp, by simp⟩
  go_wp2_with fail
  refine (HT.out _).mono ?_
  rintro _ w3 ⟨rfl, hb3⟩
  obtain ⟨nx, x0, x1, x2, x3⟩ := HQ.out.below (w' := w3.alloc (.cells #[.int .i64 0, .int .i64 0] 48)) (by (repeat (with_reducible first | exact Below.refl _ _ | assumption | refine Below.drewN _ ?_ | refine Below.drew ?_ | refine Below_alloc ?_ _ | refine Below.alloc ?_ (by first | (simp; done) | (simp; omega) | omega) _ | refine Below.setCell ?_ (by first | (simp; done) | (simp; omega) | omega) _ | refine Below_call ?_ (by assumption) | refine Below.trans ?_ (by assumption))))
  have HQB : Hid (Pair2 (w3.alloc (.cells #[.int .i64 0, .int .i64 0] 48)) w3.heap.size (.int .i64 0) (.int .i64 0)) := hid ⟨by simp, by simp, by simp⟩
  go_wp2_with fail
  refine (RE.out _).mono ?_
  rintro _ w4 ⟨rfl, hb4⟩
  obtain ⟨hB4, hB4a, hB4b, hB4c⟩ : Below w.heap.size w w4 ∧ Below (w2.alloc (.cells #[.int .i64 0, .int .i64 0] 48)).heap.size (w2.alloc (.cells #[.int .i64 0, .int .i64 0] 48)) w4 ∧ Below (w3.alloc (.cells #[.int .i64 0, .int .i64 0] 48)).heap.size (w3.alloc (.cells #[.int .i64 0, .int .i64 0] 48)) w4 ∧ Below ((w.alloc (.cells #[.int .i64 xa, .int .i64 xs, .int .i64 xi, .int .i64 xc] 46)).alloc (.cells #[.int .i64 n, .int .i64 d] 48)).heap.size ((w.alloc (.cells #[.int .i64 xa, .int .i64 xs, .int .i64 xi, .int .i64 xc] 46)).alloc (.cells #[.int .i64 n, .int .i64 d] 48)) w4 := ⟨by (repeat (with_reducible first | exact Below.refl _ _ | assumption | refine Below.drewN _ ?_ | refine Below.drew ?_ | refine Below_alloc ?_ _ | refine Below.alloc ?_ (by first | (simp; done) | (simp; omega) | omega) _ | refine Below.setCell ?_ (by first | (simp; done) | (simp; omega) | omega) _ | refine Below_call ?_ (by assumption) | refine Below.trans ?_ (by assumption))), by (repeat (with_reducible first | exact Below.refl _ _ | assumption | refine Below.drewN _ ?_ | refine Below.drew ?_ | refine Below_alloc ?_ _ | refine Below.alloc ?_ (by first | (simp; done) | (simp; omega) | omega) _ | refine Below.setCell ?_ (by first | (simp; done) | (simp; omega) | omega) _ | refine Below_call ?_ (by assumption) | refine Below.trans ?_ (by assumption))), by (repeat (with_reducible first | exact Below.refl _ _ | assumption | refine Below.drewN _ ?_ | refine Below.drew ?_ | refine Below_alloc ?_ _ | refine Below.alloc ?_ (by first | (simp; done) | (simp; omega) | omega) _ | refine Below.setCell ?_ (by first | (simp; done) | (simp; omega) | omega) _ | refine Below_call ?_ (by assumption) | refine Below.trans ?_ (by assumption))), by (repeat (with_reducible first | exact Below.refl _ _ | assumption | refine Below.drewN _ ?_ | refine Below.drew ?_ | refine Below_alloc ?_ _ | refine Below.alloc ?_ (by first | (simp; done) | (simp; omega) | omega) _ | refine Below.setCell ?_ (by first | (simp; done) | (simp; omega) | omega) _ | refine Below_call ?_ (by assumption) | refine Below.trans ?_ (by assumption)))⟩
  obtain ⟨nx4, y0, y1, y2, y3⟩ := HQ.out.below hB4c
  have HP4 := hid (HP.out.below hB4c)
  obtain ⟨np4, z0, z1⟩ := HPB.out.below hB4a
  have HQ4 := hid (HQB.out.below hB4b)
  clear hb1 hb2 hb3 hb4 hB4a hB4b hB4c HQ HP HPB HQB
  go_wp2_with fail
  refine wp_mixC (fun wc => Below (w4.heap.size) w4 wc) 26 [.q [0, 1, 2, 3, 4, 5, 6, 7, 8, 9, 10, 11, 12, 13, 14, 15, 16, 17, 18, 19, 20], .f [21], .q [22, 23, 24, 25]] [] (by kernel_rfl) (by kernel_rfl) ((Below.refl _ _).drew) ?_
  intro Q' hQ'
  (rw [wpMixC]; simp only [pick, List.drop_succ_cons, List.drop_zero, List.head?_cons, Option.toList_some, List.cons_append, List.nil_append])
  (repeat (first | go_big_quiet_skip | (go_big_quiet_want; refine quiet_simple rfl ?_; go_big_quiet_op; go_big_quiet_on) | (go_big_quiet_want; refine quiet_agg4B (ty := 46) rfl rfl (by kernel_rfl) (by assumption) (by assumption) (by assumption) (by assumption) (by first | omega | (simp; omega)) ?_; simp only [Act.put, List.setIfInBounds_toArray, List.set_cons_succ, List.set_cons_zero]; go_big_quiet_on) | (go_big_quiet_want; refine quiet_agg2B (ty := 48) rfl rfl (by kernel_rfl) (by assumption) (by assumption) (by first | omega | (simp; omega)) ?_; simp only [Act.put, List.setIfInBounds_toArray, List.set_cons_succ, List.set_cons_zero]; go_big_quiet_on)))
  (try refine wpQuiet_nil ?_)
  (rw [wpMixC]; simp only [pick, List.drop_succ_cons, List.drop_zero, List.head?_cons, Option.toList_some, List.cons_append, List.nil_append])
  (rw [wpSteps]; go_wp2_with (fail); rw [contF]; refine ⟨?_, ?_⟩; (next => (repeat (with_reducible first | exact Below.refl _ _ | assumption | refine Below.drewN _ ?_ | refine Below.drew ?_ | refine Below_alloc ?_ _ | refine Below.alloc ?_ (by first | (simp; done) | (simp; omega) | omega) _ | refine Below.setCell ?_ (by first | (simp; done) | (simp; omega) | omega) _ | refine Below_call ?_ (by assumption) | refine Below.trans ?_ (by assumption)))))
  (rw [wpSteps])
  (rw [wpMixC]; simp only [pick, List.drop_succ_cons, List.drop_zero, List.head?_cons, Option.toList_some, List.cons_append, List.nil_append])
  (repeat (first | go_big_quiet_skip | (go_big_quiet_want; refine quiet_simple rfl ?_; go_big_quiet_op; go_big_quiet_on) | (go_big_quiet_want; refine quiet_agg4B (ty := 46) rfl rfl (by kernel_rfl) (by assumption) (by assumption) (by assumption) (by assumption) (by first | omega | (simp; omega)) ?_; simp only [Act.put, List.setIfInBounds_toArray, List.set_cons_succ, List.set_cons_zero]; go_big_quiet_on) | (go_big_quiet_want; refine quiet_agg2B (ty := 48) rfl rfl (by kernel_rfl) (by assumption) (by assumption) (by first | omega | (simp; omega)) ?_; simp only [Act.put, List.setIfInBounds_toArray, List.set_cons_succ, List.set_cons_zero]; go_big_quiet_on)))
  (try refine wpQuiet_nil ?_)
  (rw [wpMixC])
  (rw [wpMix])
  (refine hQ' _ _ ?_)
  obtain ⟨w5, hw5⟩ : ∃ w5, w5 = w4.drew := ⟨_, rfl⟩
  rw [← hw5]
  have hB5 : Below w4.heap.size w4 w5 := by rw [hw5]; (repeat (with_reducible first | exact Below.refl _ _ | assumption | refine Below.drewN _ ?_ | refine Below.drew ?_ | refine Below_alloc ?_ _ | refine Below.alloc ?_ (by first | (simp; done) | (simp; omega) | omega) _ | refine Below.setCell ?_ (by first | (simp; done) | (simp; omega) | omega) _ | refine Below_call ?_ (by assumption) | refine Below.trans ?_ (by assumption)))
  clear hw5
  obtain ⟨nc5, d0, d1⟩ := HP4.out.below hB5
  have HQ5 := hid (HQ4.out.below hB5)
  have HP5 := hid (HP4.out.below hB5)
  have hBW5 : Below w.heap.size w w5 := by (repeat (with_reducible first | exact Below.refl _ _ | assumption | refine Below.drewN _ ?_ | refine Below.drew ?_ | refine Below_alloc ?_ _ | refine Below.alloc ?_ (by first | (simp; done) | (simp; omega) | omega) _ | refine Below.setCell ?_ (by first | (simp; done) | (simp; omega) | omega) _ | refine Below_call ?_ (by assumption) | refine Below.trans ?_ (by assumption)))
  clear hB5 hB4
  go_wp2_with fail
  refine (RT.out _).mono ?_
  rintro _ w6 ⟨rfl, hb6⟩
  obtain ⟨nc6, e0, e1⟩ := HP5.out.below hb6
  obtain ⟨nq6, g0, g1⟩ := HQ5.out.below hb6
  go_wp2_with fail
  go_ret
  exact ⟨by simp, by (repeat (with_reducible first | exact Below.refl _ _ | assumption | refine Below.drewN _ ?_ | refine Below.drew ?_ | refine Below_alloc ?_ _ | refine Below.alloc ?_ (by first | (simp; done) | (simp; omega) | omega) _ | refine Below.setCell ?_ (by first | (simp; done) | (simp; omega) | omega) _ | refine Below_call ?_ (by assumption) | refine Below.trans ?_ (by assumption)))⟩

set_option maxRecDepth 100000 in
set_option maxHeartbeats 4000000 in
theorem law_Chances_eo (xa xs xi xc n d t pn pd qn qd D : Int) (w : World) (q1 : (D == 0) = false) (q2 : (D != 0) = true)
    (HX : Hid (∀ W, Calls Try.prog 24 #[.agg #[.int .i64 xa, .int .i64 xs, .int .i64 xi, .int .i64 xc]] W fun e w' => e = .returned (.tuple #[.agg #[.int .i64 0, .int .i64 0], .int .i64 2]) ∧ Below W.heap.size W w'))
    (HT : Hid (∀ W, Calls Try.prog 25 #[.agg #[.int .i64 n, .int .i64 d], .int .i64 t] W fun e w' => e = .returned (.tuple #[.agg #[.int .i64 qn, .int .i64 qd], .int .i64 0]) ∧ Below W.heap.size W w'))
    (RE : Hid (∀ W, Calls Try.prog 26 #[.agg #[.int .i64 xa, .int .i64 xs, .int .i64 xi, .int .i64 xc]] W fun e w' => e = .returned (.int .i64 2) ∧ Below W.heap.size W w'))
    (RT : Hid (∀ W, Calls Try.prog 28 #[.agg #[.int .i64 n, .int .i64 d], .int .i64 t] W fun e w' => e = .returned (.int .i64 0) ∧ Below W.heap.size W w'))
    (RR : Hid (∀ W, Calls Try.prog 29 #[.agg #[.int .i64 n, .int .i64 d], .int .i64 t] W fun e w' => e = .returned (.tuple #[.agg #[.int .i64 qn, .int .i64 qd], .bool true]) ∧ Below W.heap.size W w'))
    : Calls Try.prog 4 #[.agg #[.int .i64 xa, .int .i64 xs, .int .i64 xi, .int .i64 xc], .agg #[.int .i64 n, .int .i64 d], .int .i64 t] w fun e w' => e = .returned (.bool true) ∧ Below w.heap.size w w' := by
  have HQ : Hid (Quad ((w.alloc (.cells #[.int .i64 xa, .int .i64 xs, .int .i64 xi, .int .i64 xc] 46)).alloc (.cells #[.int .i64 n, .int .i64 d] 48)) w.heap.size (.int .i64 xa) (.int .i64 xs) (.int .i64 xi) (.int .i64 xc)) := hid ⟨by simp; omega, by simp, by simp, by simp, by simp⟩
  have HP : Hid (Pair2 ((w.alloc (.cells #[.int .i64 xa, .int .i64 xs, .int .i64 xi, .int .i64 xc] 46)).alloc (.cells #[.int .i64 n, .int .i64 d] 48)) (w.heap.size + 1) (.int .i64 n) (.int .i64 d)) := hid ⟨by simp, by simp, by simp⟩
  go_enter Try.func4, Try.ntmps4
  go_wp2_with (go_at_call 11; refine (law_awake _).mono ?_; rintro _ w1 ⟨rfl, hb1⟩; obtain ⟨nx, x0, x1, x2, x3⟩ := HQ.out.below (w' := w1) (by (repeat (with_reducible first | exact Below.refl _ _ | assumption | refine Below.drewN _ ?_ | refine Below.drew ?_ | refine Below_alloc ?_ _ | refine Below.alloc ?_ (by first | (simp; done) | (simp; omega) | omega) _ | refine Below.setCell ?_ (by first | (simp; done) | (simp; omega) | omega) _ | refine Below_call ?_ (by assumption) | refine Below.trans ?_ (by assumption)))))
  refine (HX.out _).mono ?_
  rintro _ w2 ⟨rfl, hb2⟩
  obtain ⟨nc, c0, c1⟩ := HP.out.below (w' := w2.alloc (.cells #[.int .i64 0, .int .i64 0] 48)) (by (repeat (with_reducible first | exact Below.refl _ _ | assumption | refine Below.drewN _ ?_ | refine Below.drew ?_ | refine Below_alloc ?_ _ | refine Below.alloc ?_ (by first | (simp; done) | (simp; omega) | omega) _ | refine Below.setCell ?_ (by first | (simp; done) | (simp; omega) | omega) _ | refine Below_call ?_ (by assumption) | refine Below.trans ?_ (by assumption))))
  have HPB : Hid (Pair2 (w2.alloc (.cells #[.int .i64 0, .int .i64 0] 48)) w2.heap.size (.int .i64 0) (.int .i64 0)) := hid ⟨by simp, by simp, by simp⟩
  go_wp2_with fail
  refine (HT.out _).mono ?_
  rintro _ w3 ⟨rfl, hb3⟩
  obtain ⟨nx, x0, x1, x2, x3⟩ := HQ.out.below (w' := w3.alloc (.cells #[.int .i64 qn, .int .i64 qd] 48)) (by (repeat (with_reducible first | exact Below.refl _ _ | assumption | refine Below.drewN _ ?_ | refine Below.drew ?_ | refine Below_alloc ?_ _ | refine Below.alloc ?_ (by first | (simp; done) | (simp; omega) | omega) _ | refine Below.setCell ?_ (by first | (simp; done) | (simp; omega) | omega) _ | refine Below_call ?_ (by assumption) | refine Below.trans ?_ (by assumption))))
  have HQB : Hid (Pair2 (w3.alloc (.cells #[.int .i64 qn, .int .i64 qd] 48)) w3.heap.size (.int .i64 qn) (.int .i64 qd)) := hid ⟨by simp, by simp, by simp⟩
  go_wp2_with fail
  refine (RE.out _).mono ?_
  rintro _ w4 ⟨rfl, hb4⟩
  obtain ⟨hB4, hB4a, hB4b, hB4c⟩ : Below w.heap.size w w4 ∧ Below (w2.alloc (.cells #[.int .i64 0, .int .i64 0] 48)).heap.size (w2.alloc (.cells #[.int .i64 0, .int .i64 0] 48)) w4 ∧ Below (w3.alloc (.cells #[.int .i64 qn, .int .i64 qd] 48)).heap.size (w3.alloc (.cells #[.int .i64 qn, .int .i64 qd] 48)) w4 ∧ Below ((w.alloc (.cells #[.int .i64 xa, .int .i64 xs, .int .i64 xi, .int .i64 xc] 46)).alloc (.cells #[.int .i64 n, .int .i64 d] 48)).heap.size ((w.alloc (.cells #[.int .i64 xa, .int .i64 xs, .int .i64 xi, .int .i64 xc] 46)).alloc (.cells #[.int .i64 n, .int .i64 d] 48)) w4 := ⟨by (repeat (with_reducible first | exact Below.refl _ _ | assumption | refine Below.drewN _ ?_ | refine Below.drew ?_ | refine Below_alloc ?_ _ | refine Below.alloc ?_ (by first | (simp; done) | (simp; omega) | omega) _ | refine Below.setCell ?_ (by first | (simp; done) | (simp; omega) | omega) _ | refine Below_call ?_ (by assumption) | refine Below.trans ?_ (by assumption))), by (repeat (with_reducible first | exact Below.refl _ _ | assumption | refine Below.drewN _ ?_ | refine Below.drew ?_ | refine Below_alloc ?_ _ | refine Below.alloc ?_ (by first | (simp; done) | (simp; omega) | omega) _ | refine Below.setCell ?_ (by first | (simp; done) | (simp; omega) | omega) _ | refine Below_call ?_ (by assumption) | refine Below.trans ?_ (by assumption))), by (repeat (with_reducible first | exact Below.refl _ _ | assumption | refine Below.drewN _ ?_ | refine Below.drew ?_ | refine Below_alloc ?_ _ | refine Below.alloc ?_ (by first | (simp; done) | (simp; omega) | omega) _ | refine Below.setCell ?_ (by first | (simp; done) | (simp; omega) | omega) _ | refine Below_call ?_ (by assumption) | refine Below.trans ?_ (by assumption))), by (repeat (with_reducible first | exact Below.refl _ _ | assumption | refine Below.drewN _ ?_ | refine Below.drew ?_ | refine Below_alloc ?_ _ | refine Below.alloc ?_ (by first | (simp; done) | (simp; omega) | omega) _ | refine Below.setCell ?_ (by first | (simp; done) | (simp; omega) | omega) _ | refine Below_call ?_ (by assumption) | refine Below.trans ?_ (by assumption)))⟩
  obtain ⟨nx4, y0, y1, y2, y3⟩ := HQ.out.below hB4c
  have HP4 := hid (HP.out.below hB4c)
  obtain ⟨np4, z0, z1⟩ := HPB.out.below hB4a
  have HQ4 := hid (HQB.out.below hB4b)
  clear hb1 hb2 hb3 hb4 hB4a hB4b hB4c HQ HP HPB HQB
  go_wp2_with fail
  refine wp_mixC (fun wc => Below (w4.heap.size) w4 wc) 26 [.q [0, 1, 2, 3, 4, 5, 6, 7, 8, 9, 10, 11, 12, 13, 14, 15, 16, 17, 18, 19, 20], .f [21], .q [22, 23, 24, 25]] [] (by kernel_rfl) (by kernel_rfl) ((Below.refl _ _).drew) ?_
  intro Q' hQ'
  (rw [wpMixC]; simp only [pick, List.drop_succ_cons, List.drop_zero, List.head?_cons, Option.toList_some, List.cons_append, List.nil_append])
  (repeat (first | go_big_quiet_skip | (go_big_quiet_want; refine quiet_simple rfl ?_; go_big_quiet_op; go_big_quiet_on) | (go_big_quiet_want; refine quiet_agg4B (ty := 46) rfl rfl (by kernel_rfl) (by assumption) (by assumption) (by assumption) (by assumption) (by first | omega | (simp; omega)) ?_; simp only [Act.put, List.setIfInBounds_toArray, List.set_cons_succ, List.set_cons_zero]; go_big_quiet_on) | (go_big_quiet_want; refine quiet_agg2B (ty := 48) rfl rfl (by kernel_rfl) (by assumption) (by assumption) (by first | omega | (simp; omega)) ?_; simp only [Act.put, List.setIfInBounds_toArray, List.set_cons_succ, List.set_cons_zero]; go_big_quiet_on)))
  (try refine wpQuiet_nil ?_)
  (rw [wpMixC]; simp only [pick, List.drop_succ_cons, List.drop_zero, List.head?_cons, Option.toList_some, List.cons_append, List.nil_append])
  (rw [wpSteps]; go_wp2_with (fail); rw [contF]; refine ⟨?_, ?_⟩; (next => (repeat (with_reducible first | exact Below.refl _ _ | assumption | refine Below.drewN _ ?_ | refine Below.drew ?_ | refine Below_alloc ?_ _ | refine Below.alloc ?_ (by first | (simp; done) | (simp; omega) | omega) _ | refine Below.setCell ?_ (by first | (simp; done) | (simp; omega) | omega) _ | refine Below_call ?_ (by assumption) | refine Below.trans ?_ (by assumption)))))
  (rw [wpSteps])
  (rw [wpMixC]; simp only [pick, List.drop_succ_cons, List.drop_zero, List.head?_cons, Option.toList_some, List.cons_append, List.nil_append])
  (repeat (first | go_big_quiet_skip | (go_big_quiet_want; refine quiet_simple rfl ?_; go_big_quiet_op; go_big_quiet_on) | (go_big_quiet_want; refine quiet_agg4B (ty := 46) rfl rfl (by kernel_rfl) (by assumption) (by assumption) (by assumption) (by assumption) (by first | omega | (simp; omega)) ?_; simp only [Act.put, List.setIfInBounds_toArray, List.set_cons_succ, List.set_cons_zero]; go_big_quiet_on) | (go_big_quiet_want; refine quiet_agg2B (ty := 48) rfl rfl (by kernel_rfl) (by assumption) (by assumption) (by first | omega | (simp; omega)) ?_; simp only [Act.put, List.setIfInBounds_toArray, List.set_cons_succ, List.set_cons_zero]; go_big_quiet_on)))
  (try refine wpQuiet_nil ?_)
  (rw [wpMixC])
  (rw [wpMix])
  (refine hQ' _ _ ?_)
  obtain ⟨w5, hw5⟩ : ∃ w5, w5 = w4.drew := ⟨_, rfl⟩
  rw [← hw5]
  have hB5 : Below w4.heap.size w4 w5 := by rw [hw5]; (repeat (with_reducible first | exact Below.refl _ _ | assumption | refine Below.drewN _ ?_ | refine Below.drew ?_ | refine Below_alloc ?_ _ | refine Below.alloc ?_ (by first | (simp; done) | (simp; omega) | omega) _ | refine Below.setCell ?_ (by first | (simp; done) | (simp; omega) | omega) _ | refine Below_call ?_ (by assumption) | refine Below.trans ?_ (by assumption)))
  clear hw5
  obtain ⟨nc5, d0, d1⟩ := HP4.out.below hB5
  have HQ5 := hid (HQ4.out.below hB5)
  have HP5 := hid (HP4.out.below hB5)
  have hBW5 : Below w.heap.size w w5 := by (repeat (with_reducible first | exact Below.refl _ _ | assumption | refine Below.drewN _ ?_ | refine Below.drew ?_ | refine Below_alloc ?_ _ | refine Below.alloc ?_ (by first | (simp; done) | (simp; omega) | omega) _ | refine Below.setCell ?_ (by first | (simp; done) | (simp; omega) | omega) _ | refine Below_call ?_ (by assumption) | refine Below.trans ?_ (by assumption)))
  clear hB5 hB4
  go_wp2_with fail
  refine (RT.out _).mono ?_
  rintro _ w6 ⟨rfl, hb6⟩
  obtain ⟨nc6, e0, e1⟩ := HP5.out.below hb6
  obtain ⟨nq6, g0, g1⟩ := HQ5.out.below hb6
  have HQ6 := hid (HQ5.out.below hb6)
  go_wp2_with fail
  refine (RR.out _).mono ?_
  rintro _ w7 ⟨rfl, hb7⟩
  obtain ⟨nq7, f0, f1⟩ := HQ6.out.below hb7
  go_wp2_with fail
  go_ret
  exact ⟨by simp, by (repeat (with_reducible first | exact Below.refl _ _ | assumption | refine Below.drewN _ ?_ | refine Below.drew ?_ | refine Below_alloc ?_ _ | refine Below.alloc ?_ (by first | (simp; done) | (simp; omega) | omega) _ | refine Below.setCell ?_ (by first | (simp; done) | (simp; omega) | omega) _ | refine Below_call ?_ (by assumption) | refine Below.trans ?_ (by assumption)))⟩

set_option maxRecDepth 100000 in
set_option maxHeartbeats 4000000 in
theorem law_Chances_el (xa xs xi xc n d t pn pd qn qd D : Int) (w : World) (q1 : (D == 0) = false) (q2 : (D != 0) = true)
    (HX : Hid (∀ W, Calls Try.prog 24 #[.agg #[.int .i64 xa, .int .i64 xs, .int .i64 xi, .int .i64 xc]] W fun e w' => e = .returned (.tuple #[.agg #[.int .i64 0, .int .i64 0], .int .i64 2]) ∧ Below W.heap.size W w'))
    (HT : Hid (∀ W, Calls Try.prog 25 #[.agg #[.int .i64 n, .int .i64 d], .int .i64 t] W fun e w' => e = .returned (.tuple #[.agg #[.int .i64 0, .int .i64 0], .int .i64 8]) ∧ Below W.heap.size W w'))
    (RE : Hid (∀ W, Calls Try.prog 26 #[.agg #[.int .i64 xa, .int .i64 xs, .int .i64 xi, .int .i64 xc]] W fun e w' => e = .returned (.int .i64 2) ∧ Below W.heap.size W w'))
    (RT : Hid (∀ W, Calls Try.prog 28 #[.agg #[.int .i64 n, .int .i64 d], .int .i64 t] W fun e w' => e = .returned (.int .i64 0) ∧ Below W.heap.size W w'))
    (RR : Hid (∀ W, Calls Try.prog 29 #[.agg #[.int .i64 n, .int .i64 d], .int .i64 t] W fun e w' => e = .returned (.tuple #[.agg #[.int .i64 0, .int .i64 0], .bool false]) ∧ Below W.heap.size W w'))
    : Calls Try.prog 4 #[.agg #[.int .i64 xa, .int .i64 xs, .int .i64 xi, .int .i64 xc], .agg #[.int .i64 n, .int .i64 d], .int .i64 t] w fun e w' => e = .returned (.bool true) ∧ Below w.heap.size w w' := by
  have HQ : Hid (Quad ((w.alloc (.cells #[.int .i64 xa, .int .i64 xs, .int .i64 xi, .int .i64 xc] 46)).alloc (.cells #[.int .i64 n, .int .i64 d] 48)) w.heap.size (.int .i64 xa) (.int .i64 xs) (.int .i64 xi) (.int .i64 xc)) := hid ⟨by simp; omega, by simp, by simp, by simp, by simp⟩
  have HP : Hid (Pair2 ((w.alloc (.cells #[.int .i64 xa, .int .i64 xs, .int .i64 xi, .int .i64 xc] 46)).alloc (.cells #[.int .i64 n, .int .i64 d] 48)) (w.heap.size + 1) (.int .i64 n) (.int .i64 d)) := hid ⟨by simp, by simp, by simp⟩
  go_enter Try.func4, Try.ntmps4
  go_wp2_with (go_at_call 11; refine (law_awake _).mono ?_; rintro _ w1 ⟨rfl, hb1⟩; obtain ⟨nx, x0, x1, x2, x3⟩ := HQ.out.below (w' := w1) (by (repeat (with_reducible first | exact Below.refl _ _ | assumption | refine Below.drewN _ ?_ | refine Below.drew ?_ | refine Below_alloc ?_ _ | refine Below.alloc ?_ (by first | (simp; done) | (simp; omega) | omega) _ | refine Below.setCell ?_ (by first | (simp; done) | (simp; omega) | omega) _ | refine Below_call ?_ (by assumption) | refine Below.trans ?_ (by assumption)))))
  refine (HX.out _).mono ?_
  rintro _ w2 ⟨rfl, hb2⟩
  obtain ⟨nc, c0, c1⟩ := HP.out.below (w' := w2.alloc (.cells #[.int .i64 0, .int .i64 0] 48)) (by (repeat (with_reducible first | exact Below.refl _ _ | assumption | refine Below.drewN _ ?_ | refine Below.drew ?_ | refine Below_alloc ?_ _ | refine Below.alloc ?_ (by first | (simp; done) | (simp; omega) | omega) _ | refine Below.setCell ?_ (by first | (simp; done) | (simp; omega) | omega) _ | refine Below_call ?_ (by assumption) | refine Below.trans ?_ (by assumption))))
  have HPB : Hid (Pair2 (w2.alloc (.cells #[.int .i64 0, .int .i64 0] 48)) w2.heap.size (.int .i64 0) (.int .i64 0)) := hid ⟨by simp, by simp, by simp⟩
  go_wp2_with fail
  refine (HT.out _).mono ?_
  rintro _ w3 ⟨rfl, hb3⟩
  obtain ⟨nx, x0, x1, x2, x3⟩ := HQ.out.below (w' := w3.alloc (.cells #[.int .i64 0, .int .i64 0] 48)) (by (repeat (with_reducible first | exact Below.refl _ _ | assumption | refine Below.drewN _ ?_ | refine Below.drew ?_ | refine Below_alloc ?_ _ | refine Below.alloc ?_ (by first | (simp; done) | (simp; omega) | omega) _ | refine Below.setCell ?_ (by first | (simp; done) | (simp; omega) | omega) _ | refine Below_call ?_ (by assumption) | refine Below.trans ?_ (by assumption))))
  have HQB : Hid (Pair2 (w3.alloc (.cells #[.int .i64 0, .int .i64 0] 48)) w3.heap.size (.int .i64 0) (.int .i64 0)) := hid ⟨by simp, by simp, by simp⟩
  go_wp2_with fail
  refine (RE.out _).mono ?_
  rintro _ w4 ⟨rfl, hb4⟩
  obtain ⟨hB4, hB4a, hB4b, hB4c⟩ : Below w.heap.size w w4 ∧ Below (w2.alloc (.cells #[.int .i64 0, .int .i64 0] 48)).heap.size (w2.alloc (.cells #[.int .i64 0, .int .i64 0] 48)) w4 ∧ Below (w3.alloc (.cells #[.int .i64 0, .int .i64 0] 48)).heap.size (w3.alloc (.cells #[.int .i64 0, .int .i64 0] 48)) w4 ∧ Below ((w.alloc (.cells #[.int .i64 xa, .int .i64 xs, .int .i64 xi, .int .i64 xc] 46)).alloc (.cells #[.int .i64 n, .int .i64 d] 48)).heap.size ((w.alloc (.cells #[.int .i64 xa, .int .i64 xs, .int .i64 xi, .int .i64 xc] 46)).alloc (.cells #[.int .i64 n, .int .i64 d] 48)) w4 := ⟨by (repeat (with_reducible first | exact Below.refl _ _ | assumption | refine Below.drewN _ ?_ | refine Below.drew ?_ | refine Below_alloc ?_ _ | refine Below.alloc ?_ (by first | (simp; done) | (simp; omega) | omega) _ | refine Below.setCell ?_ (by first | (simp; done) | (simp; omega) | omega) _ | refine Below_call ?_ (by assumption) | refine Below.trans ?_ (by assumption))), by (repeat (with_reducible first | exact Below.refl _ _ | assumption | refine Below.drewN _ ?_ | refine Below.drew ?_ | refine Below_alloc ?_ _ | refine Below.alloc ?_ (by first | (simp; done) | (simp; omega) | omega) _ | refine Below.setCell ?_ (by first | (simp; done) | (simp; omega) | omega) _ | refine Below_call ?_ (by assumption) | refine Below.trans ?_ (by assumption))), by (repeat (with_reducible first | exact Below.refl _ _ | assumption | refine Below.drewN _ ?_ | refine Below.drew ?_ | refine Below_alloc ?_ _ | refine Below.alloc ?_ (by first | (simp; done) | (simp; omega) | omega) _ | refine Below.setCell ?_ (by first | (simp; done) | (simp; omega) | omega) _ | refine Below_call ?_ (by assumption) | refine Below.trans ?_ (by assumption))), by (repeat (with_reducible first | exact Below.refl _ _ | assumption | refine Below.drewN _ ?_ | refine Below.drew ?_ | refine Below_alloc ?_ _ | refine Below.alloc ?_ (by first | (simp; done) | (simp; omega) | omega) _ | refine Below.setCell ?_ (by first | (simp; done) | (simp; omega) | omega) _ | refine Below_call ?_ (by assumption) | refine Below.trans ?_ (by assumption)))⟩
  obtain ⟨nx4, y0, y1, y2, y3⟩ := HQ.out.below hB4c
  have HP4 := hid (HP.out.below hB4c)
  obtain ⟨np4, z0, z1⟩ := HPB.out.below hB4a
  have HQ4 := hid (HQB.out.below hB4b)
  clear hb1 hb2 hb3 hb4 hB4a hB4b hB4c HQ HP HPB HQB
  go_wp2_with fail
  refine wp_mixC (fun wc => Below (w4.heap.size) w4 wc) 26 [.q [0, 1, 2, 3, 4, 5, 6, 7, 8, 9, 10, 11, 12, 13, 14, 15, 16, 17, 18, 19, 20], .f [21], .q [22, 23, 24, 25]] [] (by kernel_rfl) (by kernel_rfl) ((Below.refl _ _).drew) ?_
  intro Q' hQ'
  (rw [wpMixC]; simp only [pick, List.drop_succ_cons, List.drop_zero, List.head?_cons, Option.toList_some, List.cons_append, List.nil_append])
  (repeat (first | go_big_quiet_skip | (go_big_quiet_want; refine quiet_simple rfl ?_; go_big_quiet_op; go_big_quiet_on) | (go_big_quiet_want; refine quiet_agg4B (ty := 46) rfl rfl (by kernel_rfl) (by assumption) (by assumption) (by assumption) (by assumption) (by first | omega | (simp; omega)) ?_; simp only [Act.put, List.setIfInBounds_toArray, List.set_cons_succ, List.set_cons_zero]; go_big_quiet_on) | (go_big_quiet_want; refine quiet_agg2B (ty := 48) rfl rfl (by kernel_rfl) (by assumption) (by assumption) (by first | omega | (simp; omega)) ?_; simp only [Act.put, List.setIfInBounds_toArray, List.set_cons_succ, List.set_cons_zero]; go_big_quiet_on)))
  (try refine wpQuiet_nil ?_)
  (rw [wpMixC]; simp only [pick, List.drop_succ_cons, List.drop_zero, List.head?_cons, Option.toList_some, List.cons_append, List.nil_append])
  (rw [wpSteps]; go_wp2_with (fail); rw [contF]; refine ⟨?_, ?_⟩; (next => (repeat (with_reducible first | exact Below.refl _ _ | assumption | refine Below.drewN _ ?_ | refine Below.drew ?_ | refine Below_alloc ?_ _ | refine Below.alloc ?_ (by first | (simp; done) | (simp; omega) | omega) _ | refine Below.setCell ?_ (by first | (simp; done) | (simp; omega) | omega) _ | refine Below_call ?_ (by assumption) | refine Below.trans ?_ (by assumption)))))
  (rw [wpSteps])
  (rw [wpMixC]; simp only [pick, List.drop_succ_cons, List.drop_zero, List.head?_cons, Option.toList_some, List.cons_append, List.nil_append])
  (repeat (first | go_big_quiet_skip | (go_big_quiet_want; refine quiet_simple rfl ?_; go_big_quiet_op; go_big_quiet_on) | (go_big_quiet_want; refine quiet_agg4B (ty := 46) rfl rfl (by kernel_rfl) (by assumption) (by assumption) (by assumption) (by assumption) (by first | omega | (simp; omega)) ?_; simp only [Act.put, List.setIfInBounds_toArray, List.set_cons_succ, List.set_cons_zero]; go_big_quiet_on) | (go_big_quiet_want; refine quiet_agg2B (ty := 48) rfl rfl (by kernel_rfl) (by assumption) (by assumption) (by first | omega | (simp; omega)) ?_; simp only [Act.put, List.setIfInBounds_toArray, List.set_cons_succ, List.set_cons_zero]; go_big_quiet_on)))
  (try refine wpQuiet_nil ?_)
  (rw [wpMixC])
  (rw [wpMix])
  (refine hQ' _ _ ?_)
  obtain ⟨w5, hw5⟩ : ∃ w5, w5 = w4.drew := ⟨_, rfl⟩
  rw [← hw5]
  have hB5 : Below w4.heap.size w4 w5 := by rw [hw5]; (repeat (with_reducible first | exact Below.refl _ _ | assumption | refine Below.drewN _ ?_ | refine Below.drew ?_ | refine Below_alloc ?_ _ | refine Below.alloc ?_ (by first | (simp; done) | (simp; omega) | omega) _ | refine Below.setCell ?_ (by first | (simp; done) | (simp; omega) | omega) _ | refine Below_call ?_ (by assumption) | refine Below.trans ?_ (by assumption)))
  clear hw5
  obtain ⟨nc5, d0, d1⟩ := HP4.out.below hB5
  have HQ5 := hid (HQ4.out.below hB5)
  have HP5 := hid (HP4.out.below hB5)
  have hBW5 : Below w.heap.size w w5 := by (repeat (with_reducible first | exact Below.refl _ _ | assumption | refine Below.drewN _ ?_ | refine Below.drew ?_ | refine Below_alloc ?_ _ | refine Below.alloc ?_ (by first | (simp; done) | (simp; omega) | omega) _ | refine Below.setCell ?_ (by first | (simp; done) | (simp; omega) | omega) _ | refine Below_call ?_ (by assumption) | refine Below.trans ?_ (by assumption)))
  clear hB5 hB4
  go_wp2_with fail
  refine (RT.out _).mono ?_
  rintro _ w6 ⟨rfl, hb6⟩
  obtain ⟨nc6, e0, e1⟩ := HP5.out.below hb6
  obtain ⟨nq6, g0, g1⟩ := HQ5.out.below hb6
  have HQ6 := hid (HQ5.out.below hb6)
  go_wp2_with fail
  refine (RR.out _).mono ?_
  rintro _ w7 ⟨rfl, hb7⟩
  obtain ⟨nq7, f0, f1⟩ := HQ6.out.below hb7
  go_wp2_with fail
  go_ret
  exact ⟨by simp, by (repeat (with_reducible first | exact Below.refl _ _ | assumption | refine Below.drewN _ ?_ | refine Below.drew ?_ | refine Below_alloc ?_ _ | refine Below.alloc ?_ (by first | (simp; done) | (simp; omega) | omega) _ | refine Below.setCell ?_ (by first | (simp; done) | (simp; omega) | omega) _ | refine Below_call ?_ (by assumption) | refine Below.trans ?_ (by assumption)))⟩

end Go.Proofs.Ytllddidjiabegaa

/- Methods of the reference: small ones, cuts that pass, clauses that select, windows. -/
set_option linter.unusedVariables false
set_option linter.unusedSimpArgs false
namespace Go.Proofs.Ytllddidjiabegaa
open Go.RowKit

def smallB (cs : List (List Cut)) : Bool := decide (cs.length ≤ 6) && cs.all (fun l => decide (l.length ≤ 6))
theorem smallB_ok {cs : List (List Cut)} (h : smallB cs = true) : cs.length ≤ 6 ∧ ∀ i, i < cs.length → (clAt cs i).length ≤ 6 := by
  simp only [smallB, Bool.and_eq_true, decide_eq_true_eq, List.all_eq_true] at h
  exact ⟨h.1, fun i hi => by rw [clAt_lt hi]; exact h.2 _ (List.getElem_mem hi)⟩

set_option maxRecDepth 100000 in
set_option maxHeartbeats 1000000 in
theorem law_Small (cs : List (List Cut)) (cv : Value) (p fr to : Int) (w : World) (h : ClausesAt w cv cs) :
    Calls Try.prog 13 #[.agg #[cv, .int .i64 p, .int .i64 fr, .int .i64 to]] w fun e w' => e = .returned (.bool (smallB cs)) ∧ Below w.heap.size w w' := by
  obtain ⟨ao, cap, us, rfl, h1, h2, h3⟩ := h.opn
  unfold maxLen at h2
  by_cases hn : 6 < cs.length
  · have HS : Hid (smallB cs = false) := hid (by simp [smallB]; omega)
    go_enter Try.func13, Try.ntmps13
    go_wp2_with fail
    go_ret
    exact ⟨by rw [HS.out]; rfl, by (repeat (with_reducible first | exact Below.refl _ _ | assumption | refine Below.drewN _ ?_ | refine Below.drew ?_ | refine Below_alloc ?_ _ | refine Below.alloc ?_ (by first | (simp; done) | (simp; omega) | omega) _ | refine Below.setCell ?_ (by first | (simp; done) | (simp; omega) | omega) _ | refine Below_call ?_ (by assumption) | refine Below.trans ?_ (by assumption)))⟩
  go_enter Try.func13, Try.ntmps13
  go_wp2_with fail
  obtain ⟨W0, hW0⟩ : ∃ W0, W0 = w.alloc (.cells #[.slice ao cs.length cap, .int .i64 p, .int .i64 fr, .int .i64 to] 24) := ⟨_, rfl⟩
  have r0 : W0.cell? ⟨w.heap.size, 0, none⟩ = some (.slice ao cs.length cap) := by rw [hW0]; simp
  have hz0 : w.heap.size + 1 ≤ W0.heap.size := by rw [hW0]; simp
  have hBW : Below w.heap.size w W0 := by rw [hW0]; (repeat (with_reducible first | exact Below.refl _ _ | assumption | refine Below.drewN _ ?_ | refine Below.drew ?_ | refine Below_alloc ?_ _ | refine Below.alloc ?_ (by first | (simp; done) | (simp; omega) | omega) _ | refine Below.setCell ?_ (by first | (simp; done) | (simp; omega) | omega) _ | refine Below_call ?_ (by assumption) | refine Below.trans ?_ (by assumption)))
  rw [← hW0]
  clear hW0
  go_loop [3] (fun i => ∃ k : Nat, k ≤ cs.length ∧ i = .int .i64 k ∧ Hid (∀ j, j < k → (clAt cs j).length ≤ 6)) (fun i => cs.length - (intOf i).toNat)
  case atStart => exact ⟨0, Nat.zero_le _, rfl, hid (fun j hj => by omega)⟩
  case round =>
    obtain ⟨k, hk, rfl, HZ⟩ := hrel
    by_cases hlt : k < cs.length
    · obtain ⟨b, off, rfl, hb, hc⟩ := h3 k hlt
      obtain ⟨c0, hcu⟩ := hc k hlt
      rw [← hBW.cell (p := ⟨b, off + k, none⟩) hb] at c0
      obtain ⟨ao2, cap2, hus, g1, g2, g3⟩ := hcu.opn
      rw [hus] at c0
      obtain ⟨cl, hcl⟩ : ∃ cl, cl = clAt cs k := ⟨_, rfl⟩
      rw [← hcl] at c0 g1
      have HCL := hid hcl
      unfold maxLen at g2
      clear hc h3 hcl h hcu g3 hus
      by_cases hl : 6 < cl.length
      · have HS : Hid (smallB cs = false) := hid (by
          cases hs : smallB cs
          · rfl
          · have := (smallB_ok hs).2 k hlt
            rw [← HCL.out] at this; omega)
        go_wp2_with fail
        go_ret
        exact ⟨by rw [HS.out]; rfl, hBW⟩
      · go_wp2_with fail
        go_round
        case rel =>
          refine ⟨k + 1, by omega, by go_num, hid (fun j hj => ?_)⟩
          rcases Nat.lt_or_ge j k with h | h
          · exact HZ.out j h
          · rw [show j = k from by omega, ← HCL.out]; omega
        case measure => simp [intOf]; omega
    · have HS : Hid (smallB cs = true) := hid (by
        simp only [smallB, Bool.and_eq_true, decide_eq_true_eq, List.all_eq_true]
        refine ⟨by omega, fun l hl => ?_⟩
        obtain ⟨j, hj, rfl⟩ := List.mem_iff_getElem.1 hl
        have := HZ.out j (by omega)
        rwa [clAt_lt hj] at this)
      go_wp2_with fail
      go_ret
      exact ⟨by rw [HS.out]; rfl, hBW⟩

set_option maxRecDepth 100000 in
set_option maxHeartbeats 1000000 in
theorem ref_Passes (x : Ev) (c : Cut) (w : World) (hok : okC c) :
    Calls Try.prog 129 #[.agg #[.int .i64 c.f, .int .i64 c.lo, .int .i64 c.hi], .agg #[.int .i64 x.t, .int .i64 x.en, .int .i64 x.ze, .int .i64 x.hi]] w fun e w' => e = .returned (.bool (!failC x c)) ∧ Below w.heap.size w w' := by
  obtain ⟨t, en, ze, hi⟩ := x
  obtain ⟨f, lo, hh⟩ := c
  have HF : Hid ((!failC ⟨t, en, ze, hi⟩ ⟨f, lo, hh⟩) = inB (fld ⟨t, en, ze, hi⟩ f) lo hh) := hid (by simp [failC])
  obtain ⟨hf0, hf2⟩ := hok
  simp only at hf0 hf2 ⊢
  rcases (by omega : f = 0 ∨ f = 1 ∨ f = 2) with rfl | rfl | rfl
  all_goals
    go_enter Try.func129, Try.ntmps129
    go_wp2_with fail
    go_quiet ((go_at_call 44; exact quiet_same (base_Within _ _ _ _) ⟨_, rfl⟩))
    go_wp2
    go_ret
    exact ⟨by rw [HF.out]; rfl, by (repeat (with_reducible first | exact Below.refl _ _ | assumption | refine Below.drewN _ ?_ | refine Below.drew ?_ | refine Below_alloc ?_ _ | refine Below.alloc ?_ (by first | (simp; done) | (simp; omega) | omega) _ | refine Below.setCell ?_ (by first | (simp; done) | (simp; omega) | omega) _ | refine Below_call ?_ (by assumption) | refine Below.trans ?_ (by assumption)))⟩

set_option maxRecDepth 100000 in
theorem ref_IsInside (cv : Value) (p fr to t en ze hi : Int) (w : World) (hp : 1 ≤ p) (ht : 0 ≤ t) (hto : 0 ≤ to) (hto2 : to ≤ 100000) :
    Calls Try.prog 86 #[.agg #[cv, .int .i64 p, .int .i64 fr, .int .i64 to], .agg #[.int .i64 t, .int .i64 en, .int .i64 ze, .int .i64 hi]] w fun e w' => e = .returned (.bool (insB t p fr to)) ∧ Below w.heap.size w w' := by
  have HI : Hid (insB t p fr to = inB (t % p) fr (to - 1)) := hid rfl
  have hmod : t.tmod p = t % p := by rw [Int.tmod_eq_emod_of_nonneg ht]
  have hsub : IntKind.i64.wrap (to - 1) = to - 1 := IntWalk.i64_in _ (by omega)
  go_enter Try.func86, Try.ntmps86
  go_wp2_with fail
  ((refine wp_three [] [0, 1, 2, 3, 4, 5, 6, 7, 8, 9, 10] 11 (by kernel_rfl) (by kernel_rfl) ?_); (intro _ _); (simp only [pick, List.drop_succ_cons, List.drop_zero, List.head?_cons, Option.toList_some, List.cons_append, List.nil_append]); (repeat (first | (go_big_quiet_step ((go_at_call 44; exact quiet_same (base_Within _ _ _ _) ⟨_, rfl⟩))) | (quiet_step ((go_at_call 44; exact quiet_same (base_Within _ _ _ _) ⟨_, rfl⟩))))); (try refine wpQuiet_nil ?_); (repeat (first | (go_big_quiet_step ((go_at_call 44; exact quiet_same (base_Within _ _ _ _) ⟨_, rfl⟩))) | (quiet_step ((go_at_call 44; exact quiet_same (base_Within _ _ _ _) ⟨_, rfl⟩))))); (try refine wpQuiet_nil ?_); (intro nq))
  go_wp2
  go_ret
  exact ⟨ret_bool (by rw [HI.out]; try rfl), by (repeat (with_reducible first | exact Below.refl _ _ | assumption | refine Below.drewN _ ?_ | refine Below.drew ?_ | refine Below_alloc ?_ _ | refine Below.alloc ?_ (by first | (simp; done) | (simp; omega) | omega) _ | refine Below.setCell ?_ (by first | (simp; done) | (simp; omega) | omega) _ | refine Below_call ?_ (by assumption) | refine Below.trans ?_ (by assumption)))⟩

end Go.Proofs.Ytllddidjiabegaa

/- What a method selects and counts: the reference. -/
set_option linter.unusedVariables false
set_option linter.unusedSimpArgs false
namespace Go.Proofs.Ytllddidjiabegaa
open Go.RowKit

set_option maxRecDepth 100000 in
set_option maxHeartbeats 4000000 in
theorem ref_IsSelected (x : Ev) (cs : List (List Cut)) (cv : Value) (p fr to : Int) (w : World) (h : ClausesAt w cv cs) (hok : okM cs) :
    Calls Try.prog 85 #[.agg #[cv, .int .i64 p, .int .i64 fr, .int .i64 to], .agg #[.int .i64 x.t, .int .i64 x.en, .int .i64 x.ze, .int .i64 x.hi]] w fun e w' => e = .returned (.bool (selL x cs)) ∧ Below w.heap.size w w' := by
  have HP : Hid (∀ W f lo hh, okC ⟨f, lo, hh⟩ → Calls Try.prog 129 #[.agg #[.int .i64 f, .int .i64 lo, .int .i64 hh], .agg #[.int .i64 x.t, .int .i64 x.en, .int .i64 x.ze, .int .i64 x.hi]] W fun e w' => e = .returned (.bool (!failC x ⟨f, lo, hh⟩)) ∧ Below W.heap.size W w') := hid (fun W f lo hh hk => ref_Passes x ⟨f, lo, hh⟩ W hk)
  have HSL : Hid (selL x cs = anyI (fun l => !failL x l) cs) := hid rfl
  obtain ⟨t, en, ze, hi⟩ := x
  simp only at HP HSL ⊢
  obtain ⟨S, hS⟩ : ∃ S, S = selL ⟨t, en, ze, hi⟩ cs := ⟨_, rfl⟩
  rw [← hS]
  obtain ⟨F, hF⟩ : ∃ F : Cut → Bool, F = failC ⟨t, en, ze, hi⟩ := ⟨_, rfl⟩
  have HFL : Hid (∀ l, failL ⟨t, en, ze, hi⟩ l = anyI F l) := hid (fun l => by rw [hF]; rfl)
  have HSE := hid hS
  rw [← hF] at HP
  clear hS hF
  obtain ⟨ao, cap, us, rfl, h1, h2, h3⟩ := h.opn
  unfold maxLen at h2
  go_enter Try.func85, Try.ntmps85
  go_wp2_with fail
  obtain ⟨W0, hW0⟩ : ∃ W0, W0 = (w.alloc (.cells #[.slice ao cs.length cap, .int .i64 p, .int .i64 fr, .int .i64 to] 24)).alloc (.cells #[.int .i64 t, .int .i64 en, .int .i64 ze, .int .i64 hi] 89) := ⟨_, rfl⟩
  have r0 : W0.cell? ⟨w.heap.size, 0, none⟩ = some (.slice ao cs.length cap) := by rw [hW0]; simp
  have x0 : W0.cell? ⟨w.heap.size + 1, 0, none⟩ = some (.int .i64 t) := by rw [hW0]; simp
  have x1 : W0.cell? ⟨w.heap.size + 1, 1, none⟩ = some (.int .i64 en) := by rw [hW0]; simp
  have x2 : W0.cell? ⟨w.heap.size + 1, 2, none⟩ = some (.int .i64 ze) := by rw [hW0]; simp
  have x3 : W0.cell? ⟨w.heap.size + 1, 3, none⟩ = some (.int .i64 hi) := by rw [hW0]; simp
  have hz0 : w.heap.size + 2 ≤ W0.heap.size := by rw [hW0]; simp
  have hBW : Below w.heap.size w W0 := by rw [hW0]; (repeat (with_reducible first | exact Below.refl _ _ | assumption | refine Below.drewN _ ?_ | refine Below.drew ?_ | refine Below_alloc ?_ _ | refine Below.alloc ?_ (by first | (simp; done) | (simp; omega) | omega) _ | refine Below.setCell ?_ (by first | (simp; done) | (simp; omega) | omega) _ | refine Below_call ?_ (by assumption) | refine Below.trans ?_ (by assumption)))
  rw [← hW0]
  clear hW0
  go_loopw [5] (fun i wr => ∃ k : Nat, k ≤ cs.length ∧ i = .int .i64 k ∧ Hid (anyI (fun l => !anyI F l) (cs.take k) = false) ∧ Below W0.heap.size W0 wr) (fun i _ => cs.length - (intOf i).toNat)
  case atStart => exact ⟨0, Nat.zero_le _, rfl, hid (by simp [anyI]), Below.refl _ _⟩
  case round =>
    obtain ⟨k, hk, rfl, HZ, hbel⟩ := hrel
    have hzw := hbel.size
    have hB : Below w.heap.size w wr := hBW.trans (hbel.mono (by omega))
    by_cases hlt : k < cs.length
    · obtain ⟨b, off, rfl, hb, hc⟩ := h3 k hlt
      obtain ⟨c0, hcu⟩ := hc k hlt
      rw [← hB.cell (p := ⟨b, off + k, none⟩) hb] at c0
      replace hcu := hcu.below hB
      have HAT := hid (anyL_take (f := fun l => !anyI F l) hlt)
      have HAA := hid (anyL_at (f := fun l => !anyI F l) hlt)
      have hkc : okL (clAt cs k) := by rw [clAt_lt hlt]; exact hok _ (List.getElem_mem hlt)
      obtain ⟨cl, hcl⟩ : ∃ cl, cl = clAt cs k := ⟨_, rfl⟩
      rw [← hcl] at hcu HAT HAA hkc
      obtain ⟨ao2, cap2, hus, g1, g2, g3⟩ := hcu.opn
      unfold maxLen at g2
      rw [hus] at c0
      have hbw : b < wr.heap.size := by omega
      have s0 := (hbel.cell (p := ⟨w.heap.size, 0, none⟩) (show w.heap.size < W0.heap.size by omega)).trans r0
      have HOK := hid hkc
      have hX := show w.heap.size + 1 < W0.heap.size by omega
      have y0 := (hbel.cell (p := ⟨w.heap.size + 1, 0, none⟩) hX).trans x0
      have y1 := (hbel.cell (p := ⟨w.heap.size + 1, 1, none⟩) hX).trans x1
      have y2 := (hbel.cell (p := ⟨w.heap.size + 1, 2, none⟩) hX).trans x2
      have y3 := (hbel.cell (p := ⟨w.heap.size + 1, 3, none⟩) hX).trans x3
      have hN1 : w.heap.size + 1 < wr.heap.size := by omega
      clear hc h3 hcl h hcu hok hkc r0 x0 x1 x2 x3 hX
      go_wp2_with fail
      obtain ⟨wo, rfl⟩ : ∃ wo : World, wo = wr := ⟨_, rfl⟩
      go_loopw [6, 7] (fun al i wr => ∃ j : Nat, j ≤ cl.length ∧ al = .bool (!anyI F (cl.take j)) ∧ i = .int .i64 j ∧ Below wo.heap.size wo wr) (fun _ i _ => cl.length - (intOf i).toNat)
      case atStart => exact ⟨0, Nat.zero_le _, by simp [anyI], rfl, Below.refl _ _⟩
      case round =>
        obtain ⟨j, hj, rfl, rfl, hbt⟩ := hrel
        have hzt := hbt.size
        obtain ⟨hcb, hfb⟩ := bcell hbt
        have t0 := (hcb _ 0 (by omega)).trans s0
        have t1 := (hcb b (off + k) hbw).trans c0
        have z0 := (hcb _ 0 hN1).trans y0
        have z1 := (hcb _ 1 hN1).trans y1
        have z2 := (hcb _ 2 hN1).trans y2
        have z3 := (hcb _ 3 hN1).trans y3
        have hNw : w.heap.size + 1 < wr.heap.size := by omega
        have hbw' : b < wr.heap.size := by omega
        by_cases hl2 : j < cl.length
        · obtain ⟨b2, off2, rfl, hbb, hcc⟩ := g3 j hl2
          obtain ⟨d0, d1, d2⟩ := hcc j hl2
          rw [← hcb b2 _ hbb] at d0 d1 d2
          have hbb' : b2 < wr.heap.size := by omega
          have HAT2 := hid (anyC_take (f := F) hl2)
          have hkc : okC (cutAt cl j) := by rw [cutAt_lt hl2]; exact HOK.out _ (List.getElem_mem hl2)
          obtain ⟨c, hx⟩ : ∃ c, c = cutAt cl j := ⟨_, rfl⟩
          rw [← hx] at d0 d1 d2 HAT2 hkc
          obtain ⟨f, lo, hh⟩ := c
          simp only at d0 d1 d2
          have HKC := hid hkc
          clear hcc g3 hcb hfb hx hkc s0 c0 y0 y1 y2 y3
          cases hA : anyI F (cl.take j)
          · have HA := hid hA
            clear hA
            simp only [Bool.not_false]
            go_wp2_with fail
            refine wp_mixC (fun wc => Below (wr.heap.size) wr wc) 13 [.q [0, 1, 2, 3, 4, 5, 6, 7, 8, 9, 10], .f [11], .q [12]] [.q [13]] (by kernel_rfl) (by kernel_rfl) ((Below.refl _ _).drew) ?_
            intro Q' hQ'
            (rw [wpMixC]; simp only [pick, List.drop_succ_cons, List.drop_zero, List.head?_cons, Option.toList_some, List.cons_append, List.nil_append])
            (repeat (first | go_big_quiet_skip | (go_big_quiet_want; refine quiet_simple rfl ?_; go_big_quiet_op; go_big_quiet_on) | (go_big_quiet_want; refine quiet_cellB (ty := 22) rfl rfl (by kernel_rfl) (by assumption) (by first | omega | (simp; omega)) ?_; simp only [Act.put, List.setIfInBounds_toArray, List.set_cons_succ, List.set_cons_zero]; go_big_quiet_on) | (go_big_quiet_want; refine quiet_agg4B (ty := 89) rfl rfl (by kernel_rfl) (by assumption) (by assumption) (by assumption) (by assumption) (by first | omega | (simp; omega)) ?_; simp only [Act.put, List.setIfInBounds_toArray, List.set_cons_succ, List.set_cons_zero]; go_big_quiet_on) | (go_big_quiet_want; refine quiet_cellB (ty := 105) rfl rfl (by kernel_rfl) (by assumption) (by first | omega | (simp; omega)) ?_; simp only [Act.put, List.setIfInBounds_toArray, List.set_cons_succ, List.set_cons_zero]; go_big_quiet_on) | (go_big_quiet_want; refine quiet_agg3B (ty := 108) rfl rfl (by kernel_rfl) (by assumption) (by assumption) (by assumption) (by first | omega | (simp; omega)) ?_; simp only [Act.put, List.setIfInBounds_toArray, List.set_cons_succ, List.set_cons_zero]; go_big_quiet_on)))
            (try refine wpQuiet_nil ?_)
            (rw [wpMixC]; simp only [pick, List.drop_succ_cons, List.drop_zero, List.head?_cons, Option.toList_some, List.cons_append, List.nil_append])
            (rw [wpSteps]; go_wp2_with ((go_at_call 129; refine (HP.out _ f lo hh HKC.out).mono ?_; rintro _ w3 ⟨rfl, hb3⟩)); rw [contF]; refine ⟨?_, ?_⟩; (next => (repeat (with_reducible first | exact Below.refl _ _ | assumption | refine Below.drewN _ ?_ | refine Below.drew ?_ | refine Below_alloc ?_ _ | refine Below.alloc ?_ (by first | (simp; done) | (simp; omega) | omega) _ | refine Below.setCell ?_ (by first | (simp; done) | (simp; omega) | omega) _ | refine Below_call ?_ (by assumption) | refine Below.trans ?_ (by assumption)))))
            (rw [wpSteps])
            (rw [wpMixC]; simp only [pick, List.drop_succ_cons, List.drop_zero, List.head?_cons, Option.toList_some, List.cons_append, List.nil_append])
            (repeat (first | go_big_quiet_skip | (go_big_quiet_want; refine quiet_simple rfl ?_; go_big_quiet_op; go_big_quiet_on) | (go_big_quiet_want; refine quiet_cellB (ty := 22) rfl rfl (by kernel_rfl) (by assumption) (by first | omega | (simp; omega)) ?_; simp only [Act.put, List.setIfInBounds_toArray, List.set_cons_succ, List.set_cons_zero]; go_big_quiet_on) | (go_big_quiet_want; refine quiet_agg4B (ty := 89) rfl rfl (by kernel_rfl) (by assumption) (by assumption) (by assumption) (by assumption) (by first | omega | (simp; omega)) ?_; simp only [Act.put, List.setIfInBounds_toArray, List.set_cons_succ, List.set_cons_zero]; go_big_quiet_on) | (go_big_quiet_want; refine quiet_cellB (ty := 105) rfl rfl (by kernel_rfl) (by assumption) (by first | omega | (simp; omega)) ?_; simp only [Act.put, List.setIfInBounds_toArray, List.set_cons_succ, List.set_cons_zero]; go_big_quiet_on) | (go_big_quiet_want; refine quiet_agg3B (ty := 108) rfl rfl (by kernel_rfl) (by assumption) (by assumption) (by assumption) (by first | omega | (simp; omega)) ?_; simp only [Act.put, List.setIfInBounds_toArray, List.set_cons_succ, List.set_cons_zero]; go_big_quiet_on)))
            (try refine wpQuiet_nil ?_)
            (rw [wpMixC])
            (rw [wpMix]; simp only [pick, List.drop_succ_cons, List.drop_zero, List.head?_cons, Option.toList_some, List.cons_append, List.nil_append])
            (repeat (first | (go_big_quiet_step (fail)) | (quiet_step (fail))))
            (try refine wpQuiet_nil ?_)
            (rw [wpMix])
            (refine hQ' _ _ ?_)
            go_wp2_with fail
            go_roundw
            case rel => exact ⟨j + 1, by omega, by rw [HAT2.out, HA.out]; simp; done, by go_num, by (repeat (with_reducible first | exact Below.refl _ _ | assumption | refine Below.drewN _ ?_ | refine Below.drew ?_ | refine Below_alloc ?_ _ | refine Below.alloc ?_ (by first | (simp; done) | (simp; omega) | omega) _ | refine Below.setCell ?_ (by first | (simp; done) | (simp; omega) | omega) _ | refine Below_call ?_ (by assumption) | refine Below.trans ?_ (by assumption)))⟩
            case measure => simp [intOf]; omega
          · have HA := hid hA
            clear hA
            simp only [Bool.not_true]
            go_wp2_with fail
            refine wp_mixC (fun wc => Below (wr.heap.size) wr wc) 13 [.q [0, 1, 2, 3, 4, 5, 6, 7, 8, 9, 10], .f [11], .q [12]] [.q [13]] (by kernel_rfl) (by kernel_rfl) ((Below.refl _ _).drew) ?_
            intro Q' hQ'
            (rw [wpMixC]; simp only [pick, List.drop_succ_cons, List.drop_zero, List.head?_cons, Option.toList_some, List.cons_append, List.nil_append])
            (repeat (first | go_big_quiet_skip | (go_big_quiet_want; refine quiet_simple rfl ?_; go_big_quiet_op; go_big_quiet_on) | (go_big_quiet_want; refine quiet_cellB (ty := 22) rfl rfl (by kernel_rfl) (by assumption) (by first | omega | (simp; omega)) ?_; simp only [Act.put, List.setIfInBounds_toArray, List.set_cons_succ, List.set_cons_zero]; go_big_quiet_on) | (go_big_quiet_want; refine quiet_agg4B (ty := 89) rfl rfl (by kernel_rfl) (by assumption) (by assumption) (by assumption) (by assumption) (by first | omega | (simp; omega)) ?_; simp only [Act.put, List.setIfInBounds_toArray, List.set_cons_succ, List.set_cons_zero]; go_big_quiet_on) | (go_big_quiet_want; refine quiet_cellB (ty := 105) rfl rfl (by kernel_rfl) (by assumption) (by first | omega | (simp; omega)) ?_; simp only [Act.put, List.setIfInBounds_toArray, List.set_cons_succ, List.set_cons_zero]; go_big_quiet_on) | (go_big_quiet_want; refine quiet_agg3B (ty := 108) rfl rfl (by kernel_rfl) (by assumption) (by assumption) (by assumption) (by first | omega | (simp; omega)) ?_; simp only [Act.put, List.setIfInBounds_toArray, List.set_cons_succ, List.set_cons_zero]; go_big_quiet_on)))
            (try refine wpQuiet_nil ?_)
            (rw [wpMixC]; simp only [pick, List.drop_succ_cons, List.drop_zero, List.head?_cons, Option.toList_some, List.cons_append, List.nil_append])
            (rw [wpSteps]; go_wp2_with (fail); rw [contF]; refine ⟨?_, ?_⟩; (next => (repeat (with_reducible first | exact Below.refl _ _ | assumption | refine Below.drewN _ ?_ | refine Below.drew ?_ | refine Below_alloc ?_ _ | refine Below.alloc ?_ (by first | (simp; done) | (simp; omega) | omega) _ | refine Below.setCell ?_ (by first | (simp; done) | (simp; omega) | omega) _ | refine Below_call ?_ (by assumption) | refine Below.trans ?_ (by assumption)))))
            (rw [wpSteps])
            (rw [wpMixC]; simp only [pick, List.drop_succ_cons, List.drop_zero, List.head?_cons, Option.toList_some, List.cons_append, List.nil_append])
            (repeat (first | go_big_quiet_skip | (go_big_quiet_want; refine quiet_simple rfl ?_; go_big_quiet_op; go_big_quiet_on) | (go_big_quiet_want; refine quiet_cellB (ty := 22) rfl rfl (by kernel_rfl) (by assumption) (by first | omega | (simp; omega)) ?_; simp only [Act.put, List.setIfInBounds_toArray, List.set_cons_succ, List.set_cons_zero]; go_big_quiet_on) | (go_big_quiet_want; refine quiet_agg4B (ty := 89) rfl rfl (by kernel_rfl) (by assumption) (by assumption) (by assumption) (by assumption) (by first | omega | (simp; omega)) ?_; simp only [Act.put, List.setIfInBounds_toArray, List.set_cons_succ, List.set_cons_zero]; go_big_quiet_on) | (go_big_quiet_want; refine quiet_cellB (ty := 105) rfl rfl (by kernel_rfl) (by assumption) (by first | omega | (simp; omega)) ?_; simp only [Act.put, List.setIfInBounds_toArray, List.set_cons_succ, List.set_cons_zero]; go_big_quiet_on) | (go_big_quiet_want; refine quiet_agg3B (ty := 108) rfl rfl (by kernel_rfl) (by assumption) (by assumption) (by assumption) (by first | omega | (simp; omega)) ?_; simp only [Act.put, List.setIfInBounds_toArray, List.set_cons_succ, List.set_cons_zero]; go_big_quiet_on)))
            (try refine wpQuiet_nil ?_)
            (rw [wpMixC])
            (rw [wpMix]; simp only [pick, List.drop_succ_cons, List.drop_zero, List.head?_cons, Option.toList_some, List.cons_append, List.nil_append])
            (repeat (first | (go_big_quiet_step (fail)) | (quiet_step (fail))))
            (try refine wpQuiet_nil ?_)
            (rw [wpMix])
            (refine hQ' _ _ ?_)
            go_wp2_with fail
            go_roundw
            case rel => exact ⟨j + 1, by omega, by rw [HAT2.out, HA.out]; simp; done, by go_num, by (repeat (with_reducible first | exact Below.refl _ _ | assumption | refine Below.drewN _ ?_ | refine Below.drew ?_ | refine Below_alloc ?_ _ | refine Below.alloc ?_ (by first | (simp; done) | (simp; omega) | omega) _ | refine Below.setCell ?_ (by first | (simp; done) | (simp; omega) | omega) _ | refine Below_call ?_ (by assumption) | refine Below.trans ?_ (by assumption)))⟩
            case measure => simp [intOf]; omega
        · have hjl : j = cl.length := by omega
          subst hjl
          rw [List.take_length]
          have hB4 : Below W0.heap.size W0 wr := hbel.trans (hbt.mono hzw)
          have hB5 : Below w.heap.size w wr := hB.trans (hbt.mono hB.size)
          cases hA : anyI F cl
          · have HA := hid hA
            clear hA
            go_wp2_with fail
            go_ret
            refine ⟨?_, hB5⟩
            rw [HSE.out, HSL.out]
            have e : (fun l => !failL ⟨t, en, ze, hi⟩ l) = (fun l => !anyI F l) := funext fun l => by rw [HFL.out]
            rw [e, HAA.out (by rw [HA.out]; rfl)]; rfl
          · have HA := hid hA
            clear hA
            go_wp2_with fail
            go_roundw
            case rel => exact ⟨k + 1, by omega, by go_num, hid (by rw [HAT.out, HZ.out, HA.out]; rfl), hB4⟩
            case measure => simp [intOf]; omega
    · have HS : Hid (S = false) := hid (by
        have := HZ.out
        rw [show k = cs.length from by omega, List.take_length] at this
        rw [HSE.out, HSL.out]
        have e : (fun l => !failL ⟨t, en, ze, hi⟩ l) = (fun l => !anyI F l) := funext fun l => by rw [HFL.out]
        rw [e]; exact this)
      have s0 := (hbel.cell (p := ⟨w.heap.size, 0, none⟩) (show w.heap.size < W0.heap.size by omega)).trans r0
      go_wp2_with fail
      go_ret
      exact ⟨by rw [HS.out]; rfl, hB⟩


set_option maxRecDepth 100000 in
set_option maxHeartbeats 1000000 in
theorem ref_Selected (m : Meth) (cv : Value) (l : List Ev) (v : Value) (w : World) (hl : EventsAt w v l) (h : ClausesAt w cv m.cs) (hok : okM m.cs) (h1000 : l.length ≤ 1000) :
    Calls Try.prog 22 #[.agg #[cv, .int .i64 m.p, .int .i64 m.fr, .int .i64 m.to], v] w (RetInts w (selUp m l l.length)) := by
  have HC : Hid (∀ W t en ze hi, Below w.heap.size w W → Calls Try.prog 85 #[.agg #[cv, .int .i64 m.p, .int .i64 m.fr, .int .i64 m.to], .agg #[.int .i64 t, .int .i64 en, .int .i64 ze, .int .i64 hi]] W fun e w' => e = .returned (.bool (selL ⟨t, en, ze, hi⟩ m.cs)) ∧ Below W.heap.size W w') := hid (fun W t en ze hi hW => ref_IsSelected ⟨t, en, ze, hi⟩ m.cs cv m.p m.fr m.to W (h.below hW) hok)
  obtain ⟨ao, cap, rfl, h1, h2, h3⟩ := hl.opn
  unfold maxLen at h2
  clear h hok
  go_enter Try.func22, Try.ntmps22
  go_wp2_with fail
  obtain ⟨W0, hW0⟩ : ∃ W0, W0 = w.alloc (.cells #[cv, .int .i64 m.p, .int .i64 m.fr, .int .i64 m.to] 24) := ⟨_, rfl⟩
  have r0 : W0.cell? ⟨w.heap.size, 0, none⟩ = some cv := by rw [hW0]; simp
  have r1 : W0.cell? ⟨w.heap.size, 1, none⟩ = some (.int .i64 m.p) := by rw [hW0]; simp
  have r2 : W0.cell? ⟨w.heap.size, 2, none⟩ = some (.int .i64 m.fr) := by rw [hW0]; simp
  have r3 : W0.cell? ⟨w.heap.size, 3, none⟩ = some (.int .i64 m.to) := by rw [hW0]; simp
  have hk0 : w.heap.size < W0.heap.size := by rw [hW0]; simp
  have hBW : Below w.heap.size w W0 := by rw [hW0]; (repeat (with_reducible first | exact Below.refl _ _ | assumption | refine Below.drewN _ ?_ | refine Below.drew ?_ | refine Below_alloc ?_ _ | refine Below.alloc ?_ (by first | (simp; done) | (simp; omega) | omega) _ | refine Below.setCell ?_ (by first | (simp; done) | (simp; omega) | omega) _ | refine Below_call ?_ (by assumption) | refine Below.trans ?_ (by assumption)))
  rw [← hW0]
  clear hW0
  go_loopw [5, 6] (fun o i wr => ∃ k : Nat, k ≤ l.length ∧ i = .int .i64 k ∧ wr.ownsRow W0.heap.size 3 1 o (selUp m l k).length ((selUp m l k).map (Value.int .i64)) ∧ Below W0.heap.size W0 wr) (fun _ i _ => l.length - (intOf i).toNat)
  case atStart => exact ⟨0, Nat.zero_le _, rfl, World.ownsRow_nil _ _ _ _, Below.refl _ _⟩
  case round =>
    obtain ⟨k, hk, rfl, hown, hbel⟩ := hrel
    have hzw := hbel.size
    have hB : Below w.heap.size w wr := hBW.trans (hbel.mono hBW.size)
    by_cases hlt : k < l.length
    · obtain ⟨b, off, rfl, hb, hc⟩ := h3 k hlt
      obtain ⟨c0, c1, c2, c3⟩ := hc k hlt
      obtain ⟨hcb, hfb⟩ := bcell hB
      rw [← hcb b _ hb] at c0 c1 c2 c3
      have hbw : b < wr.heap.size := Nat.lt_of_lt_of_le hb hB.size
      obtain ⟨hcb2, hfb2⟩ := bcell hbel
      have t0 := (hcb2 _ 0 hk0).trans r0
      have t1 := (hcb2 _ 1 hk0).trans r1
      have t2 := (hcb2 _ 2 hk0).trans r2
      have t3 := (hcb2 _ 3 hk0).trans r3
      have hkw : w.heap.size < wr.heap.size := by omega
      obtain ⟨x, hx⟩ : ∃ x, x = evAt l k := ⟨_, rfl⟩
      have HSU : Hid (selUp m l (k + 1) = if selL x m.cs = true then selUp m l k ++ [(k : Int)] else selUp m l k) := hid (by rw [hx]; rfl)
      have hlen := selUp_len m l k
      rw [← hx] at c0 c1 c2 c3
      obtain ⟨t, en, ze, hi⟩ := x
      simp only at c0 c1 c2 c3
      clear hc h3 hcb hfb hcb2 hfb2 hx hl r0 r1 r2 r3
      cases hT : selL ⟨t, en, ze, hi⟩ m.cs
      · have HT := hid hT
        go_wp2_with fail
        refine wp_mixC (fun wc => Below (wr.heap.size) wr wc) 6 [.q [0, 1, 2, 3, 4], .f [5]] [] (by kernel_rfl) (by kernel_rfl) ((Below.refl _ _).drew) ?_
        intro Q' hQ'
        (rw [wpMixC]; simp only [pick, List.drop_succ_cons, List.drop_zero, List.head?_cons, Option.toList_some, List.cons_append, List.nil_append])
        (repeat (first | go_big_quiet_skip | (go_big_quiet_want; refine quiet_simple rfl ?_; go_big_quiet_op; go_big_quiet_on) | (go_big_quiet_want; refine quiet_agg4B (ty := 24) rfl rfl (by kernel_rfl) (by assumption) (by assumption) (by assumption) (by assumption) (by first | omega | (simp; omega)) ?_; simp only [Act.put, List.setIfInBounds_toArray, List.set_cons_succ, List.set_cons_zero]; go_big_quiet_on) | (go_big_quiet_want; refine quiet_agg4B (ty := 89) rfl rfl (by kernel_rfl) (by assumption) (by assumption) (by assumption) (by assumption) (by first | omega | (simp; omega)) ?_; simp only [Act.put, List.setIfInBounds_toArray, List.set_cons_succ, List.set_cons_zero]; go_big_quiet_on)))
        (try refine wpQuiet_nil ?_)
        (rw [wpMixC]; simp only [pick, List.drop_succ_cons, List.drop_zero, List.head?_cons, Option.toList_some, List.cons_append, List.nil_append])
        (rw [wpSteps]; go_wp2_with ((go_at_call 85; refine (HC.out _ t en ze hi (by (repeat (with_reducible first | exact Below.refl _ _ | assumption | refine Below.drewN _ ?_ | refine Below.drew ?_ | refine Below_alloc ?_ _ | refine Below.alloc ?_ (by first | (simp; done) | (simp; omega) | omega) _ | refine Below.setCell ?_ (by first | (simp; done) | (simp; omega) | omega) _ | refine Below_call ?_ (by assumption) | refine Below.trans ?_ (by assumption))))).mono ?_; rintro _ w3 ⟨rfl, hb3⟩)); rw [contF]; refine ⟨?_, ?_⟩; (next => (repeat (with_reducible first | exact Below.refl _ _ | assumption | refine Below.drewN _ ?_ | refine Below.drew ?_ | refine Below_alloc ?_ _ | refine Below.alloc ?_ (by first | (simp; done) | (simp; omega) | omega) _ | refine Below.setCell ?_ (by first | (simp; done) | (simp; omega) | omega) _ | refine Below_call ?_ (by assumption) | refine Below.trans ?_ (by assumption)))))
        (rw [wpSteps])
        (rw [wpMixC])
        (rw [wpMix])
        (refine hQ' _ _ ?_)
        go_wp2_with fail
        go_roundw
        case rel => exact ⟨k + 1, by omega, by go_num, by rw [HSU.out, HT.out]; exact ownsRow_below hown (by (repeat (with_reducible first | exact Below.refl _ _ | assumption | refine Below.drewN _ ?_ | refine Below.drew ?_ | refine Below_alloc ?_ _ | refine Below.alloc ?_ (by first | (simp; done) | (simp; omega) | omega) _ | refine Below.setCell ?_ (by first | (simp; done) | (simp; omega) | omega) _ | refine Below_call ?_ (by assumption) | refine Below.trans ?_ (by assumption)))), by (repeat (with_reducible first | exact Below.refl _ _ | assumption | refine Below.drewN _ ?_ | refine Below.drew ?_ | refine Below_alloc ?_ _ | refine Below.alloc ?_ (by first | (simp; done) | (simp; omega) | omega) _ | refine Below.setCell ?_ (by first | (simp; done) | (simp; omega) | omega) _ | refine Below_call ?_ (by assumption) | refine Below.trans ?_ (by assumption)))⟩
        case measure => simp [intOf]; omega
      · have HT := hid hT
        go_wp2_with fail
        refine wp_mixC (fun wc => Below (wr.heap.size) wr wc) 6 [.q [0, 1, 2, 3, 4], .f [5]] [] (by kernel_rfl) (by kernel_rfl) ((Below.refl _ _).drew) ?_
        intro Q' hQ'
        (rw [wpMixC]; simp only [pick, List.drop_succ_cons, List.drop_zero, List.head?_cons, Option.toList_some, List.cons_append, List.nil_append])
        (repeat (first | go_big_quiet_skip | (go_big_quiet_want; refine quiet_simple rfl ?_; go_big_quiet_op; go_big_quiet_on) | (go_big_quiet_want; refine quiet_agg4B (ty := 24) rfl rfl (by kernel_rfl) (by assumption) (by assumption) (by assumption) (by assumption) (by first | omega | (simp; omega)) ?_; simp only [Act.put, List.setIfInBounds_toArray, List.set_cons_succ, List.set_cons_zero]; go_big_quiet_on) | (go_big_quiet_want; refine quiet_agg4B (ty := 89) rfl rfl (by kernel_rfl) (by assumption) (by assumption) (by assumption) (by assumption) (by first | omega | (simp; omega)) ?_; simp only [Act.put, List.setIfInBounds_toArray, List.set_cons_succ, List.set_cons_zero]; go_big_quiet_on)))
        (try refine wpQuiet_nil ?_)
        (rw [wpMixC]; simp only [pick, List.drop_succ_cons, List.drop_zero, List.head?_cons, Option.toList_some, List.cons_append, List.nil_append])
        (rw [wpSteps]; go_wp2_with ((go_at_call 85; refine (HC.out _ t en ze hi (by (repeat (with_reducible first | exact Below.refl _ _ | assumption | refine Below.drewN _ ?_ | refine Below.drew ?_ | refine Below_alloc ?_ _ | refine Below.alloc ?_ (by first | (simp; done) | (simp; omega) | omega) _ | refine Below.setCell ?_ (by first | (simp; done) | (simp; omega) | omega) _ | refine Below_call ?_ (by assumption) | refine Below.trans ?_ (by assumption))))).mono ?_; rintro _ w3 ⟨rfl, hb3⟩)); rw [contF]; refine ⟨?_, ?_⟩; (next => (repeat (with_reducible first | exact Below.refl _ _ | assumption | refine Below.drewN _ ?_ | refine Below.drew ?_ | refine Below_alloc ?_ _ | refine Below.alloc ?_ (by first | (simp; done) | (simp; omega) | omega) _ | refine Below.setCell ?_ (by first | (simp; done) | (simp; omega) | omega) _ | refine Below_call ?_ (by assumption) | refine Below.trans ?_ (by assumption)))))
        (rw [wpSteps])
        (rw [wpMixC])
        (rw [wpMix])
        (refine hQ' _ _ ?_)
        have hB3 : Below wr.heap.size wr w3 := by (repeat (with_reducible first | exact Below.refl _ _ | assumption | refine Below.drewN _ ?_ | refine Below.drew ?_ | refine Below_alloc ?_ _ | refine Below.alloc ?_ (by first | (simp; done) | (simp; omega) | omega) _ | refine Below.setCell ?_ (by first | (simp; done) | (simp; omega) | omega) _ | refine Below_call ?_ (by assumption) | refine Below.trans ?_ (by assumption)))
        have hown' := ownsRow_below hown hB3
        have hz3 : W0.heap.size ≤ w3.heap.size := Nat.le_trans hzw hB3.size
        go_wp2_with (at_builtin; refine wpList_push rfl _ _ _ rfl elemInt W0.heap.size _ (selUp m l k).length _ rfl w3 hown' [.int .i64 k] rfl (by simp [Value.oneCell']) rfl _ rfl rfl (by omega) (by unfold maxLen; omega) hz3 ?_; intro v1 w4 hown3 hb4 _ _)
        go_roundw
        case rel =>
          refine ⟨k + 1, by omega, by go_num, ?_, ?_⟩
          · rw [HSU.out, HT.out, if_pos rfl, List.map_append, List.length_append]; exact hown3
          · exact (hbel.trans (hB3.mono hzw)).trans hb4
        case measure => simp [intOf]; omega
    · have hkl : k = l.length := by omega
      go_wp2_with fail
      go_ret
      refine ⟨_, rfl, ?_, hB⟩
      rw [← hkl]
      exact ownsRow_ints hown

set_option maxRecDepth 100000 in
set_option maxHeartbeats 1000000 in
theorem ref_Count (m : Meth) (cv : Value) (l : List Ev) (v : Value) (w : World) (hl : EventsAt w v l) (h : ClausesAt w cv m.cs) (hok : okM m.cs) (hp : 1 ≤ m.p) (hto : 0 ≤ m.to) (hto2 : m.to ≤ 100000) (ht : ∀ x ∈ l, 0 ≤ x.t) (h1000 : l.length ≤ 1000) :
    Calls Try.prog 23 #[.agg #[cv, .int .i64 m.p, .int .i64 m.fr, .int .i64 m.to], v] w fun e w' => e = .returned (.int .i64 (numI (cntB m) l : Nat)) ∧ Below w.heap.size w w' := by
  have HC : Hid (∀ W t en ze hi, Below w.heap.size w W → Calls Try.prog 85 #[.agg #[cv, .int .i64 m.p, .int .i64 m.fr, .int .i64 m.to], .agg #[.int .i64 t, .int .i64 en, .int .i64 ze, .int .i64 hi]] W fun e w' => e = .returned (.bool (selL ⟨t, en, ze, hi⟩ m.cs)) ∧ Below W.heap.size W w') := hid (fun W t en ze hi hW => ref_IsSelected ⟨t, en, ze, hi⟩ m.cs cv m.p m.fr m.to W (h.below hW) hok)
  have HI : Hid (∀ W t en ze hi, 0 ≤ t → Calls Try.prog 86 #[.agg #[cv, .int .i64 m.p, .int .i64 m.fr, .int .i64 m.to], .agg #[.int .i64 t, .int .i64 en, .int .i64 ze, .int .i64 hi]] W fun e w' => e = .returned (.bool (insB t m.p m.fr m.to)) ∧ Below W.heap.size W w') := hid (fun W t en ze hi h0 => ref_IsInside cv m.p m.fr m.to t en ze hi W hp h0 hto hto2)
  obtain ⟨ao, cap, rfl, h1, h2, h3⟩ := hl.opn
  unfold maxLen at h2
  clear h hok hp hto hto2
  go_enter Try.func23, Try.ntmps23
  go_wp2_with fail
  obtain ⟨W0, hW0⟩ : ∃ W0, W0 = w.alloc (.cells #[cv, .int .i64 m.p, .int .i64 m.fr, .int .i64 m.to] 24) := ⟨_, rfl⟩
  have r0 : W0.cell? ⟨w.heap.size, 0, none⟩ = some cv := by rw [hW0]; simp
  have r1 : W0.cell? ⟨w.heap.size, 1, none⟩ = some (.int .i64 m.p) := by rw [hW0]; simp
  have r2 : W0.cell? ⟨w.heap.size, 2, none⟩ = some (.int .i64 m.fr) := by rw [hW0]; simp
  have r3 : W0.cell? ⟨w.heap.size, 3, none⟩ = some (.int .i64 m.to) := by rw [hW0]; simp
  have hk0 : w.heap.size < W0.heap.size := by rw [hW0]; simp
  have hBW : Below w.heap.size w W0 := by rw [hW0]; (repeat (with_reducible first | exact Below.refl _ _ | assumption | refine Below.drewN _ ?_ | refine Below.drew ?_ | refine Below_alloc ?_ _ | refine Below.alloc ?_ (by first | (simp; done) | (simp; omega) | omega) _ | refine Below.setCell ?_ (by first | (simp; done) | (simp; omega) | omega) _ | refine Below_call ?_ (by assumption) | refine Below.trans ?_ (by assumption)))
  rw [← hW0]
  clear hW0
  go_loopw [5, 6] (fun o i wr => ∃ k : Nat, k ≤ l.length ∧ o = .int .i64 (numI (cntB m) (l.take k) : Nat) ∧ i = .int .i64 k ∧ Below W0.heap.size W0 wr) (fun _ i _ => l.length - (intOf i).toNat)
  case atStart => exact ⟨0, Nat.zero_le _, rfl, rfl, Below.refl _ _⟩
  case round =>
    obtain ⟨k, hk, rfl, rfl, hbel⟩ := hrel
    have hzw := hbel.size
    have hB : Below w.heap.size w wr := hBW.trans (hbel.mono hBW.size)
    by_cases hlt : k < l.length
    · obtain ⟨b, off, rfl, hb, hc⟩ := h3 k hlt
      obtain ⟨c0, c1, c2, c3⟩ := hc k hlt
      obtain ⟨hcb, hfb⟩ := bcell hB
      rw [← hcb b _ hb] at c0 c1 c2 c3
      have hbw : b < wr.heap.size := Nat.lt_of_lt_of_le hb hB.size
      obtain ⟨hcb2, hfb2⟩ := bcell hbel
      have t0 := (hcb2 _ 0 hk0).trans r0
      have t1 := (hcb2 _ 1 hk0).trans r1
      have t2 := (hcb2 _ 2 hk0).trans r2
      have t3 := (hcb2 _ 3 hk0).trans r3
      have hkw : w.heap.size < wr.heap.size := by omega
      have HAT := hid (numI_take (f := cntB m) hlt)
      have hcnt : numI (cntB m) (l.take k) ≤ 1000 := Nat.le_trans numI_le (by simp; omega)
      have ht0 : 0 ≤ (evAt l k).t := by rw [evAt_lt hlt]; exact ht _ (List.getElem_mem hlt)
      obtain ⟨x, hx⟩ : ∃ x, x = evAt l k := ⟨_, rfl⟩
      rw [← hx] at c0 c1 c2 c3 HAT ht0
      obtain ⟨t, en, ze, hi⟩ := x
      simp only at c0 c1 c2 c3 ht0
      have HV : Hid (cntB m ⟨t, en, ze, hi⟩ = (selL ⟨t, en, ze, hi⟩ m.cs && insB t m.p m.fr m.to)) := hid rfl
      clear hc h3 hcb hfb hcb2 hfb2 hx hl r0 r1 r2 r3 ht
      cases hT : selL ⟨t, en, ze, hi⟩ m.cs
      · have HT := hid hT
        go_wp2_with fail
        refine wp_mixC (fun wc => Below (wr.heap.size) wr wc) 14 [.q [0, 1, 2, 3, 4], .f [5], .q [6, 7, 8, 9, 10, 11], .f [12], .q [13]] [] (by kernel_rfl) (by kernel_rfl) ((Below.refl _ _).drew) ?_
        intro Q' hQ'
        (rw [wpMixC]; simp only [pick, List.drop_succ_cons, List.drop_zero, List.head?_cons, Option.toList_some, List.cons_append, List.nil_append])
        (repeat (first | go_big_quiet_skip | (go_big_quiet_want; refine quiet_simple rfl ?_; go_big_quiet_op; go_big_quiet_on) | (go_big_quiet_want; refine quiet_agg4B (ty := 24) rfl rfl (by kernel_rfl) (by assumption) (by assumption) (by assumption) (by assumption) (by first | omega | (simp; omega)) ?_; simp only [Act.put, List.setIfInBounds_toArray, List.set_cons_succ, List.set_cons_zero]; go_big_quiet_on) | (go_big_quiet_want; refine quiet_agg4B (ty := 89) rfl rfl (by kernel_rfl) (by assumption) (by assumption) (by assumption) (by assumption) (by first | omega | (simp; omega)) ?_; simp only [Act.put, List.setIfInBounds_toArray, List.set_cons_succ, List.set_cons_zero]; go_big_quiet_on)))
        (try refine wpQuiet_nil ?_)
        (rw [wpMixC]; simp only [pick, List.drop_succ_cons, List.drop_zero, List.head?_cons, Option.toList_some, List.cons_append, List.nil_append])
        (rw [wpSteps]; go_wp2_with (first | (go_at_call 85; refine (HC.out _ t en ze hi (by (repeat (with_reducible first | exact Below.refl _ _ | assumption | refine Below.drewN _ ?_ | refine Below.drew ?_ | refine Below_alloc ?_ _ | refine Below.alloc ?_ (by first | (simp; done) | (simp; omega) | omega) _ | refine Below.setCell ?_ (by first | (simp; done) | (simp; omega) | omega) _ | refine Below_call ?_ (by assumption) | refine Below.trans ?_ (by assumption))))).mono ?_; rintro _ w3 ⟨rfl, hb3⟩)); rw [contF]; refine ⟨?_, ?_⟩; (next => (repeat (with_reducible first | exact Below.refl _ _ | assumption | refine Below.drewN _ ?_ | refine Below.drew ?_ | refine Below_alloc ?_ _ | refine Below.alloc ?_ (by first | (simp; done) | (simp; omega) | omega) _ | refine Below.setCell ?_ (by first | (simp; done) | (simp; omega) | omega) _ | refine Below_call ?_ (by assumption) | refine Below.trans ?_ (by assumption)))))
        (rw [wpSteps])
        (rw [wpMixC]; simp only [pick, List.drop_succ_cons, List.drop_zero, List.head?_cons, Option.toList_some, List.cons_append, List.nil_append])
        (repeat (first | go_big_quiet_skip | (go_big_quiet_want; refine quiet_simple rfl ?_; go_big_quiet_op; go_big_quiet_on) | (go_big_quiet_want; refine quiet_agg4B (ty := 24) rfl rfl (by kernel_rfl) (by assumption) (by assumption) (by assumption) (by assumption) (by first | omega | (simp; omega)) ?_; simp only [Act.put, List.setIfInBounds_toArray, List.set_cons_succ, List.set_cons_zero]; go_big_quiet_on) | (go_big_quiet_want; refine quiet_agg4B (ty := 89) rfl rfl (by kernel_rfl) (by assumption) (by assumption) (by assumption) (by assumption) (by first | omega | (simp; omega)) ?_; simp only [Act.put, List.setIfInBounds_toArray, List.set_cons_succ, List.set_cons_zero]; go_big_quiet_on)))
        (try refine wpQuiet_nil ?_)
        (rw [wpMixC]; simp only [pick, List.drop_succ_cons, List.drop_zero, List.head?_cons, Option.toList_some, List.cons_append, List.nil_append])
        (rw [wpSteps]; go_wp2_with (first | (go_at_call 85; refine (HC.out _ t en ze hi (by (repeat (with_reducible first | exact Below.refl _ _ | assumption | refine Below.drewN _ ?_ | refine Below.drew ?_ | refine Below_alloc ?_ _ | refine Below.alloc ?_ (by first | (simp; done) | (simp; omega) | omega) _ | refine Below.setCell ?_ (by first | (simp; done) | (simp; omega) | omega) _ | refine Below_call ?_ (by assumption) | refine Below.trans ?_ (by assumption))))).mono ?_; rintro _ w3 ⟨rfl, hb3⟩)); rw [contF]; refine ⟨?_, ?_⟩; (next => (repeat (with_reducible first | exact Below.refl _ _ | assumption | refine Below.drewN _ ?_ | refine Below.drew ?_ | refine Below_alloc ?_ _ | refine Below.alloc ?_ (by first | (simp; done) | (simp; omega) | omega) _ | refine Below.setCell ?_ (by first | (simp; done) | (simp; omega) | omega) _ | refine Below_call ?_ (by assumption) | refine Below.trans ?_ (by assumption)))))
        (rw [wpSteps])
        (rw [wpMixC]; simp only [pick, List.drop_succ_cons, List.drop_zero, List.head?_cons, Option.toList_some, List.cons_append, List.nil_append])
        (repeat (first | go_big_quiet_skip | (go_big_quiet_want; refine quiet_simple rfl ?_; go_big_quiet_op; go_big_quiet_on) | (go_big_quiet_want; refine quiet_agg4B (ty := 24) rfl rfl (by kernel_rfl) (by assumption) (by assumption) (by assumption) (by assumption) (by first | omega | (simp; omega)) ?_; simp only [Act.put, List.setIfInBounds_toArray, List.set_cons_succ, List.set_cons_zero]; go_big_quiet_on) | (go_big_quiet_want; refine quiet_agg4B (ty := 89) rfl rfl (by kernel_rfl) (by assumption) (by assumption) (by assumption) (by assumption) (by first | omega | (simp; omega)) ?_; simp only [Act.put, List.setIfInBounds_toArray, List.set_cons_succ, List.set_cons_zero]; go_big_quiet_on)))
        (try refine wpQuiet_nil ?_)
        (rw [wpMixC])
        (rw [wpMix])
        (refine hQ' _ _ ?_)
        go_wp2_with fail
        go_roundw
        case rel => exact ⟨k + 1, by omega, by rw [HAT.out, HV.out, HT.out]; rfl, by go_num, by (repeat (with_reducible first | exact Below.refl _ _ | assumption | refine Below.drewN _ ?_ | refine Below.drew ?_ | refine Below_alloc ?_ _ | refine Below.alloc ?_ (by first | (simp; done) | (simp; omega) | omega) _ | refine Below.setCell ?_ (by first | (simp; done) | (simp; omega) | omega) _ | refine Below_call ?_ (by assumption) | refine Below.trans ?_ (by assumption)))⟩
        case measure => simp [intOf]; omega
      · cases hT2 : insB t m.p m.fr m.to
        all_goals
          have HT := hid hT
          have HT2 := hid hT2
          go_wp2_with fail
          refine wp_mixC (fun wc => Below (wr.heap.size) wr wc) 14 [.q [0, 1, 2, 3, 4], .f [5], .q [6, 7, 8, 9, 10, 11], .f [12], .q [13]] [] (by kernel_rfl) (by kernel_rfl) ((Below.refl _ _).drew) ?_
          intro Q' hQ'
          (rw [wpMixC]; simp only [pick, List.drop_succ_cons, List.drop_zero, List.head?_cons, Option.toList_some, List.cons_append, List.nil_append])
          (repeat (first | go_big_quiet_skip | (go_big_quiet_want; refine quiet_simple rfl ?_; go_big_quiet_op; go_big_quiet_on) | (go_big_quiet_want; refine quiet_agg4B (ty := 24) rfl rfl (by kernel_rfl) (by assumption) (by assumption) (by assumption) (by assumption) (by first | omega | (simp; omega)) ?_; simp only [Act.put, List.setIfInBounds_toArray, List.set_cons_succ, List.set_cons_zero]; go_big_quiet_on) | (go_big_quiet_want; refine quiet_agg4B (ty := 89) rfl rfl (by kernel_rfl) (by assumption) (by assumption) (by assumption) (by assumption) (by first | omega | (simp; omega)) ?_; simp only [Act.put, List.setIfInBounds_toArray, List.set_cons_succ, List.set_cons_zero]; go_big_quiet_on)))
          (try refine wpQuiet_nil ?_)
          (rw [wpMixC]; simp only [pick, List.drop_succ_cons, List.drop_zero, List.head?_cons, Option.toList_some, List.cons_append, List.nil_append])
          (rw [wpSteps]; go_wp2_with (first | (go_at_call 85; refine (HC.out _ t en ze hi (by (repeat (with_reducible first | exact Below.refl _ _ | assumption | refine Below.drewN _ ?_ | refine Below.drew ?_ | refine Below_alloc ?_ _ | refine Below.alloc ?_ (by first | (simp; done) | (simp; omega) | omega) _ | refine Below.setCell ?_ (by first | (simp; done) | (simp; omega) | omega) _ | refine Below_call ?_ (by assumption) | refine Below.trans ?_ (by assumption))))).mono ?_; rintro _ w3 ⟨rfl, hb3⟩) | (go_at_call 86; refine (HI.out _ t en ze hi ht0).mono ?_; rintro _ w4 ⟨rfl, hb4⟩)); rw [contF]; refine ⟨?_, ?_⟩; (next => (repeat (with_reducible first | exact Below.refl _ _ | assumption | refine Below.drewN _ ?_ | refine Below.drew ?_ | refine Below_alloc ?_ _ | refine Below.alloc ?_ (by first | (simp; done) | (simp; omega) | omega) _ | refine Below.setCell ?_ (by first | (simp; done) | (simp; omega) | omega) _ | refine Below_call ?_ (by assumption) | refine Below.trans ?_ (by assumption)))))
          (rw [wpSteps])
          (rw [wpMixC]; simp only [pick, List.drop_succ_cons, List.drop_zero, List.head?_cons, Option.toList_some, List.cons_append, List.nil_append])
          (repeat (first | go_big_quiet_skip | (go_big_quiet_want; refine quiet_simple rfl ?_; go_big_quiet_op; go_big_quiet_on) | (go_big_quiet_want; refine quiet_agg4B (ty := 24) rfl rfl (by kernel_rfl) (by assumption) (by assumption) (by assumption) (by assumption) (by first | omega | (simp; omega)) ?_; simp only [Act.put, List.setIfInBounds_toArray, List.set_cons_succ, List.set_cons_zero]; go_big_quiet_on) | (go_big_quiet_want; refine quiet_agg4B (ty := 89) rfl rfl (by kernel_rfl) (by assumption) (by assumption) (by assumption) (by assumption) (by first | omega | (simp; omega)) ?_; simp only [Act.put, List.setIfInBounds_toArray, List.set_cons_succ, List.set_cons_zero]; go_big_quiet_on)))
          (try refine wpQuiet_nil ?_)
          (rw [wpMixC]; simp only [pick, List.drop_succ_cons, List.drop_zero, List.head?_cons, Option.toList_some, List.cons_append, List.nil_append])
          (rw [wpSteps]; go_wp2_with (first | (go_at_call 85; refine (HC.out _ t en ze hi (by (repeat (with_reducible first | exact Below.refl _ _ | assumption | refine Below.drewN _ ?_ | refine Below.drew ?_ | refine Below_alloc ?_ _ | refine Below.alloc ?_ (by first | (simp; done) | (simp; omega) | omega) _ | refine Below.setCell ?_ (by first | (simp; done) | (simp; omega) | omega) _ | refine Below_call ?_ (by assumption) | refine Below.trans ?_ (by assumption))))).mono ?_; rintro _ w3 ⟨rfl, hb3⟩) | (go_at_call 86; refine (HI.out _ t en ze hi ht0).mono ?_; rintro _ w4 ⟨rfl, hb4⟩)); rw [contF]; refine ⟨?_, ?_⟩; (next => (repeat (with_reducible first | exact Below.refl _ _ | assumption | refine Below.drewN _ ?_ | refine Below.drew ?_ | refine Below_alloc ?_ _ | refine Below.alloc ?_ (by first | (simp; done) | (simp; omega) | omega) _ | refine Below.setCell ?_ (by first | (simp; done) | (simp; omega) | omega) _ | refine Below_call ?_ (by assumption) | refine Below.trans ?_ (by assumption)))))
          (rw [wpSteps])
          (rw [wpMixC]; simp only [pick, List.drop_succ_cons, List.drop_zero, List.head?_cons, Option.toList_some, List.cons_append, List.nil_append])
          (repeat (first | go_big_quiet_skip | (go_big_quiet_want; refine quiet_simple rfl ?_; go_big_quiet_op; go_big_quiet_on) | (go_big_quiet_want; refine quiet_agg4B (ty := 24) rfl rfl (by kernel_rfl) (by assumption) (by assumption) (by assumption) (by assumption) (by first | omega | (simp; omega)) ?_; simp only [Act.put, List.setIfInBounds_toArray, List.set_cons_succ, List.set_cons_zero]; go_big_quiet_on) | (go_big_quiet_want; refine quiet_agg4B (ty := 89) rfl rfl (by kernel_rfl) (by assumption) (by assumption) (by assumption) (by assumption) (by first | omega | (simp; omega)) ?_; simp only [Act.put, List.setIfInBounds_toArray, List.set_cons_succ, List.set_cons_zero]; go_big_quiet_on)))
          (try refine wpQuiet_nil ?_)
          (rw [wpMixC])
          (rw [wpMix])
          (refine hQ' _ _ ?_)
          go_wp2_with fail
          go_roundw
          case rel => exact ⟨k + 1, by omega, by rw [HAT.out, HV.out, HT.out, HT2.out]; go_num, by go_num, by (repeat (with_reducible first | exact Below.refl _ _ | assumption | refine Below.drewN _ ?_ | refine Below.drew ?_ | refine Below_alloc ?_ _ | refine Below.alloc ?_ (by first | (simp; done) | (simp; omega) | omega) _ | refine Below.setCell ?_ (by first | (simp; done) | (simp; omega) | omega) _ | refine Below_call ?_ (by assumption) | refine Below.trans ?_ (by assumption)))⟩
          case measure => simp [intOf]; omega
    · have hkl : k = l.length := by omega
      go_wp2_with fail
      go_ret
      exact ⟨ret_int (by rw [hkl, List.take_length]), hB⟩

end Go.Proofs.Ytllddidjiabegaa

