/- The law of chances, walked. -/
import Derived.Test.YtllddidjiabegaaZ3
import Derived.Test.YtllddidjiabegaaBC3
set_option linter.unusedVariables false
set_option linter.unusedSimpArgs false
namespace Go.Proofs.Ytllddidjiabegaa
open Go.RowKit

/-- a block of four cells. -/
def Quad (w : World) (b : Nat) (x y z u : Value) : Prop := b < w.heap.size ∧ w.cell? ⟨b, 0, none⟩ = some x ∧ w.cell? ⟨b, 1, none⟩ = some y ∧ w.cell? ⟨b, 2, none⟩ = some z ∧ w.cell? ⟨b, 3, none⟩ = some u
theorem Quad.below {w w' : World} {b : Nat} {x y z u : Value} (h : Quad w b x y z u) (hb : Below w.heap.size w w') : Quad w' b x y z u :=
  ⟨Nat.lt_of_lt_of_le h.1 hb.size, (hb.cell (p := ⟨b, 0, none⟩) h.1).trans h.2.1, (hb.cell (p := ⟨b, 1, none⟩) h.1).trans h.2.2.1, (hb.cell (p := ⟨b, 2, none⟩) h.1).trans h.2.2.2.1, (hb.cell (p := ⟨b, 3, none⟩) h.1).trans h.2.2.2.2⟩

set_option maxRecDepth 100000 in
set_option maxHeartbeats 4000000 in
theorem law_Chances_od (xa xs xi xc n d t pn pd qn qd D : Int) (w : World) (q1 : (D == 0) = false) (q2 : (D != 0) = true)
    (HX : Hid (∀ W, Calls Try.prog 24 #[.agg #[.int .i64 xa, .int .i64 xs, .int .i64 xi, .int .i64 xc]] W fun e w' => e = .returned (.tuple #[.agg #[.int .i64 pn, .int .i64 pd], .int .i64 0]) ∧ Below W.heap.size W w'))
    (HT : Hid (∀ W, Calls Try.prog 25 #[.agg #[.int .i64 n, .int .i64 d], .int .i64 t] W fun e w' => e = .returned (.tuple #[.agg #[.int .i64 0, .int .i64 0], .int .i64 D]) ∧ Below W.heap.size W w'))
    (RE : Hid (∀ W, Calls Try.prog 26 #[.agg #[.int .i64 xa, .int .i64 xs, .int .i64 xi, .int .i64 xc]] W fun e w' => e = .returned (.int .i64 0) ∧ Below W.heap.size W w'))
    (RT : Hid (∀ W, Calls Try.prog 28 #[.agg #[.int .i64 n, .int .i64 d], .int .i64 t] W fun e w' => e = .returned (.int .i64 D) ∧ Below W.heap.size W w'))
    (RC : Hid (∀ W, Calls Try.prog 27 #[.agg #[.int .i64 xa, .int .i64 xs, .int .i64 xi, .int .i64 xc]] W fun e w' => e = .returned (.agg #[.int .i64 pn, .int .i64 pd]) ∧ Below W.heap.size W w'))
    : Calls Try.prog 4 #[.agg #[.int .i64 xa, .int .i64 xs, .int .i64 xi, .int .i64 xc], .agg #[.int .i64 n, .int .i64 d], .int .i64 t] w fun e w' => e = .returned (.bool true) ∧ Below w.heap.size w w' := by
  have HQ : Hid (Quad ((w.alloc (.cells #[.int .i64 xa, .int .i64 xs, .int .i64 xi, .int .i64 xc] 46)).alloc (.cells #[.int .i64 n, .int .i64 d] 48)) w.heap.size (.int .i64 xa) (.int .i64 xs) (.int .i64 xi) (.int .i64 xc)) := hid ⟨by simp; omega, by simp, by simp, by simp, by simp⟩
  have HP : Hid (Pair2 ((w.alloc (.cells #[.int .i64 xa, .int .i64 xs, .int .i64 xi, .int .i64 xc] 46)).alloc (.cells #[.int .i64 n, .int .i64 d] 48)) (w.heap.size + 1) (.int .i64 n) (.int .i64 d)) := hid ⟨by simp, by simp, by simp⟩
  go_enter Try.func4, Try.ntmps4
  go_wp2_with (go_at_call 11; refine (law_awake _).mono ?_; rintro _ w1 ⟨rfl, hb1⟩; obtain ⟨nx, x0, x1, x2, x3⟩ := HQ.out.below (w' := w1) (by (repeat (with_reducible first | exact Below.refl _ _ | assumption | refine Below.drewN _ ?_ | refine Below.drew ?_ | refine Below_alloc ?_ _ | refine Below.alloc ?_ (by first | (simp; done) | (simp; omega) | omega) _ | refine Below.setCell ?_ (by first | (simp; done) | (simp; omega) | omega) _ | refine Below_call ?_ (by assumption) | refine Below.trans ?_ (by assumption)))))
  refine (HX.out _).mono ?_
  rintro _ w2 ⟨rfl, hb2⟩
  obtain ⟨nc, c0, c1⟩ := HP.out.below (w' := w2.alloc (.cells #[.int .i64 pn, .int .i64 pd] 48)) (by (repeat (with_reducible first | exact Below.refl _ _ | assumption | refine Below.drewN _ ?_ | refine Below.drew ?_ | refine Below_alloc ?_ _ | refine Below.alloc ?_ (by first | (simp; done) | (simp; omega) | omega) _ | refine Below.setCell ?_ (by first | (simp; done) | (simp; omega) | omega) _ | refine Below_call ?_ (by assumption) | refine Below.trans ?_ (by assumption))))
  have HPB : Hid (Pair2 (w2.alloc (.cells #[.int .i64 pn, .int .i64 pd] 48)) w2.heap.size (.int .i64 pn) (.int .i64 pd)) := hid ⟨by simp, by simp, by simp⟩
  go_wp2_with fail
  refine (HT.out _).mono ?_
  rintro _ w3 ⟨rfl, hb3⟩
  obtain ⟨nx, x0, x1, x2, x3⟩ := HQ.out.below (w' := w3.alloc (.cells #[.int .i64 0, .int .i64 0] 48)) (by (repeat (with_reducible first | exact Below.refl _ _ | assumption | refine Below.drewN _ ?_ | refine Below.drew ?_ | refine Below_alloc ?_ _ | refine Below.alloc ?_ (by first | (simp; done) | (simp; omega) | omega) _ | refine Below.setCell ?_ (by first | (simp; done) | (simp; omega) | omega) _ | refine Below_call ?_ (by assumption) | refine Below.trans ?_ (by assumption))))
  have HQB : Hid (Pair2 (w3.alloc (.cells #[.int .i64 0, .int .i64 0] 48)) w3.heap.size (.int .i64 0) (.int .i64 0)) := hid ⟨by simp, by simp, by simp⟩
  go_wp2_with fail
  refine (RE.out _).mono ?_
  rintro _ w4 ⟨rfl, hb4⟩
  obtain ⟨hB4, hB4a, hB4b, hB4c⟩ : Below w.heap.size w w4 ∧ Below (w2.alloc (.cells #[.int .i64 pn, .int .i64 pd] 48)).heap.size (w2.alloc (.cells #[.int .i64 pn, .int .i64 pd] 48)) w4 ∧ Below (w3.alloc (.cells #[.int .i64 0, .int .i64 0] 48)).heap.size (w3.alloc (.cells #[.int .i64 0, .int .i64 0] 48)) w4 ∧ Below ((w.alloc (.cells #[.int .i64 xa, .int .i64 xs, .int .i64 xi, .int .i64 xc] 46)).alloc (.cells #[.int .i64 n, .int .i64 d] 48)).heap.size ((w.alloc (.cells #[.int .i64 xa, .int .i64 xs, .int .i64 xi, .int .i64 xc] 46)).alloc (.cells #[.int .i64 n, .int .i64 d] 48)) w4 := ⟨by (repeat (with_reducible first | exact Below.refl _ _ | assumption | refine Below.drewN _ ?_ | refine Below.drew ?_ | refine Below_alloc ?_ _ | refine Below.alloc ?_ (by first | (simp; done) | (simp; omega) | omega) _ | refine Below.setCell ?_ (by first | (simp; done) | (simp; omega) | omega) _ | refine Below_call ?_ (by assumption) | refine Below.trans ?_ (by assumption))), by (repeat (with_reducible first | exact Below.refl _ _ | assumption | refine Below.drewN _ ?_ | refine Below.drew ?_ | refine Below_alloc ?_ _ | refine Below.alloc ?_ (by first | (simp; done) | (simp; omega) | omega) _ | refine Below.setCell ?_ (by first | (simp; done) | (simp; omega) | omega) _ | refine Below_call ?_ (by assumption) | refine Below.trans ?_ (by assumption))), by (repeat (with_reducible first | exact Below.refl _ _ | assumption | refine Below.drewN _ ?_ | refine Below.drew ?_ | refine Below_alloc ?_ _ | refine Below.alloc ?_ (by first | (simp; done) | (simp; omega) | omega) _ | refine Below.setCell ?_ (by first | (simp; done) | (simp; omega) | omega) _ | refine Below_call ?_ (by assumption) | refine Below.trans ?_ (by assumption))), by (repeat (with_reducible first | exact Below.refl _ _ | assumption | refine Below.drewN _ ?_ | refine Below.drew ?_ | refine Below_alloc ?_ _ | refine Below.alloc ?_ (by first | (simp; done) | (simp; omega) | omega) _ | refine Below.setCell ?_ (by first | (simp; done) | (simp; omega) | omega) _ | refine Below_call ?_ (by assumption) | refine Below.trans ?_ (by assumption)))⟩
  obtain ⟨nx4, y0, y1, y2, y3⟩ := HQ.out.below hB4c
  have HP4 := hid (HP.out.below hB4c)
  obtain ⟨np4, z0, z1⟩ := HPB.out.below hB4a
  have HQ4 := hid (HQB.out.below hB4b)
  clear hb1 hb2 hb3 hb4 hB4a hB4b hB4c HQ HP HPB HQB
  go_wp2_with fail
  refine wp_mixC (fun wc => Below (w4.heap.size) w4 wc) 26 [.q [0, 1, 2, 3, 4, 5, 6, 7, 8, 9, 10, 11, 12, 13, 14, 15, 16, 17, 18, 19, 20], .f [21], .q [22, 23, 24, 25]] [] (by kernel_rfl) (by kernel_rfl) ((Below.refl _ _).drew) ?_
  intro Q' hQ'
  (rw [wpMixC]; simp only [pick, List.drop_succ_cons, List.drop_zero, List.head?_cons, Option.toList_some, List.cons_append, List.nil_append])
  (repeat (first | go_big_quiet_skip | (go_big_quiet_want; refine quiet_simple rfl ?_; go_big_quiet_op; go_big_quiet_on) | (go_big_quiet_want; refine quiet_agg4B (ty := 46) rfl rfl (by kernel_rfl) (by assumption) (by assumption) (by assumption) (by assumption) (by first | omega | (simp; omega)) ?_; simp only [Act.put, List.setIfInBounds_toArray, List.set_cons_succ, List.set_cons_zero]; go_big_quiet_on) | (go_big_quiet_want; refine quiet_agg2B (ty := 48) rfl rfl (by kernel_rfl) (by assumption) (by assumption) (by first | omega | (simp; omega)) ?_; simp only [Act.put, List.setIfInBounds_toArray, List.set_cons_succ, List.set_cons_zero]; go_big_quiet_on)))
  (try refine wpQuiet_nil ?_)
  (rw [wpMixC]; simp only [pick, List.drop_succ_cons, List.drop_zero, List.head?_cons, Option.toList_some, List.cons_append, List.nil_append])
  (rw [wpSteps]; go_wp2_with ((go_at_call 27; refine (RC.out _).mono ?_; rintro _ w5 ⟨rfl, hb5⟩)); rw [contF]; refine ⟨?_, ?_⟩; (next => (repeat (with_reducible first | exact Below.refl _ _ | assumption | refine Below.drewN _ ?_ | refine Below.drew ?_ | refine Below_alloc ?_ _ | refine Below.alloc ?_ (by first | (simp; done) | (simp; omega) | omega) _ | refine Below.setCell ?_ (by first | (simp; done) | (simp; omega) | omega) _ | refine Below_call ?_ (by assumption) | refine Below.trans ?_ (by assumption)))))
  (rw [wpSteps])
  (rw [wpMixC]; simp only [pick, List.drop_succ_cons, List.drop_zero, List.head?_cons, Option.toList_some, List.cons_append, List.nil_append])
  (repeat (first | go_big_quiet_skip | (go_big_quiet_want; refine quiet_simple rfl ?_; go_big_quiet_op; go_big_quiet_on) | (go_big_quiet_want; refine quiet_agg4B (ty := 46) rfl rfl (by kernel_rfl) (by assumption) (by assumption) (by assumption) (by assumption) (by first | omega | (simp; omega)) ?_; simp only [Act.put, List.setIfInBounds_toArray, List.set_cons_succ, List.set_cons_zero]; go_big_quiet_on) | (go_big_quiet_want; refine quiet_agg2B (ty := 48) rfl rfl (by kernel_rfl) (by assumption) (by assumption) (by first | omega | (simp; omega)) ?_; simp only [Act.put, List.setIfInBounds_toArray, List.set_cons_succ, List.set_cons_zero]; go_big_quiet_on)))
  (try refine wpQuiet_nil ?_)
  (rw [wpMixC])
  (rw [wpMix])
  (refine hQ' _ _ ?_)
  have hB5 : Below w4.heap.size w4 w5 := by (repeat (with_reducible first | exact Below.refl _ _ | assumption | refine Below.drewN _ ?_ | refine Below.drew ?_ | refine Below_alloc ?_ _ | refine Below.alloc ?_ (by first | (simp; done) | (simp; omega) | omega) _ | refine Below.setCell ?_ (by first | (simp; done) | (simp; omega) | omega) _ | refine Below_call ?_ (by assumption) | refine Below.trans ?_ (by assumption)))
  clear hb5
  obtain ⟨nc5, d0, d1⟩ := HP4.out.below hB5
  have HQ5 := hid (HQ4.out.below hB5)
  have HP5 := hid (HP4.out.below hB5)
  have hBW5 : Below w.heap.size w w5 := by (repeat (with_reducible first | exact Below.refl _ _ | assumption | refine Below.drewN _ ?_ | refine Below.drew ?_ | refine Below_alloc ?_ _ | refine Below.alloc ?_ (by first | (simp; done) | (simp; omega) | omega) _ | refine Below.setCell ?_ (by first | (simp; done) | (simp; omega) | omega) _ | refine Below_call ?_ (by assumption) | refine Below.trans ?_ (by assumption)))
  clear hB5 hB4
  go_wp2_with fail
  refine (RT.out _).mono ?_
  rintro _ w6 ⟨rfl, hb6⟩
  obtain ⟨nc6, e0, e1⟩ := HP5.out.below hb6
  obtain ⟨nq6, g0, g1⟩ := HQ5.out.below hb6
  go_wp2_with fail
  go_ret
  exact ⟨by simp, by (repeat (with_reducible first | exact Below.refl _ _ | assumption | refine Below.drewN _ ?_ | refine Below.drew ?_ | refine Below_alloc ?_ _ | refine Below.alloc ?_ (by first | (simp; done) | (simp; omega) | omega) _ | refine Below.setCell ?_ (by first | (simp; done) | (simp; omega) | omega) _ | refine Below_call ?_ (by assumption) | refine Below.trans ?_ (by assumption)))⟩

set_option maxRecDepth 100000 in
set_option maxHeartbeats 4000000 in
theorem law_Chances_oo (xa xs xi xc n d t pn pd qn qd D : Int) (w : World) (q1 : (D == 0) = false) (q2 : (D != 0) = true)
    (HX : Hid (∀ W, Calls Try.prog 24 #[.agg #[.int .i64 xa, .int .i64 xs, .int .i64 xi, .int .i64 xc]] W fun e w' => e = .returned (.tuple #[.agg #[.int .i64 pn, .int .i64 pd], .int .i64 0]) ∧ Below W.heap.size W w'))
    (HT : Hid (∀ W, Calls Try.prog 25 #[.agg #[.int .i64 n, .int .i64 d], .int .i64 t] W fun e w' => e = .returned (.tuple #[.agg #[.int .i64 qn, .int .i64 qd], .int .i64 0]) ∧ Below W.heap.size W w'))
    (RE : Hid (∀ W, Calls Try.prog 26 #[.agg #[.int .i64 xa, .int .i64 xs, .int .i64 xi, .int .i64 xc]] W fun e w' => e = .returned (.int .i64 0) ∧ Below W.heap.size W w'))
    (RT : Hid (∀ W, Calls Try.prog 28 #[.agg #[.int .i64 n, .int .i64 d], .int .i64 t] W fun e w' => e = .returned (.int .i64 0) ∧ Below W.heap.size W w'))
    (RC : Hid (∀ W, Calls Try.prog 27 #[.agg #[.int .i64 xa, .int .i64 xs, .int .i64 xi, .int .i64 xc]] W fun e w' => e = .returned (.agg #[.int .i64 pn, .int .i64 pd]) ∧ Below W.heap.size W w'))
    (RR : Hid (∀ W, Calls Try.prog 29 #[.agg #[.int .i64 n, .int .i64 d], .int .i64 t] W fun e w' => e = .returned (.tuple #[.agg #[.int .i64 qn, .int .i64 qd], .bool true]) ∧ Below W.heap.size W w'))
    : Calls Try.prog 4 #[.agg #[.int .i64 xa, .int .i64 xs, .int .i64 xi, .int .i64 xc], .agg #[.int .i64 n, .int .i64 d], .int .i64 t] w fun e w' => e = .returned (.bool true) ∧ Below w.heap.size w w' := by
  have HQ : Hid (Quad ((w.alloc (.cells #[.int .i64 xa, .int .i64 xs, .int .i64 xi, .int .i64 xc] 46)).alloc (.cells #[.int .i64 n, .int .i64 d] 48)) w.heap.size (.int .i64 xa) (.int .i64 xs) (.int .i64 xi) (.int .i64 xc)) := hid ⟨by simp; omega, by simp, by simp, by simp, by simp⟩
  have HP : Hid (Pair2 ((w.alloc (.cells #[.int .i64 xa, .int .i64 xs, .int .i64 xi, .int .i64 xc] 46)).alloc (.cells #[.int .i64 n, .int .i64 d] 48)) (w.heap.size + 1) (.int .i64 n) (.int .i64 d)) := hid ⟨by simp, by simp, by simp⟩
  go_enter Try.func4, Try.ntmps4
  go_wp2_with (go_at_call 11; refine (law_awake _).mono ?_; rintro _ w1 ⟨rfl, hb1⟩; obtain ⟨nx, x0, x1, x2, x3⟩ := HQ.out.below (w' := w1) (by (repeat (with_reducible first | exact Below.refl _ _ | assumption | refine Below.drewN _ ?_ | refine Below.drew ?_ | refine Below_alloc ?_ _ | refine Below.alloc ?_ (by first | (simp; done) | (simp; omega) | omega) _ | refine Below.setCell ?_ (by first | (simp; done) | (simp; omega) | omega) _ | refine Below_call ?_ (by assumption) | refine Below.trans ?_ (by assumption)))))
  refine (HX.out _).mono ?_
  rintro _ w2 ⟨rfl, hb2⟩
  obtain ⟨nc, c0, c1⟩ := HP.out.below (w' := w2.alloc (.cells #[.int .i64 pn, .int .i64 pd] 48)) (by (repeat (with_reducible first | exact Below.refl _ _ | assumption | refine Below.drewN _ ?_ | refine Below.drew ?_ | refine Below_alloc ?_ _ | refine Below.alloc ?_ (by first | (simp; done) | (simp; omega) | omega) _ | refine Below.setCell ?_ (by first | (simp; done) | (simp; omega) | omega) _ | refine Below_call ?_ (by assumption) | refine Below.trans ?_ (by assumption))))
  have HPB : Hid (Pair2 (w2.alloc (.cells #[.int .i64 pn, .int .i64 pd] 48)) w2.heap.size (.int .i64 pn) (.int .i64 pd)) := hid ⟨by simp, by simp, by simp⟩
  go_wp2_with fail
  refine (HT.out _).mono ?_
  rintro _ w3 ⟨rfl, hb3⟩
  obtain ⟨nx, x0, x1, x2, x3⟩ := HQ.out.below (w' := w3.alloc (.cells #[.int .i64 qn, .int .i64 qd] 48)) (by (repeat (with_reducible first | exact Below.refl _ _ | assumption | refine Below.drewN _ ?_ | refine Below.drew ?_ | refine Below_alloc ?_ _ | refine Below.alloc ?_ (by first | (simp; done) | (simp; omega) | omega) _ | refine Below.setCell ?_ (by first | (simp; done) | (simp; omega) | omega) _ | refine Below_call ?_ (by assumption) | refine Below.trans ?_ (by assumption))))
  have HQB : Hid (Pair2 (w3.alloc (.cells #[.int .i64 qn, .int .i64 qd] 48)) w3.heap.size (.int .i64 qn) (.int .i64 qd)) := hid ⟨by simp, by simp, by simp⟩
  go_wp2_with fail
  refine (RE.out _).mono ?_
  rintro _ w4 ⟨rfl, hb4⟩
  obtain ⟨hB4, hB4a, hB4b, hB4c⟩ : Below w.heap.size w w4 ∧ Below (w2.alloc (.cells #[.int .i64 pn, .int .i64 pd] 48)).heap.size (w2.alloc (.cells #[.int .i64 pn, .int .i64 pd] 48)) w4 ∧ Below (w3.alloc (.cells #[.int .i64 qn, .int .i64 qd] 48)).heap.size (w3.alloc (.cells #[.int .i64 qn, .int .i64 qd] 48)) w4 ∧ Below ((w.alloc (.cells #[.int .i64 xa, .int .i64 xs, .int .i64 xi, .int .i64 xc] 46)).alloc (.cells #[.int .i64 n, .int .i64 d] 48)).heap.size ((w.alloc (.cells #[.int .i64 xa, .int .i64 xs, .int .i64 xi, .int .i64 xc] 46)).alloc (.cells #[.int .i64 n, .int .i64 d] 48)) w4 := ⟨by (repeat (with_reducible first | exact Below.refl _ _ | assumption | refine Below.drewN _ ?_ | refine Below.drew ?_ | refine Below_alloc ?_ _ | refine Below.alloc ?_ (by first | (simp; done) | (simp; omega) | omega) _ | refine Below.setCell ?_ (by first | (simp; done) | (simp; omega) | omega) _ | refine Below_call ?_ (by assumption) | refine Below.trans ?_ (by assumption))), by (repeat (with_reducible first | exact Below.refl _ _ | assumption | refine Below.drewN _ ?_ | refine Below.drew ?_ | refine Below_alloc ?_ _ | refine Below.alloc ?_ (by first | (simp; done) | (simp; omega) | omega) _ | refine Below.setCell ?_ (by first | (simp; done) | (simp; omega) | omega) _ | refine Below_call ?_ (by assumption) | refine Below.trans ?_ (by assumption))), by (repeat (with_reducible first | exact Below.refl _ _ | assumption | refine Below.drewN _ ?_ | refine Below.drew ?_ | refine Below_alloc ?_ _ | refine Below.alloc ?_ (by first | (simp; done) | (simp; omega) | omega) _ | refine Below.setCell ?_ (by first | (simp; done) | (simp; omega) | omega) _ | refine Below_call ?_ (by assumption) | refine Below.trans ?_ (by assumption))), by (repeat (with_reducible first | exact Below.refl _ _ | assumption | refine Below.drewN _ ?_ | refine Below.drew ?_ | refine Below_alloc ?_ _ | refine Below.alloc ?_ (by first | (simp; done) | (simp; omega) | omega) _ | refine Below.setCell ?_ (by first | (simp; done) | (simp; omega) | omega) _ | refine Below_call ?_ (by assumption) | refine Below.trans ?_ (by assumption)))⟩
  obtain ⟨nx4, y0, y1, y2, y3⟩ := HQ.out.below hB4c
  have HP4 := hid (HP.out.below hB4c)
  obtain ⟨np4, z0, z1⟩ := HPB.out.below hB4a
  have HQ4 := hid (HQB.out.below hB4b)
  clear hb1 hb2 hb3 hb4 hB4a hB4b hB4c HQ HP HPB HQB
  go_wp2_with fail
  refine wp_mixC (fun wc => Below (w4.heap.size) w4 wc) 26 [.q [0, 1, 2, 3, 4, 5, 6, 7, 8, 9, 10, 11, 12, 13, 14, 15, 16, 17, 18, 19, 20], .f [21], .q [22, 23, 24, 25]] [] (by kernel_rfl) (by kernel_rfl) ((Below.refl _ _).drew) ?_
  intro Q' hQ'
  (rw [wpMixC]; simp only [pick, List.drop_succ_cons, List.drop_zero, List.head?_cons, Option.toList_some, List.cons_append, List.nil_append])
  (repeat (first | go_big_quiet_skip | (go_big_quiet_want; refine quiet_simple rfl ?_; go_big_quiet_op; go_big_quiet_on) | (go_big_quiet_want; refine quiet_agg4B (ty := 46) rfl rfl (by kernel_rfl) (by assumption) (by assumption) (by assumption) (by assumption) (by first | omega | (simp; omega)) ?_; simp only [Act.put, List.setIfInBounds_toArray, List.set_cons_succ, List.set_cons_zero]; go_big_quiet_on) | (go_big_quiet_want; refine quiet_agg2B (ty := 48) rfl rfl (by kernel_rfl) (by assumption) (by assumption) (by first | omega | (simp; omega)) ?_; simp only [Act.put, List.setIfInBounds_toArray, List.set_cons_succ, List.set_cons_zero]; go_big_quiet_on)))
  (try refine wpQuiet_nil ?_)
  (rw [wpMixC]; simp only [pick, List.drop_succ_cons, List.drop_zero, List.head?_cons, Option.toList_some, List.cons_append, List.nil_append])
  (rw [wpSteps]; go_wp2_with ((go_at_call 27; refine (RC.out _).mono ?_; rintro _ w5 ⟨rfl, hb5⟩)); rw [contF]; refine ⟨?_, ?_⟩; (next => (repeat (with_reducible first | exact Below.refl _ _ | assumption | refine Below.drewN _ ?_ | refine Below.drew ?_ | refine Below_alloc ?_ _ | refine Below.alloc ?_ (by first | (simp; done) | (simp; omega) | omega) _ | refine Below.setCell ?_ (by first | (simp; done) | (simp; omega) | omega) _ | refine Below_call ?_ (by assumption) | refine Below.trans ?_ (by assumption)))))
  (rw [wpSteps])
  (rw [wpMixC]; simp only [pick, List.drop_succ_cons, List.drop_zero, List.head?_cons, Option.toList_some, List.cons_append, List.nil_append])
  (repeat (first | go_big_quiet_skip | (go_big_quiet_want; refine quiet_simple rfl ?_; go_big_quiet_op; go_big_quiet_on) | (go_big_quiet_want; refine quiet_agg4B (ty := 46) rfl rfl (by kernel_rfl) (by assumption) (by assumption) (by assumption) (by assumption) (by first | omega | (simp; omega)) ?_; simp only [Act.put, List.setIfInBounds_toArray, List.set_cons_succ, List.set_cons_zero]; go_big_quiet_on) | (go_big_quiet_want; refine quiet_agg2B (ty := 48) rfl rfl (by kernel_rfl) (by assumption) (by assumption) (by first | omega | (simp; omega)) ?_; simp only [Act.put, List.setIfInBounds_toArray, List.set_cons_succ, List.set_cons_zero]; go_big_quiet_on)))
  (try refine wpQuiet_nil ?_)
  (rw [wpMixC])
  (rw [wpMix])
  (refine hQ' _ _ ?_)
  have hB5 : Below w4.heap.size w4 w5 := by (repeat (with_reducible first | exact Below.refl _ _ | assumption | refine Below.drewN _ ?_ | refine Below.drew ?_ | refine Below_alloc ?_ _ | refine Below.alloc ?_ (by first | (simp; done) | (simp; omega) | omega) _ | refine Below.setCell ?_ (by first | (simp; done) | (simp; omega) | omega) _ | refine Below_call ?_ (by assumption) | refine Below.trans ?_ (by assumption)))
  clear hb5
  obtain ⟨nc5, d0, d1⟩ := HP4.out.below hB5
  have HQ5 := hid (HQ4.out.below hB5)
  have HP5 := hid (HP4.out.below hB5)
  have hBW5 : Below w.heap.size w w5 := by (repeat (with_reducible first | exact Below.refl _ _ | assumption | refine Below.drewN _ ?_ | refine Below.drew ?_ | refine Below_alloc ?_ _ | refine Below.alloc ?_ (by first | (simp; done) | (simp; omega) | omega) _ | refine Below.setCell ?_ (by first | (simp; done) | (simp; omega) | omega) _ | refine Below_call ?_ (by assumption) | refine Below.trans ?_ (by assumption)))
  clear hB5 hB4
  go_wp2_with fail
  refine (RT.out _).mono ?_
  rintro _ w6 ⟨rfl, hb6⟩
  obtain ⟨nc6, e0, e1⟩ := HP5.out.below hb6
  obtain ⟨nq6, g0, g1⟩ := HQ5.out.below hb6
  have HQ6 := hid (HQ5.out.below hb6)
  go_wp2_with fail
  refine (RR.out _).mono ?_
  rintro _ w7 ⟨rfl, hb7⟩
  obtain ⟨nq7, f0, f1⟩ := HQ6.out.below hb7
  go_wp2_with fail
  go_ret
  exact ⟨by simp, by (repeat (with_reducible first | exact Below.refl _ _ | assumption | refine Below.drewN _ ?_ | refine Below.drew ?_ | refine Below_alloc ?_ _ | refine Below.alloc ?_ (by first | (simp; done) | (simp; omega) | omega) _ | refine Below.setCell ?_ (by first | (simp; done) | (simp; omega) | omega) _ | refine Below_call ?_ (by assumption) | refine Below.trans ?_ (by assumption)))⟩

set_option maxRecDepth 100000 in
set_option maxHeartbeats 4000000 in
theorem law_Chances_ol (xa xs xi xc n d t pn pd qn qd D : Int) (w : World) (q1 : (D == 0) = false) (q2 : (D != 0) = true)
    (HX : Hid (∀ W, Calls Try.prog 24 #[.agg #[.int .i64 xa, .int .i64 xs, .int .i64 xi, .int .i64 xc]] W fun e w' => e = .returned (.tuple #[.agg #[.int .i64 pn, .int .i64 pd], .int .i64 0]) ∧ Below W.heap.size W w'))
    (HT : Hid (∀ W, Calls Try.prog 25 #[.agg #[.int .i64 n, .int .i64 d], .int .i64 t] W fun e w' => e = .returned (.tuple #[.agg #[.int .i64 0, .int .i64 0], .int .i64 8]) ∧ Below W.heap.size W w'))
    (RE : Hid (∀ W, Calls Try.prog 26 #[.agg #[.int .i64 xa, .int .i64 xs, .int .i64 xi, .int .i64 xc]] W fun e w' => e = .returned (.int .i64 0) ∧ Below W.heap.size W w'))
    (RT : Hid (∀ W, Calls Try.prog 28 #[.agg #[.int .i64 n, .int .i64 d], .int .i64 t] W fun e w' => e = .returned (.int .i64 0) ∧ Below W.heap.size W w'))
    (RC : Hid (∀ W, Calls Try.prog 27 #[.agg #[.int .i64 xa, .int .i64 xs, .int .i64 xi, .int .i64 xc]] W fun e w' => e = .returned (.agg #[.int .i64 pn, .int .i64 pd]) ∧ Below W.heap.size W w'))
    (RR : Hid (∀ W, Calls Try.prog 29 #[.agg #[.int .i64 n, .int .i64 d], .int .i64 t] W fun e w' => e = .returned (.tuple #[.agg #[.int .i64 0, .int .i64 0], .bool false]) ∧ Below W.heap.size W w'))
    : Calls Try.prog 4 #[.agg #[.int .i64 xa, .int .i64 xs, .int .i64 xi, .int .i64 xc], .agg #[.int .i64 n, .int .i64 d], .int .i64 t] w fun e w' => e = .returned (.bool true) ∧ Below w.heap.size w w' := by
  have HQ : Hid (Quad ((w.alloc (.cells #[.int .i64 xa, .int .i64 xs, .int .i64 xi, .int .i64 xc] 46)).alloc (.cells #[.int .i64 n, .int .i64 d] 48)) w.heap.size (.int .i64 xa) (.int .i64 xs) (.int .i64 xi) (.int .i64 xc)) := hid ⟨by simp; omega, by simp, by simp, by simp, by simp⟩
  have HP : Hid (Pair2 ((w.alloc (.cells #[.int .i64 xa, .int .i64 xs, .int .i64 xi, .int .i64 xc] 46)).alloc (.cells #[.int .i64 n, .int .i64 d] 48)) (w.heap.size + 1) (.int .i64 n) (.int .i64 d)) := hid ⟨by simp, by simp, by simp⟩
  go_enter Try.func4, Try.ntmps4
  go_wp2_with (go_at_call 11; refine (law_awake _).mono ?_; rintro _ w1 ⟨rfl, hb1⟩; obtain ⟨nx, x0, x1, x2, x3⟩ := HQ.out.below (w' := w1) (by (repeat (with_reducible first | exact Below.refl _ _ | assumption | refine Below.drewN _ ?_ | refine Below.drew ?_ | refine Below_alloc ?_ _ | refine Below.alloc ?_ (by first | (simp; done) | (simp; omega) | omega) _ | refine Below.setCell ?_ (by first | (simp; done) | (simp; omega) | omega) _ | refine Below_call ?_ (by assumption) | refine Below.trans ?_ (by assumption)))))
  refine (HX.out _).mono ?_
  rintro _ w2 ⟨rfl, hb2⟩
  obtain ⟨nc, c0, c1⟩ := HP.out.below (w' := w2.alloc (.cells #[.int .i64 pn, .int .i64 pd] 48)) (by (repeat (with_reducible first | exact Below.refl _ _ | assumption | refine Below.drewN _ ?_ | refine Below.drew ?_ | refine Below_alloc ?_ _ | refine Below.alloc ?_ (by first | (simp; done) | (simp; omega) | omega) _ | refine Below.setCell ?_ (by first | (simp; done) | (simp; omega) | omega) _ | refine Below_call ?_ (by assumption) | refine Below.trans ?_ (by assumption))))
  have HPB : Hid (Pair2 (w2.alloc (.cells #[.int .i64 pn, .int .i64 pd] 48)) w2.heap.size (.int .i64 pn) (.int .i64 pd)) := hid ⟨by simp, by simp, by simp⟩
  go_wp2_with fail
  refine (HT.out _).mono ?_
  rintro _ w3 ⟨rfl, hb3⟩
  obtain ⟨nx, x0, x1, x2, x3⟩ := HQ.out.below (w' := w3.alloc (.cells #[.int .i64 0, .int .i64 0] 48)) (by (repeat (with_reducible first | exact Below.refl _ _ | assumption | refine Below.drewN _ ?_ | refine Below.drew ?_ | refine Below_alloc ?_ _ | refine Below.alloc ?_ (by first | (simp; done) | (simp; omega) | omega) _ | refine Below.setCell ?_ (by first | (simp; done) | (simp; omega) | omega) _ | refine Below_call ?_ (by assumption) | refine Below.trans ?_ (by assumption))))
  have HQB : Hid (Pair2 (w3.alloc (.cells #[.int .i64 0, .int .i64 0] 48)) w3.heap.size (.int .i64 0) (.int .i64 0)) := hid ⟨by simp, by simp, by simp⟩
  go_wp2_with fail
  refine (RE.out _).mono ?_
  rintro _ w4 ⟨rfl, hb4⟩
  obtain ⟨hB4, hB4a, hB4b, hB4c⟩ : Below w.heap.size w w4 ∧ Below (w2.alloc (.cells #[.int .i64 pn, .int .i64 pd] 48)).heap.size (w2.alloc (.cells #[.int .i64 pn, .int .i64 pd] 48)) w4 ∧ Below (w3.alloc (.cells #[.int .i64 0, .int .i64 0] 48)).heap.size (w3.alloc (.cells #[.int .i64 0, .int .i64 0] 48)) w4 ∧ Below ((w.alloc (.cells #[.int .i64 xa, .int .i64 xs, .int .i64 xi, .int .i64 xc] 46)).alloc (.cells #[.int .i64 n, .int .i64 d] 48)).heap.size ((w.alloc (.cells #[.int .i64 xa, .int .i64 xs, .int .i64 xi, .int .i64 xc] 46)).alloc (.cells #[.int .i64 n, .int .i64 d] 48)) w4 := ⟨by (repeat (with_reducible first | exact Below.refl _ _ | assumption | refine Below.drewN _ ?_ | refine Below.drew ?_ | refine Below_alloc ?_ _ | refine Below.alloc ?_ (by first | (simp; done) | (simp; omega) | omega) _ | refine Below.setCell ?_ (by first | (simp; done) | (simp; omega) | omega) _ | refine Below_call ?_ (by assumption) | refine Below.trans ?_ (by assumption))), by (repeat (with_reducible first | exact Below.refl _ _ | assumption | refine Below.drewN _ ?_ | refine Below.drew ?_ | refine Below_alloc ?_ _ | refine Below.alloc ?_ (by first | (simp; done) | (simp; omega) | omega) _ | refine Below.setCell ?_ (by first | (simp; done) | (simp; omega) | omega) _ | refine Below_call ?_ (by assumption) | refine Below.trans ?_ (by assumption))), by (repeat (with_reducible first | exact Below.refl _ _ | assumption | refine Below.drewN _ ?_ | refine Below.drew ?_ | refine Below_alloc ?_ _ | refine Below.alloc ?_ (by first | (simp; done) | (simp; omega) | omega) _ | refine Below.setCell ?_ (by first | (simp; done) | (simp; omega) | omega) _ | refine Below_call ?_ (by assumption) | refine Below.trans ?_ (by assumption))), by (repeat (with_reducible first | exact Below.refl _ _ | assumption | refine Below.drewN _ ?_ | refine Below.drew ?_ | refine Below_alloc ?_ _ | refine Below.alloc ?_ (by first | (simp; done) | (simp; omega) | omega) _ | refine Below.setCell ?_ (by first | (simp; done) | (simp; omega) | omega) _ | refine Below_call ?_ (by assumption) | refine Below.trans ?_ (by assumption)))⟩
  obtain ⟨nx4, y0, y1, y2, y3⟩ := HQ.out.below hB4c
  have HP4 := hid (HP.out.below hB4c)
  obtain ⟨np4, z0, z1⟩ := HPB.out.below hB4a
  have HQ4 := hid (HQB.out.below hB4b)
  clear hb1 hb2 hb3 hb4 hB4a hB4b hB4c HQ HP HPB HQB
  go_wp2_with fail
  refine wp_mixC (fun wc => Below (w4.heap.size) w4 wc) 26 [.q [0, 1, 2, 3, 4, 5, 6, 7, 8, 9, 10, 11, 12, 13, 14, 15, 16, 17, 18, 19, 20], .f [21], .q [22, 23, 24, 25]] [] (by kernel_rfl) (by kernel_rfl) ((Below.refl _ _).drew) ?_
  intro Q' hQ'
  (rw [wpMixC]; simp only [pick, List.drop_succ_cons, List.drop_zero, List.head?_cons, Option.toList_some, List.cons_append, List.nil_append])
  (repeat (first | go_big_quiet_skip | (go_big_quiet_want; refine quiet_simple rfl ?_; go_big_quiet_op; go_big_quiet_on) | (go_big_quiet_want; refine quiet_agg4B (ty := 46) rfl rfl (by kernel_rfl) (by assumption) (by assumption) (by assumption) (by assumption) (by first | omega | (simp; omega)) ?_; simp only [Act.put, List.setIfInBounds_toArray, List.set_cons_succ, List.set_cons_zero]; go_big_quiet_on) | (go_big_quiet_want; refine quiet_agg2B (ty := 48) rfl rfl (by kernel_rfl) (by assumption) (by assumption) (by first | omega | (simp; omega)) ?_; simp only [Act.put, List.setIfInBounds_toArray, List.set_cons_succ, List.set_cons_zero]; go_big_quiet_on)))
  (try refine wpQuiet_nil ?_)
  (rw [wpMixC]; simp only [pick, List.drop_succ_cons, List.drop_zero, List.head?_cons, Option.toList_some, List.cons_append, List.nil_append])
  (rw [wpSteps]; go_wp2_with ((go_at_call 27; refine (RC.out _).mono ?_; rintro _ w5 ⟨rfl, hb5⟩)); rw [contF]; refine ⟨?_, ?_⟩; (next => (repeat (with_reducible first | exact Below.refl _ _ | assumption | refine Below.drewN _ ?_ | refine Below.drew ?_ | refine Below_alloc ?_ _ | refine Below.alloc ?_ (by first | (simp; done) | (simp; omega) | omega) _ | refine Below.setCell ?_ (by first | (simp; done) | (simp; omega) | omega) _ | refine Below_call ?_ (by assumption) | refine Below.trans ?_ (by assumption)))))
  (rw [wpSteps])
  (rw [wpMixC]; simp only [pick, List.drop_succ_cons, List.drop_zero, List.head?_cons, Option.toList_some, List.cons_append, List.nil_append])
  (repeat (first | go_big_quiet_skip | (go_big_quiet_want; refine quiet_simple rfl ?_; go_big_quiet_op; go_big_quiet_on) | (go_big_quiet_want; refine quiet_agg4B (ty := 46) rfl rfl (by kernel_rfl) (by assumption) (by assumption) (by assumption) (by assumption) (by first | omega | (simp; omega)) ?_; simp only [Act.put, List.setIfInBounds_toArray, List.set_cons_succ, List.set_cons_zero]; go_big_quiet_on) | (go_big_quiet_want; refine quiet_agg2B (ty := 48) rfl rfl (by kernel_rfl) (by assumption) (by assumption) (by first | omega | (simp; omega)) ?_; simp only [Act.put, List.setIfInBounds_toArray, List.set_cons_succ, List.set_cons_zero]; go_big_quiet_on)))
  (try refine wpQuiet_nil ?_)
  (rw [wpMixC])
  (rw [wpMix])
  (refine hQ' _ _ ?_)
  have hB5 : Below w4.heap.size w4 w5 := by (repeat (with_reducible first | exact Below.refl _ _ | assumption | refine Below.drewN _ ?_ | refine Below.drew ?_ | refine Below_alloc ?_ _ | refine Below.alloc ?_ (by first | (simp; done) | (simp; omega) | omega) _ | refine Below.setCell ?_ (by first | (simp; done) | (simp; omega) | omega) _ | refine Below_call ?_ (by assumption) | refine Below.trans ?_ (by assumption)))
  clear hb5
  obtain ⟨nc5, d0, d1⟩ := HP4.out.below hB5
  have HQ5 := hid (HQ4.out.below hB5)
  have HP5 := hid (HP4.out.below hB5)
  have hBW5 : Below w.heap.size w w5 := by (repeat (with_reducible first | exact Below.refl _ _ | assumption | refine Below.drewN _ ?_ | refine Below.drew ?_ | refine Below_alloc ?_ _ | refine Below.alloc ?_ (by first | (simp; done) | (simp; omega) | omega) _ | refine Below.setCell ?_ (by first | (simp; done) | (simp; omega) | omega) _ | refine Below_call ?_ (by assumption) | refine Below.trans ?_ (by assumption)))
  clear hB5 hB4
  go_wp2_with fail
  refine (RT.out _).mono ?_
  rintro _ w6 ⟨rfl, hb6⟩
  obtain ⟨nc6, e0, e1⟩ := HP5.out.below hb6
  obtain ⟨nq6, g0, g1⟩ := HQ5.out.below hb6
  have HQ6 := hid (HQ5.out.below hb6)
  go_wp2_with fail
  refine (RR.out _).mono ?_
  rintro _ w7 ⟨rfl, hb7⟩
  obtain ⟨nq7, f0, f1⟩ := HQ6.out.below hb7
  go_wp2_with fail
  go_ret
  exact ⟨by simp, by (repeat (with_reducible first | exact Below.refl _ _ | assumption | refine Below.drewN _ ?_ | refine Below.drew ?_ | refine Below_alloc ?_ _ | refine Below.alloc ?_ (by first | (simp; done) | (simp; omega) | omega) _ | refine Below.setCell ?_ (by first | (simp; done) | (simp; omega) | omega) _ | refine Below_call ?_ (by assumption) | refine Below.trans ?_ (by assumption)))⟩

set_option maxRecDepth 100000 in
set_option maxHeartbeats 4000000 in
theorem law_Chances_ed (xa xs xi xc n d t pn pd qn qd D : Int) (w : World) (q1 : (D == 0) = false) (q2 : (D != 0) = true)
    (HX : Hid (∀ W, Calls Try.prog 24 #[.agg #[.int .i64 xa, .int .i64 xs, .int .i64 xi, .int .i64 xc]] W fun e w' => e = .returned (.tuple #[.agg #[.int .i64 0, .int .i64 0], .int .i64 2]) ∧ Below W.heap.size W w'))
    (HT : Hid (∀ W, Calls Try.prog 25 #[.agg #[.int .i64 n, .int .i64 d], .int .i64 t] W fun e w' => e = .returned (.tuple #[.agg #[.int .i64 0, .int .i64 0], .int .i64 D]) ∧ Below W.heap.size W w'))
    (RE : Hid (∀ W, Calls Try.prog 26 #[.agg #[.int .i64 xa, .int .i64 xs, .int .i64 xi, .int .i64 xc]] W fun e w' => e = .returned (.int .i64 2) ∧ Below W.heap.size W w'))
    (RT : Hid (∀ W, Calls Try.prog 28 #[.agg #[.int .i64 n, .int .i64 d], .int .i64 t] W fun e w' => e = .returned (.int .i64 D) ∧ Below W.heap.size W w'))
    : Calls Try.prog 4 #[.agg #[.int .i64 xa, .int .i64 xs, .int .i64 xi, .int .i64 xc], .agg #[.int .i64 n, .int .i64 d], .int .i64 t] w fun e w' => e = .returned (.bool true) ∧ Below w.heap.size w w' := by
  have HQ : Hid (Quad ((w.alloc (.cells #[.int .i64 xa, .int .i64 xs, .int .i64 xi, .int .i64 xc] 46)).alloc (.cells #[.int .i64 n, .int .i64 d] 48)) w.heap.size (.int .i64 xa) (.int .i64 xs) (.int .i64 xi) (.int .i64 xc)) := hid ⟨by simp; omega, by simp, by simp, by simp, by simp⟩
  have HP : Hid (Pair2 ((w.alloc (.cells #[.int .i64 xa, .int .i64 xs, .int .i64 xi, .int .i64 xc] 46)).alloc (.cells #[.int .i64 n, .int .i64 d] 48)) (w.heap.size + 1) (.int .i64 n) (.int .i64 d)) := hid ⟨by simp, by simp, by simp⟩
  go_enter Try.func4, Try.ntmps4
  go_wp2_with (go_at_call 11; refine (law_awake _).mono ?_; rintro _ w1 ⟨rfl, hb1⟩; obtain ⟨nx, x0, x1, x2, x3⟩ := HQ.out.below (w' := w1) (by (repeat (with_reducible first | exact Below.refl _ _ | assumption | refine Below.drewN _ ?_ | refine Below.drew ?_ | refine Below_alloc ?_ _ | refine Below.alloc ?_ (by first | (simp; done) | (simp; omega) | omega) _ | refine Below.setCell ?_ (by first | (simp; done) | (simp; omega) | omega) _ | refine Below_call ?_ (by assumption) | refine Below.trans ?_ (by assumption)))))
  refine (HX.out _).mono ?_
  rintro _ w2 ⟨rfl, hb2⟩
  obtain ⟨nc, c0, c1⟩ := HP.out.below (w' := w2.alloc (.cells #[.int .i64 0, .int .i64 0] 48)) (by (repeat (with_reducible first | exact Below.refl _ _ | assumption | refine Below.drewN _ ?_ | refine Below.drew ?_ | refine Below_alloc ?_ _ | refine Below.alloc ?_ (by first | (simp; done) | (simp; omega) | omega) _ | refine Below.setCell ?_ (by first | (simp; done) | (simp; omega) | omega) _ | refine Below_call ?_ (by assumption) | refine Below.trans ?_ (by assumption))))
  have HPB : Hid (Pair2 (w2.alloc (.cells #[.int .i64 0, .int .i64 0] 48)) w2.heap.size (.int .i64 0) (.int .i64 0)) := hid ⟨by simp, by simp, by simp⟩
  go_wp2_with fail
  refine (HT.out _).mono ?_
  rintro _ w3 ⟨rfl, hb3⟩
  obtain ⟨nx, x0, x1, x2, x3⟩ := HQ.out.below (w' := w3.alloc (.cells #[.int .i64 0, .int .i64 0] 48)) (by (repeat (with_reducible first | exact Below.refl _ _ | assumption | refine Below.drewN _ ?_ | refine Below.drew ?_ | refine Below_alloc ?_ _ | refine Below.alloc ?_ (by first | (simp; done) | (simp; omega) | omega) _ | refine Below.setCell ?_ (by first | (simp; done) | (simp; omega) | omega) _ | refine Below_call ?_ (by assumption) | refine Below.trans ?_ (by assumption))))
  have HQB : Hid (Pair2 (w3.alloc (.cells #[.int .i64 0, .int .i64 0] 48)) w3.heap.size (.int .i64 0) (.int .i64 0)) := hid ⟨by simp, by simp, by simp⟩
  go_wp2_with fail
  refine (RE.out _).mono ?_
  rintro _ w4 ⟨rfl, hb4⟩
  obtain ⟨hB4, hB4a, hB4b, hB4c⟩ : Below w.heap.size w w4 ∧ Below (w2.alloc (.cells #[.int .i64 0, .int .i64 0] 48)).heap.size (w2.alloc (.cells #[.int .i64 0, .int .i64 0] 48)) w4 ∧ Below (w3.alloc (.cells #[.int .i64 0, .int .i64 0] 48)).heap.size (w3.alloc (.cells #[.int .i64 0, .int .i64 0] 48)) w4 ∧ Below ((w.alloc (.cells #[.int .i64 xa, .int .i64 xs, .int .i64 xi, .int .i64 xc] 46)).alloc (.cells #[.int .i64 n, .int .i64 d] 48)).heap.size ((w.alloc (.cells #[.int .i64 xa, .int .i64 xs, .int .i64 xi, .int .i64 xc] 46)).alloc (.cells #[.int .i64 n, .int .i64 d] 48)) w4 := ⟨by (repeat (with_reducible first | exact Below.refl _ _ | assumption | refine Below.drewN _ ?_ | refine Below.drew ?_ | refine Below_alloc ?_ _ | refine Below.alloc ?_ (by first | (simp; done) | (simp; omega) | omega) _ | refine Below.setCell ?_ (by first | (simp; done) | (simp; omega) | omega) _ | refine Below_call ?_ (by assumption) | refine Below.trans ?_ (by assumption))), by (repeat (with_reducible first | exact Below.refl _ _ | assumption | refine Below.drewN _ ?_ | refine Below.drew ?_ | refine Below_alloc ?_ _ | refine Below.alloc ?_ (by first | (simp; done) | (simp; omega) | omega) _ | refine Below.setCell ?_ (by first | (simp; done) | (simp; omega) | omega) _ | refine Below_call ?_ (by assumption) | refine Below.trans ?_ (by assumption))), by (repeat (with_reducible first | exact Below.refl _ _ | assumption | refine Below.drewN _ ?_ | refine Below.drew ?_ | refine Below_alloc ?_ _ | refine Below.alloc ?_ (by first | (simp; done) | (simp; omega) | omega) _ | refine Below.setCell ?_ (by first | (simp; done) | (simp; omega) | omega) _ | refine Below_call ?_ (by assumption) | refine Below.trans ?_ (by assumption))), by (repeat (with_reducible first | exact Below.refl _ _ | assumption | refine Below.drewN _ ?_ | refine Below.drew ?_ | refine Below_alloc ?_ _ | refine Below.alloc ?_ (by first | (simp; done) | (simp; omega) | omega) _ | refine Below.setCell ?_ (by first | (simp; done) | (simp; omega) | omega) _ | refine Below_call ?_ (by assumption) | refine Below.trans ?_ (by assumption)))⟩
  obtain ⟨nx4, y0, y1, y2, y3⟩ := HQ.out.below hB4c
  have HP4 := hid (HP.out.below hB4c)
  obtain ⟨np4, z0, z1⟩ := HPB.out.below hB4a
  have HQ4 := hid (HQB.out.below hB4b)
  clear hb1 hb2 hb3 hb4 hB4a hB4b hB4c HQ HP HPB HQB
  go_wp2_with fail
  refine wp_mixC (fun wc => Below (w4.heap.size) w4 wc) 26 [.q [0, 1, 2, 3, 4, 5, 6, 7, 8, 9, 10, 11, 12, 13, 14, 15, 16, 17, 18, 19, 20], .f [21], .q [22, 23, 24, 25]] [] (by kernel_rfl) (by kernel_rfl) ((Below.refl _ _).drew) ?_
  intro Q' hQ'
  (rw [wpMixC]; simp only [pick, List.drop_succ_cons, List.drop_zero, List.head?_cons, Option.toList_some, List.cons_append, List.nil_append])
  (repeat (first | go_big_quiet_skip | (go_big_quiet_want; refine quiet_simple rfl ?_; go_big_quiet_op; go_big_quiet_on) | (go_big_quiet_want; refine quiet_agg4B (ty := 46) rfl rfl (by kernel_rfl) (by assumption) (by assumption) (by assumption) (by assumption) (by first | omega | (simp; omega)) ?_; simp only [Act.put, List.setIfInBounds_toArray, List.set_cons_succ, List.set_cons_zero]; go_big_quiet_on) | (go_big_quiet_want; refine quiet_agg2B (ty := 48) rfl rfl (by kernel_rfl) (by assumption) (by assumption) (by first | omega | (simp; omega)) ?_; simp only [Act.put, List.setIfInBounds_toArray, List.set_cons_succ, List.set_cons_zero]; go_big_quiet_on)))
  (try refine wpQuiet_nil ?_)
  (rw [wpMixC]; simp only [pick, List.drop_succ_cons, List.drop_zero, List.head?_cons, Option.toList_some, List.cons_append, List.nil_append])
  (rw [wpSteps]; go_wp2_with (fail); rw [contF]; refine ⟨?_, ?_⟩; (next => (repeat (with_reducible first | exact Below.refl _ _ | assumption | refine Below.drewN _ ?_ | refine Below.drew ?_ | refine Below_alloc ?_ _ | refine Below.alloc ?_ (by first | (simp; done) | (simp; omega) | omega) _ | refine Below.setCell ?_ (by first | (simp; done) | (simp; omega) | omega) _ | refine Below_call ?_ (by assumption) | refine Below.trans ?_ (by assumption)))))
  (rw [wpSteps])
  (rw [wpMixC]; simp only [pick, List.drop_succ_cons, List.drop_zero, List.head?_cons, Option.toList_some, List.cons_append, List.nil_append])
  (repeat (first | go_big_quiet_skip | (go_big_quiet_want; refine quiet_simple rfl ?_; go_big_quiet_op; go_big_quiet_on) | (go_big_quiet_want; refine quiet_agg4B (ty := 46) rfl rfl (by kernel_rfl) (by assumption) (by assumption) (by assumption) (by assumption) (by first | omega | (simp; omega)) ?_; simp only [Act.put, List.setIfInBounds_toArray, List.set_cons_succ, List.set_cons_zero]; go_big_quiet_on) | (go_big_quiet_want; refine quiet_agg2B (ty := 48) rfl rfl (by kernel_rfl) (by assumption) (by assumption) (by first | omega | (simp; omega)) ?_; simp only [Act.put, List.setIfInBounds_toArray, List.set_cons_succ, List.set_cons_zero]; go_big_quiet_on)))
  (try refine wpQuiet_nil ?_)
  (rw [wpMixC])
  (rw [wpMix])
  (refine hQ' _ _ ?_)
  obtain ⟨w5, hw5⟩ : ∃ w5, w5 = w4.drew := ⟨_, rfl⟩
  rw [← hw5]
  have hB5 : Below w4.heap.size w4 w5 := by rw [hw5]; (repeat (with_reducible first | exact Below.refl _ _ | assumption | refine Below.drewN _ ?_ | refine Below.drew ?_ | refine Below_alloc ?_ _ | refine Below.alloc ?_ (by first | (simp; done) | (simp; omega) | omega) _ | refine Below.setCell ?_ (by first | (simp; done) | (simp; omega) | omega) _ | refine Below_call ?_ (by assumption) | refine Below.trans ?_ (by assumption)))
  clear hw5
  obtain ⟨nc5, d0, d1⟩ := HP4.out.below hB5
  have HQ5 := hid (HQ4.out.below hB5)
  have HP5 := hid (HP4.out.below hB5)
  have hBW5 : Below w.heap.size w w5 := by (repeat (with_reducible first | exact Below.refl _ _ | assumption | refine Below.drewN _ ?_ | refine Below.drew ?_ | refine Below_alloc ?_ _ | refine Below.alloc ?_ (by first | (simp; done) | (simp; omega) | omega) _ | refine Below.setCell ?_ (by first | (simp; done) | (simp; omega) | omega) _ | refine Below_call ?_ (by assumption) | refine Below.trans ?_ (by assumption)))
  clear hB5 hB4
  go_wp2_with fail
  refine (RT.out _).mono ?_
  rintro _ w6 ⟨rfl, hb6⟩
  obtain ⟨nc6, e0, e1⟩ := HP5.out.below hb6
  obtain ⟨nq6, g0, g1⟩ := HQ5.out.below hb6
  go_wp2_with fail
  go_ret
  exact ⟨by simp, by (repeat (with_reducible first | exact Below.refl _ _ | assumption | refine Below.drewN _ ?_ | refine Below.drew ?_ | refine Below_alloc ?_ _ | refine Below.alloc ?_ (by first | (simp; done) | (simp; omega) | omega) _ | refine Below.setCell ?_ (by first | (simp; done) | (simp; omega) | omega) _ | refine Below_call ?_ (by assumption) | refine Below.trans ?_ (by assumption)))⟩

set_option maxRecDepth 100000 in
set_option maxHeartbeats 4000000 in
theorem law_Chances_eo (xa xs xi xc n d t pn pd qn qd D : Int) (w : World) (q1 : (D == 0) = false) (q2 : (D != 0) = true)
    (HX : Hid (∀ W, Calls Try.prog 24 #[.agg #[.int .i64 xa, .int .i64 xs, .int .i64 xi, .int .i64 xc]] W fun e w' => e = .returned (.tuple #[.agg #[.int .i64 0, .int .i64 0], .int .i64 2]) ∧ Below W.heap.size W w'))
    (HT : Hid (∀ W, Calls Try.prog 25 #[.agg #[.int .i64 n, .int .i64 d], .int .i64 t] W fun e w' => e = .returned (.tuple #[.agg #[.int .i64 qn, .int .i64 qd], .int .i64 0]) ∧ Below W.heap.size W w'))
    (RE : Hid (∀ W, Calls Try.prog 26 #[.agg #[.int .i64 xa, .int .i64 xs, .int .i64 xi, .int .i64 xc]] W fun e w' => e = .returned (.int .i64 2) ∧ Below W.heap.size W w'))
    (RT : Hid (∀ W, Calls Try.prog 28 #[.agg #[.int .i64 n, .int .i64 d], .int .i64 t] W fun e w' => e = .returned (.int .i64 0) ∧ Below W.heap.size W w'))
    (RR : Hid (∀ W, Calls Try.prog 29 #[.agg #[.int .i64 n, .int .i64 d], .int .i64 t] W fun e w' => e = .returned (.tuple #[.agg #[.int .i64 qn, .int .i64 qd], .bool true]) ∧ Below W.heap.size W w'))
    : Calls Try.prog 4 #[.agg #[.int .i64 xa, .int .i64 xs, .int .i64 xi, .int .i64 xc], .agg #[.int .i64 n, .int .i64 d], .int .i64 t] w fun e w' => e = .returned (.bool true) ∧ Below w.heap.size w w' := by
  have HQ : Hid (Quad ((w.alloc (.cells #[.int .i64 xa, .int .i64 xs, .int .i64 xi, .int .i64 xc] 46)).alloc (.cells #[.int .i64 n, .int .i64 d] 48)) w.heap.size (.int .i64 xa) (.int .i64 xs) (.int .i64 xi) (.int .i64 xc)) := hid ⟨by simp; omega, by simp, by simp, by simp, by simp⟩
  have HP : Hid (Pair2 ((w.alloc (.cells #[.int .i64 xa, .int .i64 xs, .int .i64 xi, .int .i64 xc] 46)).alloc (.cells #[.int .i64 n, .int .i64 d] 48)) (w.heap.size + 1) (.int .i64 n) (.int .i64 d)) := hid ⟨by simp, by simp, by simp⟩
  go_enter Try.func4, Try.ntmps4
  go_wp2_with (go_at_call 11; refine (law_awake _).mono ?_; rintro _ w1 ⟨rfl, hb1⟩; obtain ⟨nx, x0, x1, x2, x3⟩ := HQ.out.below (w' := w1) (by (repeat (with_reducible first | exact Below.refl _ _ | assumption | refine Below.drewN _ ?_ | refine Below.drew ?_ | refine Below_alloc ?_ _ | refine Below.alloc ?_ (by first | (simp; done) | (simp; omega) | omega) _ | refine Below.setCell ?_ (by first | (simp; done) | (simp; omega) | omega) _ | refine Below_call ?_ (by assumption) | refine Below.trans ?_ (by assumption)))))
  refine (HX.out _).mono ?_
  rintro _ w2 ⟨rfl, hb2⟩
  obtain ⟨nc, c0, c1⟩ := HP.out.below (w' := w2.alloc (.cells #[.int .i64 0, .int .i64 0] 48)) (by (repeat (with_reducible first | exact Below.refl _ _ | assumption | refine Below.drewN _ ?_ | refine Below.drew ?_ | refine Below_alloc ?_ _ | refine Below.alloc ?_ (by first | (simp; done) | (simp; omega) | omega) _ | refine Below.setCell ?_ (by first | (simp; done) | (simp; omega) | omega) _ | refine Below_call ?_ (by assumption) | refine Below.trans ?_ (by assumption))))
  have HPB : Hid (Pair2 (w2.alloc (.cells #[.int .i64 0, .int .i64 0] 48)) w2.heap.size (.int .i64 0) (.int .i64 0)) := hid ⟨by simp, by simp, by simp⟩
  go_wp2_with fail
  refine (HT.out _).mono ?_
  rintro _ w3 ⟨rfl, hb3⟩
  obtain ⟨nx, x0, x1, x2, x3⟩ := HQ.out.below (w' := w3.alloc (.cells #[.int .i64 qn, .int .i64 qd] 48)) (by (repeat (with_reducible first | exact Below.refl _ _ | assumption | refine Below.drewN _ ?_ | refine Below.drew ?_ | refine Below_alloc ?_ _ | refine Below.alloc ?_ (by first | (simp; done) | (simp; omega) | omega) _ | refine Below.setCell ?_ (by first | (simp; done) | (simp; omega) | omega) _ | refine Below_call ?_ (by assumption) | refine Below.trans ?_ (by assumption))))
  have HQB : Hid (Pair2 (w3.alloc (.cells #[.int .i64 qn, .int .i64 qd] 48)) w3.heap.size (.int .i64 qn) (.int .i64 qd)) := hid ⟨by simp, by simp, by simp⟩
  go_wp2_with fail
  refine (RE.out _).mono ?_
  rintro _ w4 ⟨rfl, hb4⟩
  obtain ⟨hB4, hB4a, hB4b, hB4c⟩ : Below w.heap.size w w4 ∧ Below (w2.alloc (.cells #[.int .i64 0, .int .i64 0] 48)).heap.size (w2.alloc (.cells #[.int .i64 0, .int .i64 0] 48)) w4 ∧ Below (w3.alloc (.cells #[.int .i64 qn, .int .i64 qd] 48)).heap.size (w3.alloc (.cells #[.int .i64 qn, .int .i64 qd] 48)) w4 ∧ Below ((w.alloc (.cells #[.int .i64 xa, .int .i64 xs, .int .i64 xi, .int .i64 xc] 46)).alloc (.cells #[.int .i64 n, .int .i64 d] 48)).heap.size ((w.alloc (.cells #[.int .i64 xa, .int .i64 xs, .int .i64 xi, .int .i64 xc] 46)).alloc (.cells #[.int .i64 n, .int .i64 d] 48)) w4 := ⟨by (repeat (with_reducible first | exact Below.refl _ _ | assumption | refine Below.drewN _ ?_ | refine Below.drew ?_ | refine Below_alloc ?_ _ | refine Below.alloc ?_ (by first | (simp; done) | (simp; omega) | omega) _ | refine Below.setCell ?_ (by first | (simp; done) | (simp; omega) | omega) _ | refine Below_call ?_ (by assumption) | refine Below.trans ?_ (by assumption))), by (repeat (with_reducible first | exact Below.refl _ _ | assumption | refine Below.drewN _ ?_ | refine Below.drew ?_ | refine Below_alloc ?_ _ | refine Below.alloc ?_ (by first | (simp; done) | (simp; omega) | omega) _ | refine Below.setCell ?_ (by first | (simp; done) | (simp; omega) | omega) _ | refine Below_call ?_ (by assumption) | refine Below.trans ?_ (by assumption))), by (repeat (with_reducible first | exact Below.refl _ _ | assumption | refine Below.drewN _ ?_ | refine Below.drew ?_ | refine Below_alloc ?_ _ | refine Below.alloc ?_ (by first | (simp; done) | (simp; omega) | omega) _ | refine Below.setCell ?_ (by first | (simp; done) | (simp; omega) | omega) _ | refine Below_call ?_ (by assumption) | refine Below.trans ?_ (by assumption))), by (repeat (with_reducible first | exact Below.refl _ _ | assumption | refine Below.drewN _ ?_ | refine Below.drew ?_ | refine Below_alloc ?_ _ | refine Below.alloc ?_ (by first | (simp; done) | (simp; omega) | omega) _ | refine Below.setCell ?_ (by first | (simp; done) | (simp; omega) | omega) _ | refine Below_call ?_ (by assumption) | refine Below.trans ?_ (by assumption)))⟩
  obtain ⟨nx4, y0, y1, y2, y3⟩ := HQ.out.below hB4c
  have HP4 := hid (HP.out.below hB4c)
  obtain ⟨np4, z0, z1⟩ := HPB.out.below hB4a
  have HQ4 := hid (HQB.out.below hB4b)
  clear hb1 hb2 hb3 hb4 hB4a hB4b hB4c HQ HP HPB HQB
  go_wp2_with fail
  refine wp_mixC (fun wc => Below (w4.heap.size) w4 wc) 26 [.q [0, 1, 2, 3, 4, 5, 6, 7, 8, 9, 10, 11, 12, 13, 14, 15, 16, 17, 18, 19, 20], .f [21], .q [22, 23, 24, 25]] [] (by kernel_rfl) (by kernel_rfl) ((Below.refl _ _).drew) ?_
  intro Q' hQ'
  (rw [wpMixC]; simp only [pick, List.drop_succ_cons, List.drop_zero, List.head?_cons, Option.toList_some, List.cons_append, List.nil_append])
  (repeat (first | go_big_quiet_skip | (go_big_quiet_want; refine quiet_simple rfl ?_; go_big_quiet_op; go_big_quiet_on) | (go_big_quiet_want; refine quiet_agg4B (ty := 46) rfl rfl (by kernel_rfl) (by assumption) (by assumption) (by assumption) (by assumption) (by first | omega | (simp; omega)) ?_; simp only [Act.put, List.setIfInBounds_toArray, List.set_cons_succ, List.set_cons_zero]; go_big_quiet_on) | (go_big_quiet_want; refine quiet_agg2B (ty := 48) rfl rfl (by kernel_rfl) (by assumption) (by assumption) (by first | omega | (simp; omega)) ?_; simp only [Act.put, List.setIfInBounds_toArray, List.set_cons_succ, List.set_cons_zero]; go_big_quiet_on)))
  (try refine wpQuiet_nil ?_)
  (rw [wpMixC]; simp only [pick, List.drop_succ_cons, List.drop_zero, List.head?_cons, Option.toList_some, List.cons_append, List.nil_append])
  (rw [wpSteps]; go_wp2_with (fail); rw [contF]; refine ⟨?_, ?_⟩; (next => (repeat (with_reducible first | exact Below.refl _ _ | assumption | refine Below.drewN _ ?_ | refine Below.drew ?_ | refine Below_alloc ?_ _ | refine Below.alloc ?_ (by first | (simp; done) | (simp; omega) | omega) _ | refine Below.setCell ?_ (by first | (simp; done) | (simp; omega) | omega) _ | refine Below_call ?_ (by assumption) | refine Below.trans ?_ (by assumption)))))
  (rw [wpSteps])
  (rw [wpMixC]; simp only [pick, List.drop_succ_cons, List.drop_zero, List.head?_cons, Option.toList_some, List.cons_append, List.nil_append])
  (repeat (first | go_big_quiet_skip | (go_big_quiet_want; refine quiet_simple rfl ?_; go_big_quiet_op; go_big_quiet_on) | (go_big_quiet_want; refine quiet_agg4B (ty := 46) rfl rfl (by kernel_rfl) (by assumption) (by assumption) (by assumption) (by assumption) (by first | omega | (simp; omega)) ?_; simp only [Act.put, List.setIfInBounds_toArray, List.set_cons_succ, List.set_cons_zero]; go_big_quiet_on) | (go_big_quiet_want; refine quiet_agg2B (ty := 48) rfl rfl (by kernel_rfl) (by assumption) (by assumption) (by first | omega | (simp; omega)) ?_; simp only [Act.put, List.setIfInBounds_toArray, List.set_cons_succ, List.set_cons_zero]; go_big_quiet_on)))
  (try refine wpQuiet_nil ?_)
  (rw [wpMixC])
  (rw [wpMix])
  (refine hQ' _ _ ?_)
  obtain ⟨w5, hw5⟩ : ∃ w5, w5 = w4.drew := ⟨_, rfl⟩
  rw [← hw5]
  have hB5 : Below w4.heap.size w4 w5 := by rw [hw5]; (repeat (with_reducible first | exact Below.refl _ _ | assumption | refine Below.drewN _ ?_ | refine Below.drew ?_ | refine Below_alloc ?_ _ | refine Below.alloc ?_ (by first | (simp; done) | (simp; omega) | omega) _ | refine Below.setCell ?_ (by first | (simp; done) | (simp; omega) | omega) _ | refine Below_call ?_ (by assumption) | refine Below.trans ?_ (by assumption)))
  clear hw5
  obtain ⟨nc5, d0, d1⟩ := HP4.out.below hB5
  have HQ5 := hid (HQ4.out.below hB5)
  have HP5 := hid (HP4.out.below hB5)
  have hBW5 : Below w.heap.size w w5 := by (repeat (with_reducible first | exact Below.refl _ _ | assumption | refine Below.drewN _ ?_ | refine Below.drew ?_ | refine Below_alloc ?_ _ | refine Below.alloc ?_ (by first | (simp; done) | (simp; omega) | omega) _ | refine Below.setCell ?_ (by first | (simp; done) | (simp; omega) | omega) _ | refine Below_call ?_ (by assumption) | refine Below.trans ?_ (by assumption)))
  clear hB5 hB4
  go_wp2_with fail
  refine (RT.out _).mono ?_
  rintro _ w6 ⟨rfl, hb6⟩
  obtain ⟨nc6, e0, e1⟩ := HP5.out.below hb6
  obtain ⟨nq6, g0, g1⟩ := HQ5.out.below hb6
  have HQ6 := hid (HQ5.out.below hb6)
  go_wp2_with fail
  refine (RR.out _).mono ?_
  rintro _ w7 ⟨rfl, hb7⟩
  obtain ⟨nq7, f0, f1⟩ := HQ6.out.below hb7
  go_wp2_with fail
  go_ret
  exact ⟨by simp, by (repeat (with_reducible first | exact Below.refl _ _ | assumption | refine Below.drewN _ ?_ | refine Below.drew ?_ | refine Below_alloc ?_ _ | refine Below.alloc ?_ (by first | (simp; done) | (simp; omega) | omega) _ | refine Below.setCell ?_ (by first | (simp; done) | (simp; omega) | omega) _ | refine Below_call ?_ (by assumption) | refine Below.trans ?_ (by assumption)))⟩

set_option maxRecDepth 100000 in
set_option maxHeartbeats 4000000 in
theorem law_Chances_el (xa xs xi xc n d t pn pd qn qd D : Int) (w : World) (q1 : (D == 0) = false) (q2 : (D != 0) = true)
    (HX : Hid (∀ W, Calls Try.prog 24 #[.agg #[.int .i64 xa, .int .i64 xs, .int .i64 xi, .int .i64 xc]] W fun e w' => e = .returned (.tuple #[.agg #[.int .i64 0, .int .i64 0], .int .i64 2]) ∧ Below W.heap.size W w'))
    (HT : Hid (∀ W, Calls Try.prog 25 #[.agg #[.int .i64 n, .int .i64 d], .int .i64 t] W fun e w' => e = .returned (.tuple #[.agg #[.int .i64 0, .int .i64 0], .int .i64 8]) ∧ Below W.heap.size W w'))
    (RE : Hid (∀ W, Calls Try.prog 26 #[.agg #[.int .i64 xa, .int .i64 xs, .int .i64 xi, .int .i64 xc]] W fun e w' => e = .returned (.int .i64 2) ∧ Below W.heap.size W w'))
    (RT : Hid (∀ W, Calls Try.prog 28 #[.agg #[.int .i64 n, .int .i64 d], .int .i64 t] W fun e w' => e = .returned (.int .i64 0) ∧ Below W.heap.size W w'))
    (RR : Hid (∀ W, Calls Try.prog 29 #[.agg #[.int .i64 n, .int .i64 d], .int .i64 t] W fun e w' => e = .returned (.tuple #[.agg #[.int .i64 0, .int .i64 0], .bool false]) ∧ Below W.heap.size W w'))
    : Calls Try.prog 4 #[.agg #[.int .i64 xa, .int .i64 xs, .int .i64 xi, .int .i64 xc], .agg #[.int .i64 n, .int .i64 d], .int .i64 t] w fun e w' => e = .returned (.bool true) ∧ Below w.heap.size w w' := by
  have HQ : Hid (Quad ((w.alloc (.cells #[.int .i64 xa, .int .i64 xs, .int .i64 xi, .int .i64 xc] 46)).alloc (.cells #[.int .i64 n, .int .i64 d] 48)) w.heap.size (.int .i64 xa) (.int .i64 xs) (.int .i64 xi) (.int .i64 xc)) := hid ⟨by simp; omega, by simp, by simp, by simp, by simp⟩
  have HP : Hid (Pair2 ((w.alloc (.cells #[.int .i64 xa, .int .i64 xs, .int .i64 xi, .int .i64 xc] 46)).alloc (.cells #[.int .i64 n, .int .i64 d] 48)) (w.heap.size + 1) (.int .i64 n) (.int .i64 d)) := hid ⟨by simp, by simp, by simp⟩
  go_enter Try.func4, Try.ntmps4
  go_wp2_with (go_at_call 11; refine (law_awake _).mono ?_; rintro _ w1 ⟨rfl, hb1⟩; obtain ⟨nx, x0, x1, x2, x3⟩ := HQ.out.below (w' := w1) (by (repeat (with_reducible first | exact Below.refl _ _ | assumption | refine Below.drewN _ ?_ | refine Below.drew ?_ | refine Below_alloc ?_ _ | refine Below.alloc ?_ (by first | (simp; done) | (simp; omega) | omega) _ | refine Below.setCell ?_ (by first | (simp; done) | (simp; omega) | omega) _ | refine Below_call ?_ (by assumption) | refine Below.trans ?_ (by assumption)))))
  refine (HX.out _).mono ?_
  rintro _ w2 ⟨rfl, hb2⟩
  obtain ⟨nc, c0, c1⟩ := HP.out.below (w' := w2.alloc (.cells #[.int .i64 0, .int .i64 0] 48)) (by (repeat (with_reducible first | exact Below.refl _ _ | assumption | refine Below.drewN _ ?_ | refine Below.drew ?_ | refine Below_alloc ?_ _ | refine Below.alloc ?_ (by first | (simp; done) | (simp; omega) | omega) _ | refine Below.setCell ?_ (by first | (simp; done) | (simp; omega) | omega) _ | refine Below_call ?_ (by assumption) | refine Below.trans ?_ (by assumption))))
  have HPB : Hid (Pair2 (w2.alloc (.cells #[.int .i64 0, .int .i64 0] 48)) w2.heap.size (.int .i64 0) (.int .i64 0)) := hid ⟨by simp, by simp, by simp⟩
  go_wp2_with fail
  refine (HT.out _).mono ?_
  rintro _ w3 ⟨rfl, hb3⟩
  obtain ⟨nx, x0, x1, x2, x3⟩ := HQ.out.below (w' := w3.alloc (.cells #[.int .i64 0, .int .i64 0] 48)) (by (repeat (with_reducible first | exact Below.refl _ _ | assumption | refine Below.drewN _ ?_ | refine Below.drew ?_ | refine Below_alloc ?_ _ | refine Below.alloc ?_ (by first | (simp; done) | (simp; omega) | omega) _ | refine Below.setCell ?_ (by first | (simp; done) | (simp; omega) | omega) _ | refine Below_call ?_ (by assumption) | refine Below.trans ?_ (by assumption))))
  have HQB : Hid (Pair2 (w3.alloc (.cells #[.int .i64 0, .int .i64 0] 48)) w3.heap.size (.int .i64 0) (.int .i64 0)) := hid ⟨by simp, by simp, by simp⟩
  go_wp2_with fail
  refine (RE.out _).mono ?_
  rintro _ w4 ⟨rfl, hb4⟩
  obtain ⟨hB4, hB4a, hB4b, hB4c⟩ : Below w.heap.size w w4 ∧ Below (w2.alloc (.cells #[.int .i64 0, .int .i64 0] 48)).heap.size (w2.alloc (.cells #[.int .i64 0, .int .i64 0] 48)) w4 ∧ Below (w3.alloc (.cells #[.int .i64 0, .int .i64 0] 48)).heap.size (w3.alloc (.cells #[.int .i64 0, .int .i64 0] 48)) w4 ∧ Below ((w.alloc (.cells #[.int .i64 xa, .int .i64 xs, .int .i64 xi, .int .i64 xc] 46)).alloc (.cells #[.int .i64 n, .int .i64 d] 48)).heap.size ((w.alloc (.cells #[.int .i64 xa, .int .i64 xs, .int .i64 xi, .int .i64 xc] 46)).alloc (.cells #[.int .i64 n, .int .i64 d] 48)) w4 := ⟨by (repeat (with_reducible first | exact Below.refl _ _ | assumption | refine Below.drewN _ ?_ | refine Below.drew ?_ | refine Below_alloc ?_ _ | refine Below.alloc ?_ (by first | (simp; done) | (simp; omega) | omega) _ | refine Below.setCell ?_ (by first | (simp; done) | (simp; omega) | omega) _ | refine Below_call ?_ (by assumption) | refine Below.trans ?_ (by assumption))), by (repeat (with_reducible first | exact Below.refl _ _ | assumption | refine Below.drewN _ ?_ | refine Below.drew ?_ | refine Below_alloc ?_ _ | refine Below.alloc ?_ (by first | (simp; done) | (simp; omega) | omega) _ | refine Below.setCell ?_ (by first | (simp; done) | (simp; omega) | omega) _ | refine Below_call ?_ (by assumption) | refine Below.trans ?_ (by assumption))), by (repeat (with_reducible first | exact Below.refl _ _ | assumption | refine Below.drewN _ ?_ | refine Below.drew ?_ | refine Below_alloc ?_ _ | refine Below.alloc ?_ (by first | (simp; done) | (simp; omega) | omega) _ | refine Below.setCell ?_ (by first | (simp; done) | (simp; omega) | omega) _ | refine Below_call ?_ (by assumption) | refine Below.trans ?_ (by assumption))), by (repeat (with_reducible first | exact Below.refl _ _ | assumption | refine Below.drewN _ ?_ | refine Below.drew ?_ | refine Below_alloc ?_ _ | refine Below.alloc ?_ (by first | (simp; done) | (simp; omega) | omega) _ | refine Below.setCell ?_ (by first | (simp; done) | (simp; omega) | omega) _ | refine Below_call ?_ (by assumption) | refine Below.trans ?_ (by assumption)))⟩
  obtain ⟨nx4, y0, y1, y2, y3⟩ := HQ.out.below hB4c
  have HP4 := hid (HP.out.below hB4c)
  obtain ⟨np4, z0, z1⟩ := HPB.out.below hB4a
  have HQ4 := hid (HQB.out.below hB4b)
  clear hb1 hb2 hb3 hb4 hB4a hB4b hB4c HQ HP HPB HQB
  go_wp2_with fail
  refine wp_mixC (fun wc => Below (w4.heap.size) w4 wc) 26 [.q [0, 1, 2, 3, 4, 5, 6, 7, 8, 9, 10, 11, 12, 13, 14, 15, 16, 17, 18, 19, 20], .f [21], .q [22, 23, 24, 25]] [] (by kernel_rfl) (by kernel_rfl) ((Below.refl _ _).drew) ?_
  intro Q' hQ'
  (rw [wpMixC]; simp only [pick, List.drop_succ_cons, List.drop_zero, List.head?_cons, Option.toList_some, List.cons_append, List.nil_append])
  (repeat (first | go_big_quiet_skip | (go_big_quiet_want; refine quiet_simple rfl ?_; go_big_quiet_op; go_big_quiet_on) | (go_big_quiet_want; refine quiet_agg4B (ty := 46) rfl rfl (by kernel_rfl) (by assumption) (by assumption) (by assumption) (by assumption) (by first | omega | (simp; omega)) ?_; simp only [Act.put, List.setIfInBounds_toArray, List.set_cons_succ, List.set_cons_zero]; go_big_quiet_on) | (go_big_quiet_want; refine quiet_agg2B (ty := 48) rfl rfl (by kernel_rfl) (by assumption) (by assumption) (by first | omega | (simp; omega)) ?_; simp only [Act.put, List.setIfInBounds_toArray, List.set_cons_succ, List.set_cons_zero]; go_big_quiet_on)))
  (try refine wpQuiet_nil ?_)
  (rw [wpMixC]; simp only [pick, List.drop_succ_cons, List.drop_zero, List.head?_cons, Option.toList_some, List.cons_append, List.nil_append])
  (rw [wpSteps]; go_wp2_with (fail); rw [contF]; refine ⟨?_, ?_⟩; (next => (repeat (with_reducible first | exact Below.refl _ _ | assumption | refine Below.drewN _ ?_ | refine Below.drew ?_ | refine Below_alloc ?_ _ | refine Below.alloc ?_ (by first | (simp; done) | (simp; omega) | omega) _ | refine Below.setCell ?_ (by first | (simp; done) | (simp; omega) | omega) _ | refine Below_call ?_ (by assumption) | refine Below.trans ?_ (by assumption)))))
  (rw [wpSteps])
  (rw [wpMixC]; simp only [pick, List.drop_succ_cons, List.drop_zero, List.head?_cons, Option.toList_some, List.cons_append, List.nil_append])
  (repeat (first | go_big_quiet_skip | (go_big_quiet_want; refine quiet_simple rfl ?_; go_big_quiet_op; go_big_quiet_on) | (go_big_quiet_want; refine quiet_agg4B (ty := 46) rfl rfl (by kernel_rfl) (by assumption) (by assumption) (by assumption) (by assumption) (by first | omega | (simp; omega)) ?_; simp only [Act.put, List.setIfInBounds_toArray, List.set_cons_succ, List.set_cons_zero]; go_big_quiet_on) | (go_big_quiet_want; refine quiet_agg2B (ty := 48) rfl rfl (by kernel_rfl) (by assumption) (by assumption) (by first | omega | (simp; omega)) ?_; simp only [Act.put, List.setIfInBounds_toArray, List.set_cons_succ, List.set_cons_zero]; go_big_quiet_on)))
  (try refine wpQuiet_nil ?_)
  (rw [wpMixC])
  (rw [wpMix])
  (refine hQ' _ _ ?_)
  obtain ⟨w5, hw5⟩ : ∃ w5, w5 = w4.drew := ⟨_, rfl⟩
  rw [← hw5]
  have hB5 : Below w4.heap.size w4 w5 := by rw [hw5]; (repeat (with_reducible first | exact Below.refl _ _ | assumption | refine Below.drewN _ ?_ | refine Below.drew ?_ | refine Below_alloc ?_ _ | refine Below.alloc ?_ (by first | (simp; done) | (simp; omega) | omega) _ | refine Below.setCell ?_ (by first | (simp; done) | (simp; omega) | omega) _ | refine Below_call ?_ (by assumption) | refine Below.trans ?_ (by assumption)))
  clear hw5
  obtain ⟨nc5, d0, d1⟩ := HP4.out.below hB5
  have HQ5 := hid (HQ4.out.below hB5)
  have HP5 := hid (HP4.out.below hB5)
  have hBW5 : Below w.heap.size w w5 := by (repeat (with_reducible first | exact Below.refl _ _ | assumption | refine Below.drewN _ ?_ | refine Below.drew ?_ | refine Below_alloc ?_ _ | refine Below.alloc ?_ (by first | (simp; done) | (simp; omega) | omega) _ | refine Below.setCell ?_ (by first | (simp; done) | (simp; omega) | omega) _ | refine Below_call ?_ (by assumption) | refine Below.trans ?_ (by assumption)))
  clear hB5 hB4
  go_wp2_with fail
  refine (RT.out _).mono ?_
  rintro _ w6 ⟨rfl, hb6⟩
  obtain ⟨nc6, e0, e1⟩ := HP5.out.below hb6
  obtain ⟨nq6, g0, g1⟩ := HQ5.out.below hb6
  have HQ6 := hid (HQ5.out.below hb6)
  go_wp2_with fail
  refine (RR.out _).mono ?_
  rintro _ w7 ⟨rfl, hb7⟩
  obtain ⟨nq7, f0, f1⟩ := HQ6.out.below hb7
  go_wp2_with fail
  go_ret
  exact ⟨by simp, by (repeat (with_reducible first | exact Below.refl _ _ | assumption | refine Below.drewN _ ?_ | refine Below.drew ?_ | refine Below_alloc ?_ _ | refine Below.alloc ?_ (by first | (simp; done) | (simp; omega) | omega) _ | refine Below.setCell ?_ (by first | (simp; done) | (simp; omega) | omega) _ | refine Below_call ?_ (by assumption) | refine Below.trans ?_ (by assumption)))⟩

end Go.Proofs.Ytllddidjiabegaa
