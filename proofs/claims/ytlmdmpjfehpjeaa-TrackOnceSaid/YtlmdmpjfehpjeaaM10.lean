/- Tracks: the law of first times, ways that end early. -/
import Derived.Test.YtlmdmpjfehpjeaaM9
set_option linter.unusedVariables false
set_option linter.unusedSimpArgs false
namespace Go.Proofs.Ytlmdmpjfehpjeaa
open Go.RowKit

theorem eight_row {w : World} {g : Nat} {x0 x1 x2 x3 x4 x5 x6 x7 : Value} {t : TypeId} (h : w.heap[g]? = some (.cells #[x0, x1, x2, x3, x4, x5, x6, x7] t (0, 0))) :
    w.cell? ⟨g, 0, none⟩ = some x0 ∧ w.cell? ⟨g, 1, none⟩ = some x1 ∧ w.cell? ⟨g, 2, none⟩ = some x2 ∧ w.cell? ⟨g, 3, none⟩ = some x3 ∧ w.cell? ⟨g, 4, none⟩ = some x4 ∧ w.cell? ⟨g, 5, none⟩ = some x5 ∧ w.cell? ⟨g, 6, none⟩ = some x6 ∧ w.cell? ⟨g, 7, none⟩ = some x7 ∧ g < w.heap.size := by
  refine ⟨?_, ?_, ?_, ?_, ?_, ?_, ?_, ?_, (Array.getElem?_eq_some_iff.1 h).1⟩
  · rw [cell_of_row w g 0 _ t (0, 0) h]; rfl
  · rw [cell_of_row w g 1 _ t (0, 0) h]; rfl
  · rw [cell_of_row w g 2 _ t (0, 0) h]; rfl
  · rw [cell_of_row w g 3 _ t (0, 0) h]; rfl
  · rw [cell_of_row w g 4 _ t (0, 0) h]; rfl
  · rw [cell_of_row w g 5 _ t (0, 0) h]; rfl
  · rw [cell_of_row w g 6 _ t (0, 0) h]; rfl
  · rw [cell_of_row w g 7 _ t (0, 0) h]; rfl

set_option maxRecDepth 100000 in
set_option maxHeartbeats 16000000 in
theorem once_E1 (px py pz tm tk lo hi li ea la no mi sx sy sz qx qy qz bx vy bz dt lt A : Int) (q : (A != 0) = true) (w : World)
    (RB : Hid (∀ W, Calls Try.prog 19 #[.agg #[.int .i64 px, .int .i64 py, .int .i64 pz, .int .i64 tm, .int .i64 tk, .int .i64 lo, .int .i64 hi, .int .i64 li, .int .i64 ea, .int .i64 la, .int .i64 no, .int .i64 mi], .agg #[.int .i64 sx, .int .i64 sy, .int .i64 sz]] W fun e w' => e = .returned (.int .i64 A) ∧ Below W.heap.size W w'))
    : Calls Try.prog 4 #[.agg #[.int .i64 px, .int .i64 py, .int .i64 pz, .int .i64 tm, .int .i64 tk, .int .i64 lo, .int .i64 hi, .int .i64 li, .int .i64 ea, .int .i64 la, .int .i64 no, .int .i64 mi], .agg #[.int .i64 sx, .int .i64 sy, .int .i64 sz], .agg #[.int .i64 qx, .int .i64 qy, .int .i64 qz, .int .i64 bx, .int .i64 vy, .int .i64 bz, .int .i64 dt, .int .i64 lt]] w fun e w' => e = .returned (.bool true) ∧ Below w.heap.size w w' := by
  have HA := hid law_awake5
  obtain ⟨W0, hW0⟩ : ∃ W0, W0 = ((w.alloc (.cells #[.int .i64 px, .int .i64 py, .int .i64 pz, .int .i64 tm, .int .i64 tk, .int .i64 lo, .int .i64 hi, .int .i64 li, .int .i64 ea, .int .i64 la, .int .i64 no, .int .i64 mi] 26)).alloc (.cells #[.int .i64 sx, .int .i64 sy, .int .i64 sz] 22)).alloc (.cells #[.int .i64 qx, .int .i64 qy, .int .i64 qz, .int .i64 bx, .int .i64 vy, .int .i64 bz, .int .i64 dt, .int .i64 lt] 57) := ⟨_, rfl⟩
  have hbW0 : Below w.heap.size w W0 := by rw [hW0]; (repeat (with_reducible first | exact Below.refl _ _ | assumption | refine Below.drewN _ ?_ | refine Below.drew ?_ | refine Below_alloc ?_ _ | refine Below.alloc ?_ (by first | (simp; done) | (simp; omega) | omega) _ | refine Below.setCell ?_ (by first | (simp; done) | (simp; omega) | omega) _ | refine Below_call ?_ (by assumption) | refine Below.trans ?_ (by assumption)))
  obtain ⟨q0, q1, q2⟩ := al3 w _ _ _ _ _ _ W0 hW0
  have l0 := (Array.getElem?_eq_some_iff.1 q0).1
  have l1 := (Array.getElem?_eq_some_iff.1 q1).1
  have l2 := (Array.getElem?_eq_some_iff.1 q2).1
  have Q0 := hid q0
  have Q1 := hid q1
  have Q2 := hid q2
  have hzW0 := hbW0.size
  clear q0 q1 q2
  go_enter Try.func4, Try.ntmps4
  go_wp2_with fail
  rw [← hW0]
  refine (HA.out _).mono ?_
  rintro _ w1 ⟨rfl, hb1⟩
  clear hW0
  have hb01 : Below W0.heap.size W0 w1 := hb1
  obtain ⟨m0, m1, m2, m3, m4, m5, m6, m7, m8, m9, m10, m11, ml⟩ := tw_cells ((hb01.block w.heap.size l0).trans Q0.out)
  obtain ⟨s0, s1, s2, fs0, fs1, fs2, hls⟩ := three_cells ((hb01.block (w.heap.size + 1) l1).trans Q1.out)
  clear fs0 fs1 fs2
  obtain ⟨x0, x1, x2, x3, x4, x5, x6, x7, hlx⟩ := eight_row ((hb01.block (w.heap.size + 1 + 1) l2).trans Q2.out)
  have hbf1 : Below w.heap.size w w1 := hbW0.trans (hb01.mono hzW0)
  go_wp2_with fail
  refine (RB.out _).mono ?_
  rintro _ w2 ⟨rfl, hb2⟩
  have hb02 : Below W0.heap.size W0 w2 := hb01.trans (hb2.mono hb01.size)
  clear m0 m1 m2 m3 m4 m5 m6 m7 m8 m9 m10 m11 ml s0 s1 s2 hls x0 x1 x2 x3 x4 x5 x6 x7 hlx
  obtain ⟨m0, m1, m2, m3, m4, m5, m6, m7, m8, m9, m10, m11, ml⟩ := tw_cells ((hb02.block w.heap.size l0).trans Q0.out)
  obtain ⟨s0, s1, s2, fs0, fs1, fs2, hls⟩ := three_cells ((hb02.block (w.heap.size + 1) l1).trans Q1.out)
  clear fs0 fs1 fs2
  obtain ⟨x0, x1, x2, x3, x4, x5, x6, x7, hlx⟩ := eight_row ((hb02.block (w.heap.size + 1 + 1) l2).trans Q2.out)
  have hbf2 : Below w.heap.size w w2 := hbW0.trans (hb02.mono hzW0)
  clear hbf1
  go_wp2_with fail
  go_ret
  exact ⟨rfl, hbf2⟩

set_option maxRecDepth 100000 in
set_option maxHeartbeats 16000000 in
theorem once_E2 (px py pz tm tk lo hi li ea la no mi sx sy sz qx qy qz bx vy bz dt lt P : Int) (q : (P != 0) = true) (w : World)
    (RB : Hid (∀ W, Calls Try.prog 19 #[.agg #[.int .i64 px, .int .i64 py, .int .i64 pz, .int .i64 tm, .int .i64 tk, .int .i64 lo, .int .i64 hi, .int .i64 li, .int .i64 ea, .int .i64 la, .int .i64 no, .int .i64 mi], .agg #[.int .i64 sx, .int .i64 sy, .int .i64 sz]] W fun e w' => e = .returned (.int .i64 0) ∧ Below W.heap.size W w'))
    (RP : Hid (∀ W, Calls Try.prog 21 #[.agg #[.int .i64 qx, .int .i64 qy, .int .i64 qz]] W fun e w' => e = .returned (.int .i64 P) ∧ Below W.heap.size W w'))
    : Calls Try.prog 4 #[.agg #[.int .i64 px, .int .i64 py, .int .i64 pz, .int .i64 tm, .int .i64 tk, .int .i64 lo, .int .i64 hi, .int .i64 li, .int .i64 ea, .int .i64 la, .int .i64 no, .int .i64 mi], .agg #[.int .i64 sx, .int .i64 sy, .int .i64 sz], .agg #[.int .i64 qx, .int .i64 qy, .int .i64 qz, .int .i64 bx, .int .i64 vy, .int .i64 bz, .int .i64 dt, .int .i64 lt]] w fun e w' => e = .returned (.bool true) ∧ Below w.heap.size w w' := by
  have HA := hid law_awake5
  obtain ⟨W0, hW0⟩ : ∃ W0, W0 = ((w.alloc (.cells #[.int .i64 px, .int .i64 py, .int .i64 pz, .int .i64 tm, .int .i64 tk, .int .i64 lo, .int .i64 hi, .int .i64 li, .int .i64 ea, .int .i64 la, .int .i64 no, .int .i64 mi] 26)).alloc (.cells #[.int .i64 sx, .int .i64 sy, .int .i64 sz] 22)).alloc (.cells #[.int .i64 qx, .int .i64 qy, .int .i64 qz, .int .i64 bx, .int .i64 vy, .int .i64 bz, .int .i64 dt, .int .i64 lt] 57) := ⟨_, rfl⟩
  have hbW0 : Below w.heap.size w W0 := by rw [hW0]; (repeat (with_reducible first | exact Below.refl _ _ | assumption | refine Below.drewN _ ?_ | refine Below.drew ?_ | refine Below_alloc ?_ _ | refine Below.alloc ?_ (by first | (simp; done) | (simp; omega) | omega) _ | refine Below.setCell ?_ (by first | (simp; done) | (simp; omega) | omega) _ | refine Below_call ?_ (by assumption) | refine Below.trans ?_ (by assumption)))
  obtain ⟨q0, q1, q2⟩ := al3 w _ _ _ _ _ _ W0 hW0
  have l0 := (Array.getElem?_eq_some_iff.1 q0).1
  have l1 := (Array.getElem?_eq_some_iff.1 q1).1
  have l2 := (Array.getElem?_eq_some_iff.1 q2).1
  have Q0 := hid q0
  have Q1 := hid q1
  have Q2 := hid q2
  have hzW0 := hbW0.size
  clear q0 q1 q2
  go_enter Try.func4, Try.ntmps4
  go_wp2_with fail
  rw [← hW0]
  refine (HA.out _).mono ?_
  rintro _ w1 ⟨rfl, hb1⟩
  clear hW0
  have hb01 : Below W0.heap.size W0 w1 := hb1
  obtain ⟨m0, m1, m2, m3, m4, m5, m6, m7, m8, m9, m10, m11, ml⟩ := tw_cells ((hb01.block w.heap.size l0).trans Q0.out)
  obtain ⟨s0, s1, s2, fs0, fs1, fs2, hls⟩ := three_cells ((hb01.block (w.heap.size + 1) l1).trans Q1.out)
  clear fs0 fs1 fs2
  obtain ⟨x0, x1, x2, x3, x4, x5, x6, x7, hlx⟩ := eight_row ((hb01.block (w.heap.size + 1 + 1) l2).trans Q2.out)
  have hbf1 : Below w.heap.size w w1 := hbW0.trans (hb01.mono hzW0)
  go_wp2_with fail
  refine (RB.out _).mono ?_
  rintro _ w2 ⟨rfl, hb2⟩
  have hb02 : Below W0.heap.size W0 w2 := hb01.trans (hb2.mono hb01.size)
  clear m0 m1 m2 m3 m4 m5 m6 m7 m8 m9 m10 m11 ml s0 s1 s2 hls x0 x1 x2 x3 x4 x5 x6 x7 hlx
  obtain ⟨m0, m1, m2, m3, m4, m5, m6, m7, m8, m9, m10, m11, ml⟩ := tw_cells ((hb02.block w.heap.size l0).trans Q0.out)
  obtain ⟨s0, s1, s2, fs0, fs1, fs2, hls⟩ := three_cells ((hb02.block (w.heap.size + 1) l1).trans Q1.out)
  clear fs0 fs1 fs2
  obtain ⟨x0, x1, x2, x3, x4, x5, x6, x7, hlx⟩ := eight_row ((hb02.block (w.heap.size + 1 + 1) l2).trans Q2.out)
  have hbf2 : Below w.heap.size w w2 := hbW0.trans (hb02.mono hzW0)
  clear hbf1
  go_wp2_with fail
  refine (RP.out _).mono ?_
  rintro _ w3 ⟨rfl, hb3⟩
  have hb03 : Below W0.heap.size W0 w3 := hb02.trans (hb3.mono hb02.size)
  clear m0 m1 m2 m3 m4 m5 m6 m7 m8 m9 m10 m11 ml s0 s1 s2 hls x0 x1 x2 x3 x4 x5 x6 x7 hlx
  obtain ⟨m0, m1, m2, m3, m4, m5, m6, m7, m8, m9, m10, m11, ml⟩ := tw_cells ((hb03.block w.heap.size l0).trans Q0.out)
  obtain ⟨s0, s1, s2, fs0, fs1, fs2, hls⟩ := three_cells ((hb03.block (w.heap.size + 1) l1).trans Q1.out)
  clear fs0 fs1 fs2
  obtain ⟨x0, x1, x2, x3, x4, x5, x6, x7, hlx⟩ := eight_row ((hb03.block (w.heap.size + 1 + 1) l2).trans Q2.out)
  have hbf3 : Below w.heap.size w w3 := hbW0.trans (hb03.mono hzW0)
  clear hbf2
  go_wp2_with fail
  go_ret
  exact ⟨rfl, hbf3⟩

set_option maxRecDepth 100000 in
set_option maxHeartbeats 16000000 in
theorem once_E3 (px py pz tm tk lo hi li ea la no mi sx sy sz qx qy qz bx vy bz dt lt : Int)  (w : World)
    (RB : Hid (∀ W, Calls Try.prog 19 #[.agg #[.int .i64 px, .int .i64 py, .int .i64 pz, .int .i64 tm, .int .i64 tk, .int .i64 lo, .int .i64 hi, .int .i64 li, .int .i64 ea, .int .i64 la, .int .i64 no, .int .i64 mi], .agg #[.int .i64 sx, .int .i64 sy, .int .i64 sz]] W fun e w' => e = .returned (.int .i64 0) ∧ Below W.heap.size W w'))
    (RP : Hid (∀ W, Calls Try.prog 21 #[.agg #[.int .i64 qx, .int .i64 qy, .int .i64 qz]] W fun e w' => e = .returned (.int .i64 0) ∧ Below W.heap.size W w'))
    (HL : Hid (∀ W, Calls Try.prog 26 #[.int .i64 lt, .int .i64 0, .int .i64 1000] W fun e w' => e = .returned (.bool false) ∧ W = w'))
    : Calls Try.prog 4 #[.agg #[.int .i64 px, .int .i64 py, .int .i64 pz, .int .i64 tm, .int .i64 tk, .int .i64 lo, .int .i64 hi, .int .i64 li, .int .i64 ea, .int .i64 la, .int .i64 no, .int .i64 mi], .agg #[.int .i64 sx, .int .i64 sy, .int .i64 sz], .agg #[.int .i64 qx, .int .i64 qy, .int .i64 qz, .int .i64 bx, .int .i64 vy, .int .i64 bz, .int .i64 dt, .int .i64 lt]] w fun e w' => e = .returned (.bool true) ∧ Below w.heap.size w w' := by
  have HA := hid law_awake5
  obtain ⟨W0, hW0⟩ : ∃ W0, W0 = ((w.alloc (.cells #[.int .i64 px, .int .i64 py, .int .i64 pz, .int .i64 tm, .int .i64 tk, .int .i64 lo, .int .i64 hi, .int .i64 li, .int .i64 ea, .int .i64 la, .int .i64 no, .int .i64 mi] 26)).alloc (.cells #[.int .i64 sx, .int .i64 sy, .int .i64 sz] 22)).alloc (.cells #[.int .i64 qx, .int .i64 qy, .int .i64 qz, .int .i64 bx, .int .i64 vy, .int .i64 bz, .int .i64 dt, .int .i64 lt] 57) := ⟨_, rfl⟩
  have hbW0 : Below w.heap.size w W0 := by rw [hW0]; (repeat (with_reducible first | exact Below.refl _ _ | assumption | refine Below.drewN _ ?_ | refine Below.drew ?_ | refine Below_alloc ?_ _ | refine Below.alloc ?_ (by first | (simp; done) | (simp; omega) | omega) _ | refine Below.setCell ?_ (by first | (simp; done) | (simp; omega) | omega) _ | refine Below_call ?_ (by assumption) | refine Below.trans ?_ (by assumption)))
  obtain ⟨q0, q1, q2⟩ := al3 w _ _ _ _ _ _ W0 hW0
  have l0 := (Array.getElem?_eq_some_iff.1 q0).1
  have l1 := (Array.getElem?_eq_some_iff.1 q1).1
  have l2 := (Array.getElem?_eq_some_iff.1 q2).1
  have Q0 := hid q0
  have Q1 := hid q1
  have Q2 := hid q2
  have hzW0 := hbW0.size
  clear q0 q1 q2
  go_enter Try.func4, Try.ntmps4
  go_wp2_with fail
  rw [← hW0]
  refine (HA.out _).mono ?_
  rintro _ w1 ⟨rfl, hb1⟩
  clear hW0
  have hb01 : Below W0.heap.size W0 w1 := hb1
  obtain ⟨m0, m1, m2, m3, m4, m5, m6, m7, m8, m9, m10, m11, ml⟩ := tw_cells ((hb01.block w.heap.size l0).trans Q0.out)
  obtain ⟨s0, s1, s2, fs0, fs1, fs2, hls⟩ := three_cells ((hb01.block (w.heap.size + 1) l1).trans Q1.out)
  clear fs0 fs1 fs2
  obtain ⟨x0, x1, x2, x3, x4, x5, x6, x7, hlx⟩ := eight_row ((hb01.block (w.heap.size + 1 + 1) l2).trans Q2.out)
  have hbf1 : Below w.heap.size w w1 := hbW0.trans (hb01.mono hzW0)
  go_wp2_with fail
  refine (RB.out _).mono ?_
  rintro _ w2 ⟨rfl, hb2⟩
  have hb02 : Below W0.heap.size W0 w2 := hb01.trans (hb2.mono hb01.size)
  clear m0 m1 m2 m3 m4 m5 m6 m7 m8 m9 m10 m11 ml s0 s1 s2 hls x0 x1 x2 x3 x4 x5 x6 x7 hlx
  obtain ⟨m0, m1, m2, m3, m4, m5, m6, m7, m8, m9, m10, m11, ml⟩ := tw_cells ((hb02.block w.heap.size l0).trans Q0.out)
  obtain ⟨s0, s1, s2, fs0, fs1, fs2, hls⟩ := three_cells ((hb02.block (w.heap.size + 1) l1).trans Q1.out)
  clear fs0 fs1 fs2
  obtain ⟨x0, x1, x2, x3, x4, x5, x6, x7, hlx⟩ := eight_row ((hb02.block (w.heap.size + 1 + 1) l2).trans Q2.out)
  have hbf2 : Below w.heap.size w w2 := hbW0.trans (hb02.mono hzW0)
  clear hbf1
  go_wp2_with fail
  refine (RP.out _).mono ?_
  rintro _ w3 ⟨rfl, hb3⟩
  have hb03 : Below W0.heap.size W0 w3 := hb02.trans (hb3.mono hb02.size)
  clear m0 m1 m2 m3 m4 m5 m6 m7 m8 m9 m10 m11 ml s0 s1 s2 hls x0 x1 x2 x3 x4 x5 x6 x7 hlx
  obtain ⟨m0, m1, m2, m3, m4, m5, m6, m7, m8, m9, m10, m11, ml⟩ := tw_cells ((hb03.block w.heap.size l0).trans Q0.out)
  obtain ⟨s0, s1, s2, fs0, fs1, fs2, hls⟩ := three_cells ((hb03.block (w.heap.size + 1) l1).trans Q1.out)
  clear fs0 fs1 fs2
  obtain ⟨x0, x1, x2, x3, x4, x5, x6, x7, hlx⟩ := eight_row ((hb03.block (w.heap.size + 1 + 1) l2).trans Q2.out)
  have hbf3 : Below w.heap.size w w3 := hbW0.trans (hb03.mono hzW0)
  clear hbf2
  go_wp2_with fail
  refine (HL.out _).mono ?_
  rintro _ _ ⟨rfl, rfl⟩
  go_wp2_with fail
  go_ret
  exact ⟨rfl, hbf3⟩

set_option maxRecDepth 100000 in
set_option maxHeartbeats 16000000 in
theorem once_E4 (px py pz tm tk lo hi li ea la no mi sx sy sz qx qy qz bx vy bz dt lt : Int)  (w : World)
    (RB : Hid (∀ W, Calls Try.prog 19 #[.agg #[.int .i64 px, .int .i64 py, .int .i64 pz, .int .i64 tm, .int .i64 tk, .int .i64 lo, .int .i64 hi, .int .i64 li, .int .i64 ea, .int .i64 la, .int .i64 no, .int .i64 mi], .agg #[.int .i64 sx, .int .i64 sy, .int .i64 sz]] W fun e w' => e = .returned (.int .i64 0) ∧ Below W.heap.size W w'))
    (RP : Hid (∀ W, Calls Try.prog 21 #[.agg #[.int .i64 qx, .int .i64 qy, .int .i64 qz]] W fun e w' => e = .returned (.int .i64 0) ∧ Below W.heap.size W w'))
    (HL : Hid (∀ W, Calls Try.prog 26 #[.int .i64 lt, .int .i64 0, .int .i64 1000] W fun e w' => e = .returned (.bool true) ∧ W = w'))
    (HT : Hid (∀ W, Calls Try.prog 26 #[.int .i64 dt, .int .i64 (-1000), .int .i64 1000] W fun e w' => e = .returned (.bool false) ∧ W = w'))
    : Calls Try.prog 4 #[.agg #[.int .i64 px, .int .i64 py, .int .i64 pz, .int .i64 tm, .int .i64 tk, .int .i64 lo, .int .i64 hi, .int .i64 li, .int .i64 ea, .int .i64 la, .int .i64 no, .int .i64 mi], .agg #[.int .i64 sx, .int .i64 sy, .int .i64 sz], .agg #[.int .i64 qx, .int .i64 qy, .int .i64 qz, .int .i64 bx, .int .i64 vy, .int .i64 bz, .int .i64 dt, .int .i64 lt]] w fun e w' => e = .returned (.bool true) ∧ Below w.heap.size w w' := by
  have HA := hid law_awake5
  obtain ⟨W0, hW0⟩ : ∃ W0, W0 = ((w.alloc (.cells #[.int .i64 px, .int .i64 py, .int .i64 pz, .int .i64 tm, .int .i64 tk, .int .i64 lo, .int .i64 hi, .int .i64 li, .int .i64 ea, .int .i64 la, .int .i64 no, .int .i64 mi] 26)).alloc (.cells #[.int .i64 sx, .int .i64 sy, .int .i64 sz] 22)).alloc (.cells #[.int .i64 qx, .int .i64 qy, .int .i64 qz, .int .i64 bx, .int .i64 vy, .int .i64 bz, .int .i64 dt, .int .i64 lt] 57) := ⟨_, rfl⟩
  have hbW0 : Below w.heap.size w W0 := by rw [hW0]; (repeat (with_reducible first | exact Below.refl _ _ | assumption | refine Below.drewN _ ?_ | refine Below.drew ?_ | refine Below_alloc ?_ _ | refine Below.alloc ?_ (by first | (simp; done) | (simp; omega) | omega) _ | refine Below.setCell ?_ (by first | (simp; done) | (simp; omega) | omega) _ | refine Below_call ?_ (by assumption) | refine Below.trans ?_ (by assumption)))
  obtain ⟨q0, q1, q2⟩ := al3 w _ _ _ _ _ _ W0 hW0
  have l0 := (Array.getElem?_eq_some_iff.1 q0).1
  have l1 := (Array.getElem?_eq_some_iff.1 q1).1
  have l2 := (Array.getElem?_eq_some_iff.1 q2).1
  have Q0 := hid q0
  have Q1 := hid q1
  have Q2 := hid q2
  have hzW0 := hbW0.size
  clear q0 q1 q2
  go_enter Try.func4, Try.ntmps4
  go_wp2_with fail
  rw [← hW0]
  refine (HA.out _).mono ?_
  rintro _ w1 ⟨rfl, hb1⟩
  clear hW0
  have hb01 : Below W0.heap.size W0 w1 := hb1
  obtain ⟨m0, m1, m2, m3, m4, m5, m6, m7, m8, m9, m10, m11, ml⟩ := tw_cells ((hb01.block w.heap.size l0).trans Q0.out)
  obtain ⟨s0, s1, s2, fs0, fs1, fs2, hls⟩ := three_cells ((hb01.block (w.heap.size + 1) l1).trans Q1.out)
  clear fs0 fs1 fs2
  obtain ⟨x0, x1, x2, x3, x4, x5, x6, x7, hlx⟩ := eight_row ((hb01.block (w.heap.size + 1 + 1) l2).trans Q2.out)
  have hbf1 : Below w.heap.size w w1 := hbW0.trans (hb01.mono hzW0)
  go_wp2_with fail
  refine (RB.out _).mono ?_
  rintro _ w2 ⟨rfl, hb2⟩
  have hb02 : Below W0.heap.size W0 w2 := hb01.trans (hb2.mono hb01.size)
  clear m0 m1 m2 m3 m4 m5 m6 m7 m8 m9 m10 m11 ml s0 s1 s2 hls x0 x1 x2 x3 x4 x5 x6 x7 hlx
  obtain ⟨m0, m1, m2, m3, m4, m5, m6, m7, m8, m9, m10, m11, ml⟩ := tw_cells ((hb02.block w.heap.size l0).trans Q0.out)
  obtain ⟨s0, s1, s2, fs0, fs1, fs2, hls⟩ := three_cells ((hb02.block (w.heap.size + 1) l1).trans Q1.out)
  clear fs0 fs1 fs2
  obtain ⟨x0, x1, x2, x3, x4, x5, x6, x7, hlx⟩ := eight_row ((hb02.block (w.heap.size + 1 + 1) l2).trans Q2.out)
  have hbf2 : Below w.heap.size w w2 := hbW0.trans (hb02.mono hzW0)
  clear hbf1
  go_wp2_with fail
  refine (RP.out _).mono ?_
  rintro _ w3 ⟨rfl, hb3⟩
  have hb03 : Below W0.heap.size W0 w3 := hb02.trans (hb3.mono hb02.size)
  clear m0 m1 m2 m3 m4 m5 m6 m7 m8 m9 m10 m11 ml s0 s1 s2 hls x0 x1 x2 x3 x4 x5 x6 x7 hlx
  obtain ⟨m0, m1, m2, m3, m4, m5, m6, m7, m8, m9, m10, m11, ml⟩ := tw_cells ((hb03.block w.heap.size l0).trans Q0.out)
  obtain ⟨s0, s1, s2, fs0, fs1, fs2, hls⟩ := three_cells ((hb03.block (w.heap.size + 1) l1).trans Q1.out)
  clear fs0 fs1 fs2
  obtain ⟨x0, x1, x2, x3, x4, x5, x6, x7, hlx⟩ := eight_row ((hb03.block (w.heap.size + 1 + 1) l2).trans Q2.out)
  have hbf3 : Below w.heap.size w w3 := hbW0.trans (hb03.mono hzW0)
  clear hbf2
  go_wp2_with fail
  refine (HL.out _).mono ?_
  rintro _ _ ⟨rfl, rfl⟩
  go_wp2_with fail
  refine (HT.out _).mono ?_
  rintro _ _ ⟨rfl, rfl⟩
  go_wp2_with fail
  go_ret
  exact ⟨rfl, hbf3⟩

set_option maxRecDepth 100000 in
set_option maxHeartbeats 16000000 in
theorem once_E5 (px py pz tm tk lo hi li ea la no mi sx sy sz qx qy qz bx vy bz dt lt : Int)  (w : World)
    (RB : Hid (∀ W, Calls Try.prog 19 #[.agg #[.int .i64 px, .int .i64 py, .int .i64 pz, .int .i64 tm, .int .i64 tk, .int .i64 lo, .int .i64 hi, .int .i64 li, .int .i64 ea, .int .i64 la, .int .i64 no, .int .i64 mi], .agg #[.int .i64 sx, .int .i64 sy, .int .i64 sz]] W fun e w' => e = .returned (.int .i64 0) ∧ Below W.heap.size W w'))
    (RP : Hid (∀ W, Calls Try.prog 21 #[.agg #[.int .i64 qx, .int .i64 qy, .int .i64 qz]] W fun e w' => e = .returned (.int .i64 0) ∧ Below W.heap.size W w'))
    (HL : Hid (∀ W, Calls Try.prog 26 #[.int .i64 lt, .int .i64 0, .int .i64 1000] W fun e w' => e = .returned (.bool true) ∧ W = w'))
    (HT : Hid (∀ W, Calls Try.prog 26 #[.int .i64 dt, .int .i64 (-1000), .int .i64 1000] W fun e w' => e = .returned (.bool true) ∧ W = w'))
    (Hbx : Hid (∀ W, Calls Try.prog 26 #[.int .i64 bx, .int .i64 (-1000), .int .i64 1000] W fun e w' => e = .returned (.bool false) ∧ W = w'))
    : Calls Try.prog 4 #[.agg #[.int .i64 px, .int .i64 py, .int .i64 pz, .int .i64 tm, .int .i64 tk, .int .i64 lo, .int .i64 hi, .int .i64 li, .int .i64 ea, .int .i64 la, .int .i64 no, .int .i64 mi], .agg #[.int .i64 sx, .int .i64 sy, .int .i64 sz], .agg #[.int .i64 qx, .int .i64 qy, .int .i64 qz, .int .i64 bx, .int .i64 vy, .int .i64 bz, .int .i64 dt, .int .i64 lt]] w fun e w' => e = .returned (.bool true) ∧ Below w.heap.size w w' := by
  have HA := hid law_awake5
  obtain ⟨W0, hW0⟩ : ∃ W0, W0 = ((w.alloc (.cells #[.int .i64 px, .int .i64 py, .int .i64 pz, .int .i64 tm, .int .i64 tk, .int .i64 lo, .int .i64 hi, .int .i64 li, .int .i64 ea, .int .i64 la, .int .i64 no, .int .i64 mi] 26)).alloc (.cells #[.int .i64 sx, .int .i64 sy, .int .i64 sz] 22)).alloc (.cells #[.int .i64 qx, .int .i64 qy, .int .i64 qz, .int .i64 bx, .int .i64 vy, .int .i64 bz, .int .i64 dt, .int .i64 lt] 57) := ⟨_, rfl⟩
  have hbW0 : Below w.heap.size w W0 := by rw [hW0]; (repeat (with_reducible first | exact Below.refl _ _ | assumption | refine Below.drewN _ ?_ | refine Below.drew ?_ | refine Below_alloc ?_ _ | refine Below.alloc ?_ (by first | (simp; done) | (simp; omega) | omega) _ | refine Below.setCell ?_ (by first | (simp; done) | (simp; omega) | omega) _ | refine Below_call ?_ (by assumption) | refine Below.trans ?_ (by assumption)))
  obtain ⟨q0, q1, q2⟩ := al3 w _ _ _ _ _ _ W0 hW0
  have l0 := (Array.getElem?_eq_some_iff.1 q0).1
  have l1 := (Array.getElem?_eq_some_iff.1 q1).1
  have l2 := (Array.getElem?_eq_some_iff.1 q2).1
  have Q0 := hid q0
  have Q1 := hid q1
  have Q2 := hid q2
  have hzW0 := hbW0.size
  clear q0 q1 q2
  go_enter Try.func4, Try.ntmps4
  go_wp2_with fail
  rw [← hW0]
  refine (HA.out _).mono ?_
  rintro _ w1 ⟨rfl, hb1⟩
  clear hW0
  have hb01 : Below W0.heap.size W0 w1 := hb1
  obtain ⟨m0, m1, m2, m3, m4, m5, m6, m7, m8, m9, m10, m11, ml⟩ := tw_cells ((hb01.block w.heap.size l0).trans Q0.out)
  obtain ⟨s0, s1, s2, fs0, fs1, fs2, hls⟩ := three_cells ((hb01.block (w.heap.size + 1) l1).trans Q1.out)
  clear fs0 fs1 fs2
  obtain ⟨x0, x1, x2, x3, x4, x5, x6, x7, hlx⟩ := eight_row ((hb01.block (w.heap.size + 1 + 1) l2).trans Q2.out)
  have hbf1 : Below w.heap.size w w1 := hbW0.trans (hb01.mono hzW0)
  go_wp2_with fail
  refine (RB.out _).mono ?_
  rintro _ w2 ⟨rfl, hb2⟩
  have hb02 : Below W0.heap.size W0 w2 := hb01.trans (hb2.mono hb01.size)
  clear m0 m1 m2 m3 m4 m5 m6 m7 m8 m9 m10 m11 ml s0 s1 s2 hls x0 x1 x2 x3 x4 x5 x6 x7 hlx
  obtain ⟨m0, m1, m2, m3, m4, m5, m6, m7, m8, m9, m10, m11, ml⟩ := tw_cells ((hb02.block w.heap.size l0).trans Q0.out)
  obtain ⟨s0, s1, s2, fs0, fs1, fs2, hls⟩ := three_cells ((hb02.block (w.heap.size + 1) l1).trans Q1.out)
  clear fs0 fs1 fs2
  obtain ⟨x0, x1, x2, x3, x4, x5, x6, x7, hlx⟩ := eight_row ((hb02.block (w.heap.size + 1 + 1) l2).trans Q2.out)
  have hbf2 : Below w.heap.size w w2 := hbW0.trans (hb02.mono hzW0)
  clear hbf1
  go_wp2_with fail
  refine (RP.out _).mono ?_
  rintro _ w3 ⟨rfl, hb3⟩
  have hb03 : Below W0.heap.size W0 w3 := hb02.trans (hb3.mono hb02.size)
  clear m0 m1 m2 m3 m4 m5 m6 m7 m8 m9 m10 m11 ml s0 s1 s2 hls x0 x1 x2 x3 x4 x5 x6 x7 hlx
  obtain ⟨m0, m1, m2, m3, m4, m5, m6, m7, m8, m9, m10, m11, ml⟩ := tw_cells ((hb03.block w.heap.size l0).trans Q0.out)
  obtain ⟨s0, s1, s2, fs0, fs1, fs2, hls⟩ := three_cells ((hb03.block (w.heap.size + 1) l1).trans Q1.out)
  clear fs0 fs1 fs2
  obtain ⟨x0, x1, x2, x3, x4, x5, x6, x7, hlx⟩ := eight_row ((hb03.block (w.heap.size + 1 + 1) l2).trans Q2.out)
  have hbf3 : Below w.heap.size w w3 := hbW0.trans (hb03.mono hzW0)
  clear hbf2
  go_wp2_with fail
  refine (HL.out _).mono ?_
  rintro _ _ ⟨rfl, rfl⟩
  go_wp2_with fail
  refine (HT.out _).mono ?_
  rintro _ _ ⟨rfl, rfl⟩
  go_wp2_with fail
  refine wp_loop_rounds 4 ?_
  rw [rounds_succ]
  go_wp2_with fail
  refine (Hbx.out _).mono ?_
  rintro _ _ ⟨rfl, rfl⟩
  go_wp2_with fail
  go_ret
  exact ⟨rfl, hbf3⟩

set_option maxRecDepth 100000 in
set_option maxHeartbeats 16000000 in
theorem once_E6 (px py pz tm tk lo hi li ea la no mi sx sy sz qx qy qz bx vy bz dt lt : Int)  (w : World)
    (RB : Hid (∀ W, Calls Try.prog 19 #[.agg #[.int .i64 px, .int .i64 py, .int .i64 pz, .int .i64 tm, .int .i64 tk, .int .i64 lo, .int .i64 hi, .int .i64 li, .int .i64 ea, .int .i64 la, .int .i64 no, .int .i64 mi], .agg #[.int .i64 sx, .int .i64 sy, .int .i64 sz]] W fun e w' => e = .returned (.int .i64 0) ∧ Below W.heap.size W w'))
    (RP : Hid (∀ W, Calls Try.prog 21 #[.agg #[.int .i64 qx, .int .i64 qy, .int .i64 qz]] W fun e w' => e = .returned (.int .i64 0) ∧ Below W.heap.size W w'))
    (HL : Hid (∀ W, Calls Try.prog 26 #[.int .i64 lt, .int .i64 0, .int .i64 1000] W fun e w' => e = .returned (.bool true) ∧ W = w'))
    (HT : Hid (∀ W, Calls Try.prog 26 #[.int .i64 dt, .int .i64 (-1000), .int .i64 1000] W fun e w' => e = .returned (.bool true) ∧ W = w'))
    (Hbx : Hid (∀ W, Calls Try.prog 26 #[.int .i64 bx, .int .i64 (-1000), .int .i64 1000] W fun e w' => e = .returned (.bool true) ∧ W = w'))
    (Hvy : Hid (∀ W, Calls Try.prog 26 #[.int .i64 vy, .int .i64 (-1000), .int .i64 1000] W fun e w' => e = .returned (.bool false) ∧ W = w'))
    : Calls Try.prog 4 #[.agg #[.int .i64 px, .int .i64 py, .int .i64 pz, .int .i64 tm, .int .i64 tk, .int .i64 lo, .int .i64 hi, .int .i64 li, .int .i64 ea, .int .i64 la, .int .i64 no, .int .i64 mi], .agg #[.int .i64 sx, .int .i64 sy, .int .i64 sz], .agg #[.int .i64 qx, .int .i64 qy, .int .i64 qz, .int .i64 bx, .int .i64 vy, .int .i64 bz, .int .i64 dt, .int .i64 lt]] w fun e w' => e = .returned (.bool true) ∧ Below w.heap.size w w' := by
  have HA := hid law_awake5
  obtain ⟨W0, hW0⟩ : ∃ W0, W0 = ((w.alloc (.cells #[.int .i64 px, .int .i64 py, .int .i64 pz, .int .i64 tm, .int .i64 tk, .int .i64 lo, .int .i64 hi, .int .i64 li, .int .i64 ea, .int .i64 la, .int .i64 no, .int .i64 mi] 26)).alloc (.cells #[.int .i64 sx, .int .i64 sy, .int .i64 sz] 22)).alloc (.cells #[.int .i64 qx, .int .i64 qy, .int .i64 qz, .int .i64 bx, .int .i64 vy, .int .i64 bz, .int .i64 dt, .int .i64 lt] 57) := ⟨_, rfl⟩
  have hbW0 : Below w.heap.size w W0 := by rw [hW0]; (repeat (with_reducible first | exact Below.refl _ _ | assumption | refine Below.drewN _ ?_ | refine Below.drew ?_ | refine Below_alloc ?_ _ | refine Below.alloc ?_ (by first | (simp; done) | (simp; omega) | omega) _ | refine Below.setCell ?_ (by first | (simp; done) | (simp; omega) | omega) _ | refine Below_call ?_ (by assumption) | refine Below.trans ?_ (by assumption)))
  obtain ⟨q0, q1, q2⟩ := al3 w _ _ _ _ _ _ W0 hW0
  have l0 := (Array.getElem?_eq_some_iff.1 q0).1
  have l1 := (Array.getElem?_eq_some_iff.1 q1).1
  have l2 := (Array.getElem?_eq_some_iff.1 q2).1
  have Q0 := hid q0
  have Q1 := hid q1
  have Q2 := hid q2
  have hzW0 := hbW0.size
  clear q0 q1 q2
  go_enter Try.func4, Try.ntmps4
  go_wp2_with fail
  rw [← hW0]
  refine (HA.out _).mono ?_
  rintro _ w1 ⟨rfl, hb1⟩
  clear hW0
  have hb01 : Below W0.heap.size W0 w1 := hb1
  obtain ⟨m0, m1, m2, m3, m4, m5, m6, m7, m8, m9, m10, m11, ml⟩ := tw_cells ((hb01.block w.heap.size l0).trans Q0.out)
  obtain ⟨s0, s1, s2, fs0, fs1, fs2, hls⟩ := three_cells ((hb01.block (w.heap.size + 1) l1).trans Q1.out)
  clear fs0 fs1 fs2
  obtain ⟨x0, x1, x2, x3, x4, x5, x6, x7, hlx⟩ := eight_row ((hb01.block (w.heap.size + 1 + 1) l2).trans Q2.out)
  have hbf1 : Below w.heap.size w w1 := hbW0.trans (hb01.mono hzW0)
  go_wp2_with fail
  refine (RB.out _).mono ?_
  rintro _ w2 ⟨rfl, hb2⟩
  have hb02 : Below W0.heap.size W0 w2 := hb01.trans (hb2.mono hb01.size)
  clear m0 m1 m2 m3 m4 m5 m6 m7 m8 m9 m10 m11 ml s0 s1 s2 hls x0 x1 x2 x3 x4 x5 x6 x7 hlx
  obtain ⟨m0, m1, m2, m3, m4, m5, m6, m7, m8, m9, m10, m11, ml⟩ := tw_cells ((hb02.block w.heap.size l0).trans Q0.out)
  obtain ⟨s0, s1, s2, fs0, fs1, fs2, hls⟩ := three_cells ((hb02.block (w.heap.size + 1) l1).trans Q1.out)
  clear fs0 fs1 fs2
  obtain ⟨x0, x1, x2, x3, x4, x5, x6, x7, hlx⟩ := eight_row ((hb02.block (w.heap.size + 1 + 1) l2).trans Q2.out)
  have hbf2 : Below w.heap.size w w2 := hbW0.trans (hb02.mono hzW0)
  clear hbf1
  go_wp2_with fail
  refine (RP.out _).mono ?_
  rintro _ w3 ⟨rfl, hb3⟩
  have hb03 : Below W0.heap.size W0 w3 := hb02.trans (hb3.mono hb02.size)
  clear m0 m1 m2 m3 m4 m5 m6 m7 m8 m9 m10 m11 ml s0 s1 s2 hls x0 x1 x2 x3 x4 x5 x6 x7 hlx
  obtain ⟨m0, m1, m2, m3, m4, m5, m6, m7, m8, m9, m10, m11, ml⟩ := tw_cells ((hb03.block w.heap.size l0).trans Q0.out)
  obtain ⟨s0, s1, s2, fs0, fs1, fs2, hls⟩ := three_cells ((hb03.block (w.heap.size + 1) l1).trans Q1.out)
  clear fs0 fs1 fs2
  obtain ⟨x0, x1, x2, x3, x4, x5, x6, x7, hlx⟩ := eight_row ((hb03.block (w.heap.size + 1 + 1) l2).trans Q2.out)
  have hbf3 : Below w.heap.size w w3 := hbW0.trans (hb03.mono hzW0)
  clear hbf2
  go_wp2_with fail
  refine (HL.out _).mono ?_
  rintro _ _ ⟨rfl, rfl⟩
  go_wp2_with fail
  refine (HT.out _).mono ?_
  rintro _ _ ⟨rfl, rfl⟩
  go_wp2_with fail
  refine wp_loop_rounds 4 ?_
  rw [rounds_succ]
  go_wp2_with fail
  refine (Hbx.out _).mono ?_
  rintro _ _ ⟨rfl, rfl⟩
  go_wp2_with fail
  rw [rounds_succ]
  go_wp2_with fail
  refine (Hvy.out _).mono ?_
  rintro _ _ ⟨rfl, rfl⟩
  go_wp2_with fail
  go_ret
  exact ⟨rfl, hbf3⟩

set_option maxRecDepth 100000 in
set_option maxHeartbeats 16000000 in
theorem once_E7 (px py pz tm tk lo hi li ea la no mi sx sy sz qx qy qz bx vy bz dt lt : Int)  (w : World)
    (RB : Hid (∀ W, Calls Try.prog 19 #[.agg #[.int .i64 px, .int .i64 py, .int .i64 pz, .int .i64 tm, .int .i64 tk, .int .i64 lo, .int .i64 hi, .int .i64 li, .int .i64 ea, .int .i64 la, .int .i64 no, .int .i64 mi], .agg #[.int .i64 sx, .int .i64 sy, .int .i64 sz]] W fun e w' => e = .returned (.int .i64 0) ∧ Below W.heap.size W w'))
    (RP : Hid (∀ W, Calls Try.prog 21 #[.agg #[.int .i64 qx, .int .i64 qy, .int .i64 qz]] W fun e w' => e = .returned (.int .i64 0) ∧ Below W.heap.size W w'))
    (HL : Hid (∀ W, Calls Try.prog 26 #[.int .i64 lt, .int .i64 0, .int .i64 1000] W fun e w' => e = .returned (.bool true) ∧ W = w'))
    (HT : Hid (∀ W, Calls Try.prog 26 #[.int .i64 dt, .int .i64 (-1000), .int .i64 1000] W fun e w' => e = .returned (.bool true) ∧ W = w'))
    (Hbx : Hid (∀ W, Calls Try.prog 26 #[.int .i64 bx, .int .i64 (-1000), .int .i64 1000] W fun e w' => e = .returned (.bool true) ∧ W = w'))
    (Hvy : Hid (∀ W, Calls Try.prog 26 #[.int .i64 vy, .int .i64 (-1000), .int .i64 1000] W fun e w' => e = .returned (.bool true) ∧ W = w'))
    (Hbz : Hid (∀ W, Calls Try.prog 26 #[.int .i64 bz, .int .i64 (-1000), .int .i64 1000] W fun e w' => e = .returned (.bool false) ∧ W = w'))
    : Calls Try.prog 4 #[.agg #[.int .i64 px, .int .i64 py, .int .i64 pz, .int .i64 tm, .int .i64 tk, .int .i64 lo, .int .i64 hi, .int .i64 li, .int .i64 ea, .int .i64 la, .int .i64 no, .int .i64 mi], .agg #[.int .i64 sx, .int .i64 sy, .int .i64 sz], .agg #[.int .i64 qx, .int .i64 qy, .int .i64 qz, .int .i64 bx, .int .i64 vy, .int .i64 bz, .int .i64 dt, .int .i64 lt]] w fun e w' => e = .returned (.bool true) ∧ Below w.heap.size w w' := by
  have HA := hid law_awake5
  obtain ⟨W0, hW0⟩ : ∃ W0, W0 = ((w.alloc (.cells #[.int .i64 px, .int .i64 py, .int .i64 pz, .int .i64 tm, .int .i64 tk, .int .i64 lo, .int .i64 hi, .int .i64 li, .int .i64 ea, .int .i64 la, .int .i64 no, .int .i64 mi] 26)).alloc (.cells #[.int .i64 sx, .int .i64 sy, .int .i64 sz] 22)).alloc (.cells #[.int .i64 qx, .int .i64 qy, .int .i64 qz, .int .i64 bx, .int .i64 vy, .int .i64 bz, .int .i64 dt, .int .i64 lt] 57) := ⟨_, rfl⟩
  have hbW0 : Below w.heap.size w W0 := by rw [hW0]; (repeat (with_reducible first | exact Below.refl _ _ | assumption | refine Below.drewN _ ?_ | refine Below.drew ?_ | refine Below_alloc ?_ _ | refine Below.alloc ?_ (by first | (simp; done) | (simp; omega) | omega) _ | refine Below.setCell ?_ (by first | (simp; done) | (simp; omega) | omega) _ | refine Below_call ?_ (by assumption) | refine Below.trans ?_ (by assumption)))
  obtain ⟨q0, q1, q2⟩ := al3 w _ _ _ _ _ _ W0 hW0
  have l0 := (Array.getElem?_eq_some_iff.1 q0).1
  have l1 := (Array.getElem?_eq_some_iff.1 q1).1
  have l2 := (Array.getElem?_eq_some_iff.1 q2).1
  have Q0 := hid q0
  have Q1 := hid q1
  have Q2 := hid q2
  have hzW0 := hbW0.size
  clear q0 q1 q2
  go_enter Try.func4, Try.ntmps4
  go_wp2_with fail
  rw [← hW0]
  refine (HA.out _).mono ?_
  rintro _ w1 ⟨rfl, hb1⟩
  clear hW0
  have hb01 : Below W0.heap.size W0 w1 := hb1
  obtain ⟨m0, m1, m2, m3, m4, m5, m6, m7, m8, m9, m10, m11, ml⟩ := tw_cells ((hb01.block w.heap.size l0).trans Q0.out)
  obtain ⟨s0, s1, s2, fs0, fs1, fs2, hls⟩ := three_cells ((hb01.block (w.heap.size + 1) l1).trans Q1.out)
  clear fs0 fs1 fs2
  obtain ⟨x0, x1, x2, x3, x4, x5, x6, x7, hlx⟩ := eight_row ((hb01.block (w.heap.size + 1 + 1) l2).trans Q2.out)
  have hbf1 : Below w.heap.size w w1 := hbW0.trans (hb01.mono hzW0)
  go_wp2_with fail
  refine (RB.out _).mono ?_
  rintro _ w2 ⟨rfl, hb2⟩
  have hb02 : Below W0.heap.size W0 w2 := hb01.trans (hb2.mono hb01.size)
  clear m0 m1 m2 m3 m4 m5 m6 m7 m8 m9 m10 m11 ml s0 s1 s2 hls x0 x1 x2 x3 x4 x5 x6 x7 hlx
  obtain ⟨m0, m1, m2, m3, m4, m5, m6, m7, m8, m9, m10, m11, ml⟩ := tw_cells ((hb02.block w.heap.size l0).trans Q0.out)
  obtain ⟨s0, s1, s2, fs0, fs1, fs2, hls⟩ := three_cells ((hb02.block (w.heap.size + 1) l1).trans Q1.out)
  clear fs0 fs1 fs2
  obtain ⟨x0, x1, x2, x3, x4, x5, x6, x7, hlx⟩ := eight_row ((hb02.block (w.heap.size + 1 + 1) l2).trans Q2.out)
  have hbf2 : Below w.heap.size w w2 := hbW0.trans (hb02.mono hzW0)
  clear hbf1
  go_wp2_with fail
  refine (RP.out _).mono ?_
  rintro _ w3 ⟨rfl, hb3⟩
  have hb03 : Below W0.heap.size W0 w3 := hb02.trans (hb3.mono hb02.size)
  clear m0 m1 m2 m3 m4 m5 m6 m7 m8 m9 m10 m11 ml s0 s1 s2 hls x0 x1 x2 x3 x4 x5 x6 x7 hlx
  obtain ⟨m0, m1, m2, m3, m4, m5, m6, m7, m8, m9, m10, m11, ml⟩ := tw_cells ((hb03.block w.heap.size l0).trans Q0.out)
  obtain ⟨s0, s1, s2, fs0, fs1, fs2, hls⟩ := three_cells ((hb03.block (w.heap.size + 1) l1).trans Q1.out)
  clear fs0 fs1 fs2
  obtain ⟨x0, x1, x2, x3, x4, x5, x6, x7, hlx⟩ := eight_row ((hb03.block (w.heap.size + 1 + 1) l2).trans Q2.out)
  have hbf3 : Below w.heap.size w w3 := hbW0.trans (hb03.mono hzW0)
  clear hbf2
  go_wp2_with fail
  refine (HL.out _).mono ?_
  rintro _ _ ⟨rfl, rfl⟩
  go_wp2_with fail
  refine (HT.out _).mono ?_
  rintro _ _ ⟨rfl, rfl⟩
  go_wp2_with fail
  refine wp_loop_rounds 4 ?_
  rw [rounds_succ]
  go_wp2_with fail
  refine (Hbx.out _).mono ?_
  rintro _ _ ⟨rfl, rfl⟩
  go_wp2_with fail
  rw [rounds_succ]
  go_wp2_with fail
  refine (Hvy.out _).mono ?_
  rintro _ _ ⟨rfl, rfl⟩
  go_wp2_with fail
  rw [rounds_succ]
  go_wp2_with fail
  refine (Hbz.out _).mono ?_
  rintro _ _ ⟨rfl, rfl⟩
  go_wp2_with fail
  go_ret
  exact ⟨rfl, hbf3⟩

set_option maxRecDepth 100000 in
set_option maxHeartbeats 16000000 in
theorem once_E8 (px py pz tm tk lo hi li ea la no mi sx sy sz qx qy qz bx vy bz dt lt n : Int)  (w : World)
    (RB : Hid (∀ W, Calls Try.prog 19 #[.agg #[.int .i64 px, .int .i64 py, .int .i64 pz, .int .i64 tm, .int .i64 tk, .int .i64 lo, .int .i64 hi, .int .i64 li, .int .i64 ea, .int .i64 la, .int .i64 no, .int .i64 mi], .agg #[.int .i64 sx, .int .i64 sy, .int .i64 sz]] W fun e w' => e = .returned (.int .i64 0) ∧ Below W.heap.size W w'))
    (RP : Hid (∀ W, Calls Try.prog 21 #[.agg #[.int .i64 qx, .int .i64 qy, .int .i64 qz]] W fun e w' => e = .returned (.int .i64 0) ∧ Below W.heap.size W w'))
    (HL : Hid (∀ W, Calls Try.prog 26 #[.int .i64 lt, .int .i64 0, .int .i64 1000] W fun e w' => e = .returned (.bool true) ∧ W = w'))
    (HT : Hid (∀ W, Calls Try.prog 26 #[.int .i64 dt, .int .i64 (-1000), .int .i64 1000] W fun e w' => e = .returned (.bool true) ∧ W = w'))
    (Hbx : Hid (∀ W, Calls Try.prog 26 #[.int .i64 bx, .int .i64 (-1000), .int .i64 1000] W fun e w' => e = .returned (.bool true) ∧ W = w'))
    (Hvy : Hid (∀ W, Calls Try.prog 26 #[.int .i64 vy, .int .i64 (-1000), .int .i64 1000] W fun e w' => e = .returned (.bool true) ∧ W = w'))
    (Hbz : Hid (∀ W, Calls Try.prog 26 #[.int .i64 bz, .int .i64 (-1000), .int .i64 1000] W fun e w' => e = .returned (.bool true) ∧ W = w'))
    (HF : Hid (∀ W, Calls Try.prog 16 #[.agg #[.int .i64 px, .int .i64 py, .int .i64 pz, .int .i64 tm, .int .i64 tk, .int .i64 lo, .int .i64 hi, .int .i64 li, .int .i64 ea, .int .i64 la, .int .i64 no, .int .i64 mi], .agg #[.int .i64 sx, .int .i64 sy, .int .i64 sz], .agg #[.int .i64 qx, .int .i64 qy, .int .i64 qz]] W fun e w' => e = .returned (.tuple #[.int .i64 n, .int .i64 8]) ∧ Below W.heap.size W w'))
    : Calls Try.prog 4 #[.agg #[.int .i64 px, .int .i64 py, .int .i64 pz, .int .i64 tm, .int .i64 tk, .int .i64 lo, .int .i64 hi, .int .i64 li, .int .i64 ea, .int .i64 la, .int .i64 no, .int .i64 mi], .agg #[.int .i64 sx, .int .i64 sy, .int .i64 sz], .agg #[.int .i64 qx, .int .i64 qy, .int .i64 qz, .int .i64 bx, .int .i64 vy, .int .i64 bz, .int .i64 dt, .int .i64 lt]] w fun e w' => e = .returned (.bool true) ∧ Below w.heap.size w w' := by
  have HA := hid law_awake5
  obtain ⟨W0, hW0⟩ : ∃ W0, W0 = ((w.alloc (.cells #[.int .i64 px, .int .i64 py, .int .i64 pz, .int .i64 tm, .int .i64 tk, .int .i64 lo, .int .i64 hi, .int .i64 li, .int .i64 ea, .int .i64 la, .int .i64 no, .int .i64 mi] 26)).alloc (.cells #[.int .i64 sx, .int .i64 sy, .int .i64 sz] 22)).alloc (.cells #[.int .i64 qx, .int .i64 qy, .int .i64 qz, .int .i64 bx, .int .i64 vy, .int .i64 bz, .int .i64 dt, .int .i64 lt] 57) := ⟨_, rfl⟩
  have hbW0 : Below w.heap.size w W0 := by rw [hW0]; (repeat (with_reducible first | exact Below.refl _ _ | assumption | refine Below.drewN _ ?_ | refine Below.drew ?_ | refine Below_alloc ?_ _ | refine Below.alloc ?_ (by first | (simp; done) | (simp; omega) | omega) _ | refine Below.setCell ?_ (by first | (simp; done) | (simp; omega) | omega) _ | refine Below_call ?_ (by assumption) | refine Below.trans ?_ (by assumption)))
  obtain ⟨q0, q1, q2⟩ := al3 w _ _ _ _ _ _ W0 hW0
  have l0 := (Array.getElem?_eq_some_iff.1 q0).1
  have l1 := (Array.getElem?_eq_some_iff.1 q1).1
  have l2 := (Array.getElem?_eq_some_iff.1 q2).1
  have Q0 := hid q0
  have Q1 := hid q1
  have Q2 := hid q2
  have hzW0 := hbW0.size
  clear q0 q1 q2
  go_enter Try.func4, Try.ntmps4
  go_wp2_with fail
  rw [← hW0]
  refine (HA.out _).mono ?_
  rintro _ w1 ⟨rfl, hb1⟩
  clear hW0
  have hb01 : Below W0.heap.size W0 w1 := hb1
  obtain ⟨m0, m1, m2, m3, m4, m5, m6, m7, m8, m9, m10, m11, ml⟩ := tw_cells ((hb01.block w.heap.size l0).trans Q0.out)
  obtain ⟨s0, s1, s2, fs0, fs1, fs2, hls⟩ := three_cells ((hb01.block (w.heap.size + 1) l1).trans Q1.out)
  clear fs0 fs1 fs2
  obtain ⟨x0, x1, x2, x3, x4, x5, x6, x7, hlx⟩ := eight_row ((hb01.block (w.heap.size + 1 + 1) l2).trans Q2.out)
  have hbf1 : Below w.heap.size w w1 := hbW0.trans (hb01.mono hzW0)
  go_wp2_with fail
  refine (RB.out _).mono ?_
  rintro _ w2 ⟨rfl, hb2⟩
  have hb02 : Below W0.heap.size W0 w2 := hb01.trans (hb2.mono hb01.size)
  clear m0 m1 m2 m3 m4 m5 m6 m7 m8 m9 m10 m11 ml s0 s1 s2 hls x0 x1 x2 x3 x4 x5 x6 x7 hlx
  obtain ⟨m0, m1, m2, m3, m4, m5, m6, m7, m8, m9, m10, m11, ml⟩ := tw_cells ((hb02.block w.heap.size l0).trans Q0.out)
  obtain ⟨s0, s1, s2, fs0, fs1, fs2, hls⟩ := three_cells ((hb02.block (w.heap.size + 1) l1).trans Q1.out)
  clear fs0 fs1 fs2
  obtain ⟨x0, x1, x2, x3, x4, x5, x6, x7, hlx⟩ := eight_row ((hb02.block (w.heap.size + 1 + 1) l2).trans Q2.out)
  have hbf2 : Below w.heap.size w w2 := hbW0.trans (hb02.mono hzW0)
  clear hbf1
  go_wp2_with fail
  refine (RP.out _).mono ?_
  rintro _ w3 ⟨rfl, hb3⟩
  have hb03 : Below W0.heap.size W0 w3 := hb02.trans (hb3.mono hb02.size)
  clear m0 m1 m2 m3 m4 m5 m6 m7 m8 m9 m10 m11 ml s0 s1 s2 hls x0 x1 x2 x3 x4 x5 x6 x7 hlx
  obtain ⟨m0, m1, m2, m3, m4, m5, m6, m7, m8, m9, m10, m11, ml⟩ := tw_cells ((hb03.block w.heap.size l0).trans Q0.out)
  obtain ⟨s0, s1, s2, fs0, fs1, fs2, hls⟩ := three_cells ((hb03.block (w.heap.size + 1) l1).trans Q1.out)
  clear fs0 fs1 fs2
  obtain ⟨x0, x1, x2, x3, x4, x5, x6, x7, hlx⟩ := eight_row ((hb03.block (w.heap.size + 1 + 1) l2).trans Q2.out)
  have hbf3 : Below w.heap.size w w3 := hbW0.trans (hb03.mono hzW0)
  clear hbf2
  go_wp2_with fail
  refine (HL.out _).mono ?_
  rintro _ _ ⟨rfl, rfl⟩
  go_wp2_with fail
  refine (HT.out _).mono ?_
  rintro _ _ ⟨rfl, rfl⟩
  go_wp2_with fail
  refine wp_loop_rounds 4 ?_
  rw [rounds_succ]
  go_wp2_with fail
  refine (Hbx.out _).mono ?_
  rintro _ _ ⟨rfl, rfl⟩
  go_wp2_with fail
  rw [rounds_succ]
  go_wp2_with fail
  refine (Hvy.out _).mono ?_
  rintro _ _ ⟨rfl, rfl⟩
  go_wp2_with fail
  rw [rounds_succ]
  go_wp2_with fail
  refine (Hbz.out _).mono ?_
  rintro _ _ ⟨rfl, rfl⟩
  go_wp2_with fail
  rw [rounds_succ]
  go_wp2_with fail
  refine (HF.out _).mono ?_
  rintro _ w4 ⟨rfl, hb4⟩
  have hb04 : Below W0.heap.size W0 w4 := hb03.trans (hb4.mono hb03.size)
  clear m0 m1 m2 m3 m4 m5 m6 m7 m8 m9 m10 m11 ml s0 s1 s2 hls x0 x1 x2 x3 x4 x5 x6 x7 hlx
  obtain ⟨m0, m1, m2, m3, m4, m5, m6, m7, m8, m9, m10, m11, ml⟩ := tw_cells ((hb04.block w.heap.size l0).trans Q0.out)
  obtain ⟨s0, s1, s2, fs0, fs1, fs2, hls⟩ := three_cells ((hb04.block (w.heap.size + 1) l1).trans Q1.out)
  clear fs0 fs1 fs2
  obtain ⟨x0, x1, x2, x3, x4, x5, x6, x7, hlx⟩ := eight_row ((hb04.block (w.heap.size + 1 + 1) l2).trans Q2.out)
  have hbf4 : Below w.heap.size w w4 := hbW0.trans (hb04.mono hzW0)
  clear hbf3
  go_wp2_with fail
  go_ret
  exact ⟨rfl, hbf4⟩

set_option maxRecDepth 100000 in
set_option maxHeartbeats 16000000 in
theorem once_E9 (px py pz tm tk lo hi li ea la no mi sx sy sz qx qy qz bx vy bz dt lt n : Int)  (w : World)
    (RB : Hid (∀ W, Calls Try.prog 19 #[.agg #[.int .i64 px, .int .i64 py, .int .i64 pz, .int .i64 tm, .int .i64 tk, .int .i64 lo, .int .i64 hi, .int .i64 li, .int .i64 ea, .int .i64 la, .int .i64 no, .int .i64 mi], .agg #[.int .i64 sx, .int .i64 sy, .int .i64 sz]] W fun e w' => e = .returned (.int .i64 0) ∧ Below W.heap.size W w'))
    (RP : Hid (∀ W, Calls Try.prog 21 #[.agg #[.int .i64 qx, .int .i64 qy, .int .i64 qz]] W fun e w' => e = .returned (.int .i64 0) ∧ Below W.heap.size W w'))
    (HL : Hid (∀ W, Calls Try.prog 26 #[.int .i64 lt, .int .i64 0, .int .i64 1000] W fun e w' => e = .returned (.bool true) ∧ W = w'))
    (HT : Hid (∀ W, Calls Try.prog 26 #[.int .i64 dt, .int .i64 (-1000), .int .i64 1000] W fun e w' => e = .returned (.bool true) ∧ W = w'))
    (Hbx : Hid (∀ W, Calls Try.prog 26 #[.int .i64 bx, .int .i64 (-1000), .int .i64 1000] W fun e w' => e = .returned (.bool true) ∧ W = w'))
    (Hvy : Hid (∀ W, Calls Try.prog 26 #[.int .i64 vy, .int .i64 (-1000), .int .i64 1000] W fun e w' => e = .returned (.bool true) ∧ W = w'))
    (Hbz : Hid (∀ W, Calls Try.prog 26 #[.int .i64 bz, .int .i64 (-1000), .int .i64 1000] W fun e w' => e = .returned (.bool true) ∧ W = w'))
    (HF : Hid (∀ W, Calls Try.prog 16 #[.agg #[.int .i64 px, .int .i64 py, .int .i64 pz, .int .i64 tm, .int .i64 tk, .int .i64 lo, .int .i64 hi, .int .i64 li, .int .i64 ea, .int .i64 la, .int .i64 no, .int .i64 mi], .agg #[.int .i64 sx, .int .i64 sy, .int .i64 sz], .agg #[.int .i64 qx, .int .i64 qy, .int .i64 qz]] W fun e w' => e = .returned (.tuple #[.int .i64 n, .int .i64 0]) ∧ Below W.heap.size W w'))
    (HN : Hid (∀ W, Calls Try.prog 26 #[.int .i64 n, .int .i64 (-900000), .int .i64 900000] W fun e w' => e = .returned (.bool false) ∧ W = w'))
    : Calls Try.prog 4 #[.agg #[.int .i64 px, .int .i64 py, .int .i64 pz, .int .i64 tm, .int .i64 tk, .int .i64 lo, .int .i64 hi, .int .i64 li, .int .i64 ea, .int .i64 la, .int .i64 no, .int .i64 mi], .agg #[.int .i64 sx, .int .i64 sy, .int .i64 sz], .agg #[.int .i64 qx, .int .i64 qy, .int .i64 qz, .int .i64 bx, .int .i64 vy, .int .i64 bz, .int .i64 dt, .int .i64 lt]] w fun e w' => e = .returned (.bool true) ∧ Below w.heap.size w w' := by
  have HA := hid law_awake5
  obtain ⟨W0, hW0⟩ : ∃ W0, W0 = ((w.alloc (.cells #[.int .i64 px, .int .i64 py, .int .i64 pz, .int .i64 tm, .int .i64 tk, .int .i64 lo, .int .i64 hi, .int .i64 li, .int .i64 ea, .int .i64 la, .int .i64 no, .int .i64 mi] 26)).alloc (.cells #[.int .i64 sx, .int .i64 sy, .int .i64 sz] 22)).alloc (.cells #[.int .i64 qx, .int .i64 qy, .int .i64 qz, .int .i64 bx, .int .i64 vy, .int .i64 bz, .int .i64 dt, .int .i64 lt] 57) := ⟨_, rfl⟩
  have hbW0 : Below w.heap.size w W0 := by rw [hW0]; (repeat (with_reducible first | exact Below.refl _ _ | assumption | refine Below.drewN _ ?_ | refine Below.drew ?_ | refine Below_alloc ?_ _ | refine Below.alloc ?_ (by first | (simp; done) | (simp; omega) | omega) _ | refine Below.setCell ?_ (by first | (simp; done) | (simp; omega) | omega) _ | refine Below_call ?_ (by assumption) | refine Below.trans ?_ (by assumption)))
  obtain ⟨q0, q1, q2⟩ := al3 w _ _ _ _ _ _ W0 hW0
  have l0 := (Array.getElem?_eq_some_iff.1 q0).1
  have l1 := (Array.getElem?_eq_some_iff.1 q1).1
  have l2 := (Array.getElem?_eq_some_iff.1 q2).1
  have Q0 := hid q0
  have Q1 := hid q1
  have Q2 := hid q2
  have hzW0 := hbW0.size
  clear q0 q1 q2
  go_enter Try.func4, Try.ntmps4
  go_wp2_with fail
  rw [← hW0]
  refine (HA.out _).mono ?_
  rintro _ w1 ⟨rfl, hb1⟩
  clear hW0
  have hb01 : Below W0.heap.size W0 w1 := hb1
  obtain ⟨m0, m1, m2, m3, m4, m5, m6, m7, m8, m9, m10, m11, ml⟩ := tw_cells ((hb01.block w.heap.size l0).trans Q0.out)
  obtain ⟨s0, s1, s2, fs0, fs1, fs2, hls⟩ := three_cells ((hb01.block (w.heap.size + 1) l1).trans Q1.out)
  clear fs0 fs1 fs2
  obtain ⟨x0, x1, x2, x3, x4, x5, x6, x7, hlx⟩ := eight_row ((hb01.block (w.heap.size + 1 + 1) l2).trans Q2.out)
  have hbf1 : Below w.heap.size w w1 := hbW0.trans (hb01.mono hzW0)
  go_wp2_with fail
  refine (RB.out _).mono ?_
  rintro _ w2 ⟨rfl, hb2⟩
  have hb02 : Below W0.heap.size W0 w2 := hb01.trans (hb2.mono hb01.size)
  clear m0 m1 m2 m3 m4 m5 m6 m7 m8 m9 m10 m11 ml s0 s1 s2 hls x0 x1 x2 x3 x4 x5 x6 x7 hlx
  obtain ⟨m0, m1, m2, m3, m4, m5, m6, m7, m8, m9, m10, m11, ml⟩ := tw_cells ((hb02.block w.heap.size l0).trans Q0.out)
  obtain ⟨s0, s1, s2, fs0, fs1, fs2, hls⟩ := three_cells ((hb02.block (w.heap.size + 1) l1).trans Q1.out)
  clear fs0 fs1 fs2
  obtain ⟨x0, x1, x2, x3, x4, x5, x6, x7, hlx⟩ := eight_row ((hb02.block (w.heap.size + 1 + 1) l2).trans Q2.out)
  have hbf2 : Below w.heap.size w w2 := hbW0.trans (hb02.mono hzW0)
  clear hbf1
  go_wp2_with fail
  refine (RP.out _).mono ?_
  rintro _ w3 ⟨rfl, hb3⟩
  have hb03 : Below W0.heap.size W0 w3 := hb02.trans (hb3.mono hb02.size)
  clear m0 m1 m2 m3 m4 m5 m6 m7 m8 m9 m10 m11 ml s0 s1 s2 hls x0 x1 x2 x3 x4 x5 x6 x7 hlx
  obtain ⟨m0, m1, m2, m3, m4, m5, m6, m7, m8, m9, m10, m11, ml⟩ := tw_cells ((hb03.block w.heap.size l0).trans Q0.out)
  obtain ⟨s0, s1, s2, fs0, fs1, fs2, hls⟩ := three_cells ((hb03.block (w.heap.size + 1) l1).trans Q1.out)
  clear fs0 fs1 fs2
  obtain ⟨x0, x1, x2, x3, x4, x5, x6, x7, hlx⟩ := eight_row ((hb03.block (w.heap.size + 1 + 1) l2).trans Q2.out)
  have hbf3 : Below w.heap.size w w3 := hbW0.trans (hb03.mono hzW0)
  clear hbf2
  go_wp2_with fail
  refine (HL.out _).mono ?_
  rintro _ _ ⟨rfl, rfl⟩
  go_wp2_with fail
  refine (HT.out _).mono ?_
  rintro _ _ ⟨rfl, rfl⟩
  go_wp2_with fail
  refine wp_loop_rounds 4 ?_
  rw [rounds_succ]
  go_wp2_with fail
  refine (Hbx.out _).mono ?_
  rintro _ _ ⟨rfl, rfl⟩
  go_wp2_with fail
  rw [rounds_succ]
  go_wp2_with fail
  refine (Hvy.out _).mono ?_
  rintro _ _ ⟨rfl, rfl⟩
  go_wp2_with fail
  rw [rounds_succ]
  go_wp2_with fail
  refine (Hbz.out _).mono ?_
  rintro _ _ ⟨rfl, rfl⟩
  go_wp2_with fail
  rw [rounds_succ]
  go_wp2_with fail
  refine (HF.out _).mono ?_
  rintro _ w4 ⟨rfl, hb4⟩
  have hb04 : Below W0.heap.size W0 w4 := hb03.trans (hb4.mono hb03.size)
  clear m0 m1 m2 m3 m4 m5 m6 m7 m8 m9 m10 m11 ml s0 s1 s2 hls x0 x1 x2 x3 x4 x5 x6 x7 hlx
  obtain ⟨m0, m1, m2, m3, m4, m5, m6, m7, m8, m9, m10, m11, ml⟩ := tw_cells ((hb04.block w.heap.size l0).trans Q0.out)
  obtain ⟨s0, s1, s2, fs0, fs1, fs2, hls⟩ := three_cells ((hb04.block (w.heap.size + 1) l1).trans Q1.out)
  clear fs0 fs1 fs2
  obtain ⟨x0, x1, x2, x3, x4, x5, x6, x7, hlx⟩ := eight_row ((hb04.block (w.heap.size + 1 + 1) l2).trans Q2.out)
  have hbf4 : Below w.heap.size w w4 := hbW0.trans (hb04.mono hzW0)
  clear hbf3
  go_wp2_with fail
  refine (HN.out _).mono ?_
  rintro _ _ ⟨rfl, rfl⟩
  go_wp2_with fail
  go_ret
  exact ⟨rfl, hbf4⟩
end Go.Proofs.Ytlmdmpjfehpjeaa

/- Tracks: the law of first times, the main way (the particle's own place is no place). -/
set_option linter.unusedVariables false
set_option linter.unusedSimpArgs false
namespace Go.Proofs.Ytlmdmpjfehpjeaa
open Go.RowKit

set_option maxRecDepth 100000 in
set_option maxHeartbeats 16000000 in
theorem once_M0 (px py pz tm tk lo hi li ea la no mi sx sy sz qx qy qz bx vy bz dt lt n n1 n2 r X1 at_ Yx Yy Yz ax ay az ux uy uz ut ex ey ez nk C EM EP : Int) (k1 : IntKind.i64.wrap (n - 1) = n1) (k2 : IntKind.i64.wrap (n + lt) = n2) (k3 : IntKind.i64.wrap (tk * r) = X1) (k4 : IntKind.i64.wrap (tm + X1) = at_) (kAx : Hid (IntKind.i64.wrap (sx * r) = Yx ∧ IntKind.i64.wrap (px + Yx) = ax)) (kAy : Hid (IntKind.i64.wrap (sy * r) = Yy ∧ IntKind.i64.wrap (py + Yy) = ay)) (kAz : Hid (IntKind.i64.wrap (sz * r) = Yz ∧ IntKind.i64.wrap (pz + Yz) = az)) (kT : IntKind.i64.wrap (tm + dt) = ut) (kBx : Hid (IntKind.i64.wrap (px + bx) = ux ∧ IntKind.i64.wrap (qx + bx) = ex)) (kBy : Hid (IntKind.i64.wrap (py + vy) = uy ∧ IntKind.i64.wrap (qy + vy) = ey)) (kBz : Hid (IntKind.i64.wrap (pz + bz) = uz ∧ IntKind.i64.wrap (qz + bz) = ez)) (kN : IntKind.i64.wrap (n + dt) = nk) (qC : (C == 0) = false) (w : World)
    (RB : Hid (∀ W, Calls Try.prog 19 #[.agg #[.int .i64 px, .int .i64 py, .int .i64 pz, .int .i64 tm, .int .i64 tk, .int .i64 lo, .int .i64 hi, .int .i64 li, .int .i64 ea, .int .i64 la, .int .i64 no, .int .i64 mi], .agg #[.int .i64 sx, .int .i64 sy, .int .i64 sz]] W fun e w' => e = .returned (.int .i64 0) ∧ Below W.heap.size W w'))
    (RP : Hid (∀ W, Calls Try.prog 21 #[.agg #[.int .i64 qx, .int .i64 qy, .int .i64 qz]] W fun e w' => e = .returned (.int .i64 0) ∧ Below W.heap.size W w'))
    (HL : Hid (∀ W, Calls Try.prog 26 #[.int .i64 lt, .int .i64 0, .int .i64 1000] W fun e w' => e = .returned (.bool true) ∧ W = w'))
    (HT : Hid (∀ W, Calls Try.prog 26 #[.int .i64 dt, .int .i64 (-1000), .int .i64 1000] W fun e w' => e = .returned (.bool true) ∧ W = w'))
    (Hbx : Hid (∀ W, Calls Try.prog 26 #[.int .i64 bx, .int .i64 (-1000), .int .i64 1000] W fun e w' => e = .returned (.bool true) ∧ W = w'))
    (Hvy : Hid (∀ W, Calls Try.prog 26 #[.int .i64 vy, .int .i64 (-1000), .int .i64 1000] W fun e w' => e = .returned (.bool true) ∧ W = w'))
    (Hbz : Hid (∀ W, Calls Try.prog 26 #[.int .i64 bz, .int .i64 (-1000), .int .i64 1000] W fun e w' => e = .returned (.bool true) ∧ W = w'))
    (HF : Hid (∀ W, Calls Try.prog 16 #[.agg #[.int .i64 px, .int .i64 py, .int .i64 pz, .int .i64 tm, .int .i64 tk, .int .i64 lo, .int .i64 hi, .int .i64 li, .int .i64 ea, .int .i64 la, .int .i64 no, .int .i64 mi], .agg #[.int .i64 sx, .int .i64 sy, .int .i64 sz], .agg #[.int .i64 qx, .int .i64 qy, .int .i64 qz]] W fun e w' => e = .returned (.tuple #[.int .i64 n, .int .i64 0]) ∧ Below W.heap.size W w'))
    (HN : Hid (∀ W, Calls Try.prog 26 #[.int .i64 n, .int .i64 (-900000), .int .i64 900000] W fun e w' => e = .returned (.bool true) ∧ W = w'))
    (HR1 : Hid (∀ W, Calls Try.prog 15 #[.agg #[.int .i64 px, .int .i64 py, .int .i64 pz, .int .i64 tm, .int .i64 tk, .int .i64 lo, .int .i64 hi, .int .i64 li, .int .i64 ea, .int .i64 la, .int .i64 no, .int .i64 mi], .agg #[.int .i64 sx, .int .i64 sy, .int .i64 sz], .agg #[.int .i64 qx, .int .i64 qy, .int .i64 qz, .int .i64 n]] W fun e w' => e = .returned (.tuple #[.bool true, .int .i64 0]) ∧ Below W.heap.size W w'))
    (HR2 : Hid (∀ W, Calls Try.prog 15 #[.agg #[.int .i64 px, .int .i64 py, .int .i64 pz, .int .i64 tm, .int .i64 tk, .int .i64 lo, .int .i64 hi, .int .i64 li, .int .i64 ea, .int .i64 la, .int .i64 no, .int .i64 mi], .agg #[.int .i64 sx, .int .i64 sy, .int .i64 sz], .agg #[.int .i64 qx, .int .i64 qy, .int .i64 qz, .int .i64 n1]] W fun e w' => e = .returned (.tuple #[.bool false, .int .i64 0]) ∧ Below W.heap.size W w'))
    (HR3 : Hid (∀ W, Calls Try.prog 15 #[.agg #[.int .i64 px, .int .i64 py, .int .i64 pz, .int .i64 tm, .int .i64 tk, .int .i64 lo, .int .i64 hi, .int .i64 li, .int .i64 ea, .int .i64 la, .int .i64 no, .int .i64 mi], .agg #[.int .i64 sx, .int .i64 sy, .int .i64 sz], .agg #[.int .i64 qx, .int .i64 qy, .int .i64 qz, .int .i64 n2]] W fun e w' => e = .returned (.tuple #[.bool true, .int .i64 0]) ∧ Below W.heap.size W w'))
    (HM : Hid (∀ W, Calls Try.prog 27 #[.int .i64 lt, .int .i64 20] W fun e w' => e = .returned (.int .i64 r) ∧ W = w'))
    (RM : Hid (∀ W, Calls Try.prog 20 #[.agg #[.int .i64 ax, .int .i64 ay, .int .i64 az, .int .i64 at_]] W fun e w' => e = .returned (.int .i64 C) ∧ Below W.heap.size W w'))
    (RE : Hid (∀ W, Calls Try.prog 18 #[.agg #[.int .i64 ux, .int .i64 uy, .int .i64 uz, .int .i64 ut, .int .i64 tk, .int .i64 lo, .int .i64 hi, .int .i64 li, .int .i64 ea, .int .i64 la, .int .i64 no, .int .i64 mi]] W fun e w' => e = .returned (.int .i64 EM) ∧ Below W.heap.size W w'))
    (RQ : Hid (∀ W, Calls Try.prog 21 #[.agg #[.int .i64 ex, .int .i64 ey, .int .i64 ez]] W fun e w' => e = .returned (.int .i64 EP) ∧ Below W.heap.size W w'))
    (HD : Hid ((EM == 0) = false ∨ ((EM == 0) = true ∧ (EP == 0) = false) ∨ ((EM == 0) = true ∧ (EP == 0) = true ∧ Hid (∀ W, Calls Try.prog 16 #[.agg #[.int .i64 ux, .int .i64 uy, .int .i64 uz, .int .i64 ut, .int .i64 tk, .int .i64 lo, .int .i64 hi, .int .i64 li, .int .i64 ea, .int .i64 la, .int .i64 no, .int .i64 mi], .agg #[.int .i64 sx, .int .i64 sy, .int .i64 sz], .agg #[.int .i64 ex, .int .i64 ey, .int .i64 ez]] W fun e w' => e = .returned (.tuple #[.int .i64 nk, .int .i64 0]) ∧ Below W.heap.size W w'))))
    (HF3 : Hid (∀ W, Calls Try.prog 16 #[.agg #[.int .i64 py, .int .i64 px, .int .i64 pz, .int .i64 tm, .int .i64 tk, .int .i64 lo, .int .i64 hi, .int .i64 li, .int .i64 ea, .int .i64 la, .int .i64 no, .int .i64 mi], .agg #[.int .i64 sy, .int .i64 sx, .int .i64 sz], .agg #[.int .i64 qy, .int .i64 qx, .int .i64 qz]] W fun e w' => e = .returned (.tuple #[.int .i64 n, .int .i64 0]) ∧ Below W.heap.size W w'))
    : Calls Try.prog 4 #[.agg #[.int .i64 px, .int .i64 py, .int .i64 pz, .int .i64 tm, .int .i64 tk, .int .i64 lo, .int .i64 hi, .int .i64 li, .int .i64 ea, .int .i64 la, .int .i64 no, .int .i64 mi], .agg #[.int .i64 sx, .int .i64 sy, .int .i64 sz], .agg #[.int .i64 qx, .int .i64 qy, .int .i64 qz, .int .i64 bx, .int .i64 vy, .int .i64 bz, .int .i64 dt, .int .i64 lt]] w fun e w' => e = .returned (.bool true) ∧ Below w.heap.size w w' := by
  have HA := hid law_awake5
  obtain ⟨W0, hW0⟩ : ∃ W0, W0 = ((w.alloc (.cells #[.int .i64 px, .int .i64 py, .int .i64 pz, .int .i64 tm, .int .i64 tk, .int .i64 lo, .int .i64 hi, .int .i64 li, .int .i64 ea, .int .i64 la, .int .i64 no, .int .i64 mi] 26)).alloc (.cells #[.int .i64 sx, .int .i64 sy, .int .i64 sz] 22)).alloc (.cells #[.int .i64 qx, .int .i64 qy, .int .i64 qz, .int .i64 bx, .int .i64 vy, .int .i64 bz, .int .i64 dt, .int .i64 lt] 57) := ⟨_, rfl⟩
  have hbW0 : Below w.heap.size w W0 := by rw [hW0]; (repeat (with_reducible first | exact Below.refl _ _ | assumption | refine Below.drewN _ ?_ | refine Below.drew ?_ | refine Below_alloc ?_ _ | refine Below.alloc ?_ (by first | (simp; done) | (simp; omega) | omega) _ | refine Below.setCell ?_ (by first | (simp; done) | (simp; omega) | omega) _ | refine Below_call ?_ (by assumption) | refine Below.trans ?_ (by assumption)))
  obtain ⟨q0, q1, q2⟩ := al3 w _ _ _ _ _ _ W0 hW0
  have l0 := (Array.getElem?_eq_some_iff.1 q0).1
  have l1 := (Array.getElem?_eq_some_iff.1 q1).1
  have l2 := (Array.getElem?_eq_some_iff.1 q2).1
  have Q0 := hid q0
  have Q1 := hid q1
  have Q2 := hid q2
  have hzW0 := hbW0.size
  clear q0 q1 q2
  go_enter Try.func4, Try.ntmps4
  go_wp2_with fail
  rw [← hW0]
  refine (HA.out _).mono ?_
  rintro _ w1 ⟨rfl, hb1⟩
  clear hW0
  have hb01 : Below W0.heap.size W0 w1 := hb1
  obtain ⟨m0, m1, m2, m3, m4, m5, m6, m7, m8, m9, m10, m11, ml⟩ := tw_cells ((hb01.block w.heap.size l0).trans Q0.out)
  obtain ⟨s0, s1, s2, fs0, fs1, fs2, hls⟩ := three_cells ((hb01.block (w.heap.size + 1) l1).trans Q1.out)
  clear fs0 fs1 fs2
  obtain ⟨x0, x1, x2, x3, x4, x5, x6, x7, hlx⟩ := eight_row ((hb01.block (w.heap.size + 1 + 1) l2).trans Q2.out)
  have hbf1 : Below w.heap.size w w1 := hbW0.trans (hb01.mono hzW0)
  go_wp2_with fail
  refine (RB.out _).mono ?_
  rintro _ w2 ⟨rfl, hb2⟩
  have hb02 : Below W0.heap.size W0 w2 := hb01.trans (hb2.mono hb01.size)
  clear m0 m1 m2 m3 m4 m5 m6 m7 m8 m9 m10 m11 ml s0 s1 s2 hls x0 x1 x2 x3 x4 x5 x6 x7 hlx
  obtain ⟨m0, m1, m2, m3, m4, m5, m6, m7, m8, m9, m10, m11, ml⟩ := tw_cells ((hb02.block w.heap.size l0).trans Q0.out)
  obtain ⟨s0, s1, s2, fs0, fs1, fs2, hls⟩ := three_cells ((hb02.block (w.heap.size + 1) l1).trans Q1.out)
  clear fs0 fs1 fs2
  obtain ⟨x0, x1, x2, x3, x4, x5, x6, x7, hlx⟩ := eight_row ((hb02.block (w.heap.size + 1 + 1) l2).trans Q2.out)
  have hbf2 : Below w.heap.size w w2 := hbW0.trans (hb02.mono hzW0)
  clear hbf1
  go_wp2_with fail
  refine (RP.out _).mono ?_
  rintro _ w3 ⟨rfl, hb3⟩
  have hb03 : Below W0.heap.size W0 w3 := hb02.trans (hb3.mono hb02.size)
  clear m0 m1 m2 m3 m4 m5 m6 m7 m8 m9 m10 m11 ml s0 s1 s2 hls x0 x1 x2 x3 x4 x5 x6 x7 hlx
  obtain ⟨m0, m1, m2, m3, m4, m5, m6, m7, m8, m9, m10, m11, ml⟩ := tw_cells ((hb03.block w.heap.size l0).trans Q0.out)
  obtain ⟨s0, s1, s2, fs0, fs1, fs2, hls⟩ := three_cells ((hb03.block (w.heap.size + 1) l1).trans Q1.out)
  clear fs0 fs1 fs2
  obtain ⟨x0, x1, x2, x3, x4, x5, x6, x7, hlx⟩ := eight_row ((hb03.block (w.heap.size + 1 + 1) l2).trans Q2.out)
  have hbf3 : Below w.heap.size w w3 := hbW0.trans (hb03.mono hzW0)
  clear hbf2
  go_wp2_with fail
  refine (HL.out _).mono ?_
  rintro _ _ ⟨rfl, rfl⟩
  go_wp2_with fail
  refine (HT.out _).mono ?_
  rintro _ _ ⟨rfl, rfl⟩
  go_wp2_with fail
  refine wp_loop_rounds 4 ?_
  rw [rounds_succ]
  go_wp2_with fail
  refine (Hbx.out _).mono ?_
  rintro _ _ ⟨rfl, rfl⟩
  go_wp2_with fail
  rw [rounds_succ]
  go_wp2_with fail
  refine (Hvy.out _).mono ?_
  rintro _ _ ⟨rfl, rfl⟩
  go_wp2_with fail
  rw [rounds_succ]
  go_wp2_with fail
  refine (Hbz.out _).mono ?_
  rintro _ _ ⟨rfl, rfl⟩
  go_wp2_with fail
  rw [rounds_succ]
  go_wp2_with fail
  refine (HF.out _).mono ?_
  rintro _ w4 ⟨rfl, hb4⟩
  have hb04 : Below W0.heap.size W0 w4 := hb03.trans (hb4.mono hb03.size)
  clear m0 m1 m2 m3 m4 m5 m6 m7 m8 m9 m10 m11 ml s0 s1 s2 hls x0 x1 x2 x3 x4 x5 x6 x7 hlx
  obtain ⟨m0, m1, m2, m3, m4, m5, m6, m7, m8, m9, m10, m11, ml⟩ := tw_cells ((hb04.block w.heap.size l0).trans Q0.out)
  obtain ⟨s0, s1, s2, fs0, fs1, fs2, hls⟩ := three_cells ((hb04.block (w.heap.size + 1) l1).trans Q1.out)
  clear fs0 fs1 fs2
  obtain ⟨x0, x1, x2, x3, x4, x5, x6, x7, hlx⟩ := eight_row ((hb04.block (w.heap.size + 1 + 1) l2).trans Q2.out)
  have hbf4 : Below w.heap.size w w4 := hbW0.trans (hb04.mono hzW0)
  clear hbf3
  go_wp2_with fail
  refine (HN.out _).mono ?_
  rintro _ _ ⟨rfl, rfl⟩
  go_wp2_with fail
  refine (HR1.out _).mono ?_
  rintro _ w5 ⟨rfl, hb5⟩
  have hb05 : Below W0.heap.size W0 w5 := hb04.trans (hb5.mono hb04.size)
  clear m0 m1 m2 m3 m4 m5 m6 m7 m8 m9 m10 m11 ml s0 s1 s2 hls x0 x1 x2 x3 x4 x5 x6 x7 hlx
  obtain ⟨m0, m1, m2, m3, m4, m5, m6, m7, m8, m9, m10, m11, ml⟩ := tw_cells ((hb05.block w.heap.size l0).trans Q0.out)
  obtain ⟨s0, s1, s2, fs0, fs1, fs2, hls⟩ := three_cells ((hb05.block (w.heap.size + 1) l1).trans Q1.out)
  clear fs0 fs1 fs2
  obtain ⟨x0, x1, x2, x3, x4, x5, x6, x7, hlx⟩ := eight_row ((hb05.block (w.heap.size + 1 + 1) l2).trans Q2.out)
  have hbf5 : Below w.heap.size w w5 := hbW0.trans (hb05.mono hzW0)
  clear hbf4
  go_wp2_with fail
  refine (HR2.out _).mono ?_
  rintro _ w6 ⟨rfl, hb6⟩
  have hb06 : Below W0.heap.size W0 w6 := hb05.trans (hb6.mono hb05.size)
  clear m0 m1 m2 m3 m4 m5 m6 m7 m8 m9 m10 m11 ml s0 s1 s2 hls x0 x1 x2 x3 x4 x5 x6 x7 hlx
  obtain ⟨m0, m1, m2, m3, m4, m5, m6, m7, m8, m9, m10, m11, ml⟩ := tw_cells ((hb06.block w.heap.size l0).trans Q0.out)
  obtain ⟨s0, s1, s2, fs0, fs1, fs2, hls⟩ := three_cells ((hb06.block (w.heap.size + 1) l1).trans Q1.out)
  clear fs0 fs1 fs2
  obtain ⟨x0, x1, x2, x3, x4, x5, x6, x7, hlx⟩ := eight_row ((hb06.block (w.heap.size + 1 + 1) l2).trans Q2.out)
  have hbf6 : Below w.heap.size w w6 := hbW0.trans (hb06.mono hzW0)
  clear hbf5
  go_wp2_with fail
  refine (HR3.out _).mono ?_
  rintro _ w7 ⟨rfl, hb7⟩
  have hb07 : Below W0.heap.size W0 w7 := hb06.trans (hb7.mono hb06.size)
  clear m0 m1 m2 m3 m4 m5 m6 m7 m8 m9 m10 m11 ml s0 s1 s2 hls x0 x1 x2 x3 x4 x5 x6 x7 hlx
  obtain ⟨m0, m1, m2, m3, m4, m5, m6, m7, m8, m9, m10, m11, ml⟩ := tw_cells ((hb07.block w.heap.size l0).trans Q0.out)
  obtain ⟨s0, s1, s2, fs0, fs1, fs2, hls⟩ := three_cells ((hb07.block (w.heap.size + 1) l1).trans Q1.out)
  clear fs0 fs1 fs2
  obtain ⟨x0, x1, x2, x3, x4, x5, x6, x7, hlx⟩ := eight_row ((hb07.block (w.heap.size + 1 + 1) l2).trans Q2.out)
  have hbf7 : Below w.heap.size w w7 := hbW0.trans (hb07.mono hzW0)
  clear hbf6
  go_wp2_with fail
  refine wp_mixH (fun wc => Below (w7.heap.size) w7 wc) 11 [0, 1, 2, 3, 4, 5] [(6, [7, 8, 9])] 10 [] [.f [11]] (by kernel_rfl) (by kernel_rfl) ((Below.refl _ _).drew) ?_
  intro Q' hQ'
  simp only [pick, List.drop_succ_cons, List.drop_zero, List.head?_cons, Option.toList_some, List.cons_append, List.nil_append]
  (repeat (first | go_big_quiet_skip | (go_big_quiet_want; refine quiet_simple rfl ?_; go_big_quiet_op; go_big_quiet_on) | (go_big_quiet_want; refine quiet_cellB (ty := 3) rfl rfl (by kernel_rfl) (by assumption) (by first | omega | (simp; omega)) ?_; simp only [Act.put, List.setIfInBounds_toArray, List.set_cons_succ, List.set_cons_zero]; go_big_quiet_on)))
  (try refine wpQuiet_nil ?_)
  (rw [wpFl])
  (refine ⟨?_, ?_⟩)
  ((try simp only [pick, List.drop_succ_cons, List.drop_zero, List.head?_cons, Option.toList_some, List.cons_append, List.nil_append]); rw [wpSteps]; (go_wp2_with ((go_at_call 27; refine (HM.out _).mono ?_; rintro _ _ ⟨rfl, rfl⟩)); rw [contF]; refine ⟨?_, ?_⟩; (next => (repeat (with_reducible first | exact Below.refl _ _ | assumption | refine Below.drewN _ ?_ | refine Below.drew ?_ | refine Below_alloc ?_ _ | refine Below.alloc ?_ (by first | (simp; done) | (simp; omega) | omega) _ | refine Below.setCell ?_ (by first | (simp; done) | (simp; omega) | omega) _ | refine Below_call ?_ (by assumption) | refine Below.trans ?_ (by assumption))))); rw [wpSteps])
  (try simp only [pick, List.drop_succ_cons, List.drop_zero, List.head?_cons, Option.toList_some, List.cons_append, List.nil_append])
  (repeat (first | go_big_quiet_skip | (go_big_quiet_want; refine quiet_simple rfl ?_; go_big_quiet_op; go_big_quiet_on) | (go_big_quiet_want; refine quiet_cellB (ty := 3) rfl rfl (by kernel_rfl) (by assumption) (by first | omega | (simp; omega)) ?_; simp only [Act.put, List.setIfInBounds_toArray, List.set_cons_succ, List.set_cons_zero]; go_big_quiet_on)))
  (try refine wpQuiet_nil ?_)
  rotate_left
  ((try simp only [pick, List.drop_succ_cons, List.drop_zero, List.head?_cons, Option.toList_some, List.cons_append, List.nil_append]); rw [wpSteps]; (go_wp2_with (fail); rw [contF]; refine ⟨?_, ?_⟩; (next => (repeat (with_reducible first | exact Below.refl _ _ | assumption | refine Below.drewN _ ?_ | refine Below.drew ?_ | refine Below_alloc ?_ _ | refine Below.alloc ?_ (by first | (simp; done) | (simp; omega) | omega) _ | refine Below.setCell ?_ (by first | (simp; done) | (simp; omega) | omega) _ | refine Below_call ?_ (by assumption) | refine Below.trans ?_ (by assumption))))); rw [wpSteps])
  (simp only [flat7, List.cons_append, List.nil_append])
  (rw [wpMixC])
  ((try simp only [pick, List.drop_succ_cons, List.drop_zero, List.head?_cons, Option.toList_some, List.cons_append, List.nil_append]); rw [wpSteps]; (go_wp2_with ((go_at_call 27; refine (HM.out _).mono ?_; rintro _ _ ⟨rfl, rfl⟩)); rw [contF]; refine ⟨?_, ?_⟩; (next => (repeat (with_reducible first | exact Below.refl _ _ | assumption | refine Below.drewN _ ?_ | refine Below.drew ?_ | refine Below_alloc ?_ _ | refine Below.alloc ?_ (by first | (simp; done) | (simp; omega) | omega) _ | refine Below.setCell ?_ (by first | (simp; done) | (simp; omega) | omega) _ | refine Below_call ?_ (by assumption) | refine Below.trans ?_ (by assumption))))); rw [wpSteps])
  (rw [wpMixC])
  (try simp only [pick, List.drop_succ_cons, List.drop_zero, List.head?_cons, Option.toList_some, List.cons_append, List.nil_append])
  (repeat (first | go_big_quiet_skip | (go_big_quiet_want; refine quiet_simple rfl ?_; go_big_quiet_op; go_big_quiet_on) | (go_big_quiet_want; refine quiet_cellB (ty := 3) rfl rfl (by kernel_rfl) (by assumption) (by first | omega | (simp; omega)) ?_; simp only [Act.put, List.setIfInBounds_toArray, List.set_cons_succ, List.set_cons_zero]; go_big_quiet_on)))
  (try refine wpQuiet_nil ?_)
  rotate_right
  (rw [wpFl])
  ((try simp only [pick, List.drop_succ_cons, List.drop_zero, List.head?_cons, Option.toList_some, List.cons_append, List.nil_append]); rw [wpSteps]; (go_wp2_with (fail); rw [contF]; refine ⟨?_, ?_⟩; (next => (repeat (with_reducible first | exact Below.refl _ _ | assumption | refine Below.drewN _ ?_ | refine Below.drew ?_ | refine Below_alloc ?_ _ | refine Below.alloc ?_ (by first | (simp; done) | (simp; omega) | omega) _ | refine Below.setCell ?_ (by first | (simp; done) | (simp; omega) | omega) _ | refine Below_call ?_ (by assumption) | refine Below.trans ?_ (by assumption))))); rw [wpSteps])
  all_goals (rw [wpMixC])
  all_goals (rw [wpMix]; simp only [pick, List.drop_succ_cons, List.drop_zero, List.head?_cons, Option.toList_some, List.cons_append, List.nil_append])
  all_goals (go_wp2_with (fail); rw [contF])
  all_goals (rw [wpMix])
  all_goals (refine hQ' _ _ ?_)
  all_goals
    obtain ⟨W8, hW8⟩ : ∃ W8, W8 = (w7.alloc (.cells #[.int .i64 0, .int .i64 0, .int .i64 0, .int .i64 at_] 28)).drew := ⟨_, rfl⟩
    have hbX8 : Below w7.heap.size w7 W8 := by rw [hW8]; (repeat (with_reducible first | exact Below.refl _ _ | assumption | refine Below.drewN _ ?_ | refine Below.drew ?_ | refine Below_alloc ?_ _ | refine Below.alloc ?_ (by first | (simp; done) | (simp; omega) | omega) _ | refine Below.setCell ?_ (by first | (simp; done) | (simp; omega) | omega) _ | refine Below_call ?_ (by assumption) | refine Below.trans ?_ (by assumption)))
    have HR8 := hid (show W8.heap[w7.heap.size]? = some (.cells #[.int .i64 0, .int .i64 0, .int .i64 0, .int .i64 at_] 28 (0, 0)) by rw [hW8]; exact heap_alloc_new w7 _)
    clear m0 m1 m2 m3 m4 m5 m6 m7 m8 m9 m10 m11 ml s0 s1 s2 hls x0 x1 x2 x3 x4 x5 x6 x7 hlx
    go_wp2_with fail
    rw [← hW8]
    clear hW8
    have hz07 := hb07.size
    go_loopw [17] (fun i wr => ∃ (k : Nat) (o0 o1 o2 : Int), k ≤ 3 ∧ i = .int .i64 k ∧ Hid (wr.heap[w7.heap.size]? = some (.cells #[.int .i64 o0, .int .i64 o1, .int .i64 o2, .int .i64 at_] 28 (0, 0))) ∧ Hid ((0 < k → o0 = ax) ∧ (1 < k → o1 = ay) ∧ (2 < k → o2 = az)) ∧ Below w7.heap.size w7 wr) (fun i _ => 3 - (intOf i).toNat)
    case atStart => exact ⟨0, 0, 0, 0, by omega, rfl, HR8, hid ⟨by omega, by omega, by omega⟩, hbX8⟩
    case round =>
      obtain ⟨k, o0, o1, o2, hk, rfl, HR, HO, hbel⟩ := hrel
      have hb0r : Below W0.heap.size W0 wr := hb07.trans (hbel.mono hb07.size)
      have hzr := hbel.size
      obtain ⟨m0, m1, m2, m3, m4, m5, m6, m7, m8, m9, m10, m11, ml⟩ := tw_cells ((hb0r.block w.heap.size l0).trans Q0.out)
      obtain ⟨s0, s1, s2, fs0, fs1, fs2, hls⟩ := three_cells ((hb0r.block (w.heap.size + 1) l1).trans Q1.out)
      clear fs0 fs1 fs2
      obtain ⟨x0, x1, x2, x3, x4, x5, x6, x7, hlx⟩ := eight_row ((hb0r.block (w.heap.size + 1 + 1) l2).trans Q2.out)
      have hrow := HR.out
      obtain ⟨f0, f1, f2, f3, hlf⟩ := four_row hrow
      have ff0 := frozen_of_row wr _ 0 _ _ hrow
      have ff1 := frozen_of_row wr _ 1 _ _ hrow
      have ff2 := frozen_of_row wr _ 2 _ _ hrow
      clear hrow
      rcases (by omega : k = 0 ∨ k = 1 ∨ k = 2 ∨ k = 3) with rfl | rfl | rfl | rfl
      · obtain ⟨k5, k6⟩ := kAx.out
        go_wp2_with fail
        refine wp_mixC (fun wc => Below (w7.heap.size) wr wc) 16 [.q [0, 1, 2, 3, 4, 5, 6, 7, 8, 9, 13], .f [10], .q [11, 12, 14], .f [15]] [] (by kernel_rfl) (by kernel_rfl) ((Below.refl _ _).drew) ?_
        intro Q' hQ'
        (rw [wpMixC]; simp only [pick, List.drop_succ_cons, List.drop_zero, List.head?_cons, Option.toList_some, List.cons_append, List.nil_append])
        (repeat (first | go_big_quiet_skip | (go_big_quiet_want; refine quiet_simple rfl ?_; go_big_quiet_op; go_big_quiet_on) | (go_big_quiet_want; refine quiet_cellB (ty := 3) rfl rfl (by kernel_rfl) (by assumption) (by first | omega | (simp; omega)) ?_; simp only [Act.put, List.setIfInBounds_toArray, List.set_cons_succ, List.set_cons_zero]; go_big_quiet_on)))
        (try refine wpQuiet_nil ?_)
        (rw [wpMixC]; simp only [pick, List.drop_succ_cons, List.drop_zero, List.head?_cons, Option.toList_some, List.cons_append, List.nil_append])
        (rw [wpSteps]; go_wp2_with ((go_at_call 27; refine (HM.out _).mono ?_; rintro _ _ ⟨rfl, rfl⟩)); rw [contF]; refine ⟨?_, ?_⟩; (next => (repeat (with_reducible first | exact Below.refl _ _ | assumption | refine Below.drewN _ ?_ | refine Below.drew ?_ | refine Below_alloc ?_ _ | refine Below.alloc ?_ (by first | (simp; done) | (simp; omega) | omega) _ | refine Below.setCell ?_ (by first | (simp; done) | (simp; omega) | omega) _ | refine Below_call ?_ (by assumption) | refine Below.trans ?_ (by assumption)))))
        (rw [wpSteps])
        (rw [wpMixC]; simp only [pick, List.drop_succ_cons, List.drop_zero, List.head?_cons, Option.toList_some, List.cons_append, List.nil_append])
        (repeat (first | go_big_quiet_skip | (go_big_quiet_want; refine quiet_simple rfl ?_; go_big_quiet_op; go_big_quiet_on) | (go_big_quiet_want; refine quiet_cellB (ty := 3) rfl rfl (by kernel_rfl) (by assumption) (by first | omega | (simp; omega)) ?_; simp only [Act.put, List.setIfInBounds_toArray, List.set_cons_succ, List.set_cons_zero]; go_big_quiet_on)))
        (try refine wpQuiet_nil ?_)
        (rw [wpMixC]; simp only [pick, List.drop_succ_cons, List.drop_zero, List.head?_cons, Option.toList_some, List.cons_append, List.nil_append])
        (rw [wpSteps]; go_wp2_with (fail); rw [contF]; refine ⟨?_, ?_⟩; (next => (repeat (with_reducible first | exact Below.refl _ _ | assumption | refine Below.drewN _ ?_ | refine Below.drew ?_ | refine Below_alloc ?_ _ | refine Below.alloc ?_ (by first | (simp; done) | (simp; omega) | omega) _ | refine Below.setCell ?_ (by first | (simp; done) | (simp; omega) | omega) _ | refine Below_call ?_ (by assumption) | refine Below.trans ?_ (by assumption)))))
        (rw [wpSteps])
        (rw [wpMixC])
        (rw [wpMix])
        (refine hQ' _ _ ?_)
        go_wp2_with fail
        go_roundw
        case rel => exact ⟨1, ax, o1, o2, by omega, by go_num, hid (heap_setCell_same _ _ 0 _ _ _ HR.out), hid ⟨fun _ => rfl, fun h => absurd h (by omega), fun h => absurd h (by omega)⟩, by (repeat (with_reducible first | exact Below.refl _ _ | assumption | refine Below.drewN _ ?_ | refine Below.drew ?_ | refine Below_alloc ?_ _ | refine Below.alloc ?_ (by first | (simp; done) | (simp; omega) | omega) _ | refine Below.setCell ?_ (by first | (simp; done) | (simp; omega) | omega) _ | refine Below_call ?_ (by assumption) | refine Below.trans ?_ (by assumption)))⟩
        case measure => simp [intOf]
      · obtain ⟨k5, k6⟩ := kAy.out
        go_wp2_with fail
        refine wp_mixC (fun wc => Below (w7.heap.size) wr wc) 16 [.q [0, 1, 2, 3, 4, 5, 6, 7, 8, 9, 13], .f [10], .q [11, 12, 14], .f [15]] [] (by kernel_rfl) (by kernel_rfl) ((Below.refl _ _).drew) ?_
        intro Q' hQ'
        (rw [wpMixC]; simp only [pick, List.drop_succ_cons, List.drop_zero, List.head?_cons, Option.toList_some, List.cons_append, List.nil_append])
        (repeat (first | go_big_quiet_skip | (go_big_quiet_want; refine quiet_simple rfl ?_; go_big_quiet_op; go_big_quiet_on) | (go_big_quiet_want; refine quiet_cellB (ty := 3) rfl rfl (by kernel_rfl) (by assumption) (by first | omega | (simp; omega)) ?_; simp only [Act.put, List.setIfInBounds_toArray, List.set_cons_succ, List.set_cons_zero]; go_big_quiet_on)))
        (try refine wpQuiet_nil ?_)
        (rw [wpMixC]; simp only [pick, List.drop_succ_cons, List.drop_zero, List.head?_cons, Option.toList_some, List.cons_append, List.nil_append])
        (rw [wpSteps]; go_wp2_with ((go_at_call 27; refine (HM.out _).mono ?_; rintro _ _ ⟨rfl, rfl⟩)); rw [contF]; refine ⟨?_, ?_⟩; (next => (repeat (with_reducible first | exact Below.refl _ _ | assumption | refine Below.drewN _ ?_ | refine Below.drew ?_ | refine Below_alloc ?_ _ | refine Below.alloc ?_ (by first | (simp; done) | (simp; omega) | omega) _ | refine Below.setCell ?_ (by first | (simp; done) | (simp; omega) | omega) _ | refine Below_call ?_ (by assumption) | refine Below.trans ?_ (by assumption)))))
        (rw [wpSteps])
        (rw [wpMixC]; simp only [pick, List.drop_succ_cons, List.drop_zero, List.head?_cons, Option.toList_some, List.cons_append, List.nil_append])
        (repeat (first | go_big_quiet_skip | (go_big_quiet_want; refine quiet_simple rfl ?_; go_big_quiet_op; go_big_quiet_on) | (go_big_quiet_want; refine quiet_cellB (ty := 3) rfl rfl (by kernel_rfl) (by assumption) (by first | omega | (simp; omega)) ?_; simp only [Act.put, List.setIfInBounds_toArray, List.set_cons_succ, List.set_cons_zero]; go_big_quiet_on)))
        (try refine wpQuiet_nil ?_)
        (rw [wpMixC]; simp only [pick, List.drop_succ_cons, List.drop_zero, List.head?_cons, Option.toList_some, List.cons_append, List.nil_append])
        (rw [wpSteps]; go_wp2_with (fail); rw [contF]; refine ⟨?_, ?_⟩; (next => (repeat (with_reducible first | exact Below.refl _ _ | assumption | refine Below.drewN _ ?_ | refine Below.drew ?_ | refine Below_alloc ?_ _ | refine Below.alloc ?_ (by first | (simp; done) | (simp; omega) | omega) _ | refine Below.setCell ?_ (by first | (simp; done) | (simp; omega) | omega) _ | refine Below_call ?_ (by assumption) | refine Below.trans ?_ (by assumption)))))
        (rw [wpSteps])
        (rw [wpMixC])
        (rw [wpMix])
        (refine hQ' _ _ ?_)
        go_wp2_with fail
        go_roundw
        case rel => exact ⟨2, o0, ay, o2, by omega, by go_num, hid (heap_setCell_same _ _ 1 _ _ _ HR.out), hid ⟨fun _ => HO.out.1 (by omega), fun _ => rfl, fun h => absurd h (by omega)⟩, by (repeat (with_reducible first | exact Below.refl _ _ | assumption | refine Below.drewN _ ?_ | refine Below.drew ?_ | refine Below_alloc ?_ _ | refine Below.alloc ?_ (by first | (simp; done) | (simp; omega) | omega) _ | refine Below.setCell ?_ (by first | (simp; done) | (simp; omega) | omega) _ | refine Below_call ?_ (by assumption) | refine Below.trans ?_ (by assumption)))⟩
        case measure => simp [intOf]
      · obtain ⟨k5, k6⟩ := kAz.out
        go_wp2_with fail
        refine wp_mixC (fun wc => Below (w7.heap.size) wr wc) 16 [.q [0, 1, 2, 3, 4, 5, 6, 7, 8, 9, 13], .f [10], .q [11, 12, 14], .f [15]] [] (by kernel_rfl) (by kernel_rfl) ((Below.refl _ _).drew) ?_
        intro Q' hQ'
        (rw [wpMixC]; simp only [pick, List.drop_succ_cons, List.drop_zero, List.head?_cons, Option.toList_some, List.cons_append, List.nil_append])
        (repeat (first | go_big_quiet_skip | (go_big_quiet_want; refine quiet_simple rfl ?_; go_big_quiet_op; go_big_quiet_on) | (go_big_quiet_want; refine quiet_cellB (ty := 3) rfl rfl (by kernel_rfl) (by assumption) (by first | omega | (simp; omega)) ?_; simp only [Act.put, List.setIfInBounds_toArray, List.set_cons_succ, List.set_cons_zero]; go_big_quiet_on)))
        (try refine wpQuiet_nil ?_)
        (rw [wpMixC]; simp only [pick, List.drop_succ_cons, List.drop_zero, List.head?_cons, Option.toList_some, List.cons_append, List.nil_append])
        (rw [wpSteps]; go_wp2_with ((go_at_call 27; refine (HM.out _).mono ?_; rintro _ _ ⟨rfl, rfl⟩)); rw [contF]; refine ⟨?_, ?_⟩; (next => (repeat (with_reducible first | exact Below.refl _ _ | assumption | refine Below.drewN _ ?_ | refine Below.drew ?_ | refine Below_alloc ?_ _ | refine Below.alloc ?_ (by first | (simp; done) | (simp; omega) | omega) _ | refine Below.setCell ?_ (by first | (simp; done) | (simp; omega) | omega) _ | refine Below_call ?_ (by assumption) | refine Below.trans ?_ (by assumption)))))
        (rw [wpSteps])
        (rw [wpMixC]; simp only [pick, List.drop_succ_cons, List.drop_zero, List.head?_cons, Option.toList_some, List.cons_append, List.nil_append])
        (repeat (first | go_big_quiet_skip | (go_big_quiet_want; refine quiet_simple rfl ?_; go_big_quiet_op; go_big_quiet_on) | (go_big_quiet_want; refine quiet_cellB (ty := 3) rfl rfl (by kernel_rfl) (by assumption) (by first | omega | (simp; omega)) ?_; simp only [Act.put, List.setIfInBounds_toArray, List.set_cons_succ, List.set_cons_zero]; go_big_quiet_on)))
        (try refine wpQuiet_nil ?_)
        (rw [wpMixC]; simp only [pick, List.drop_succ_cons, List.drop_zero, List.head?_cons, Option.toList_some, List.cons_append, List.nil_append])
        (rw [wpSteps]; go_wp2_with (fail); rw [contF]; refine ⟨?_, ?_⟩; (next => (repeat (with_reducible first | exact Below.refl _ _ | assumption | refine Below.drewN _ ?_ | refine Below.drew ?_ | refine Below_alloc ?_ _ | refine Below.alloc ?_ (by first | (simp; done) | (simp; omega) | omega) _ | refine Below.setCell ?_ (by first | (simp; done) | (simp; omega) | omega) _ | refine Below_call ?_ (by assumption) | refine Below.trans ?_ (by assumption)))))
        (rw [wpSteps])
        (rw [wpMixC])
        (rw [wpMix])
        (refine hQ' _ _ ?_)
        go_wp2_with fail
        go_roundw
        case rel => exact ⟨3, o0, o1, az, by omega, by go_num, hid (heap_setCell_same _ _ 2 _ _ _ HR.out), hid ⟨fun _ => HO.out.1 (by omega), fun _ => HO.out.2.1 (by omega), fun _ => rfl⟩, by (repeat (with_reducible first | exact Below.refl _ _ | assumption | refine Below.drewN _ ?_ | refine Below.drew ?_ | refine Below_alloc ?_ _ | refine Below.alloc ?_ (by first | (simp; done) | (simp; omega) | omega) _ | refine Below.setCell ?_ (by first | (simp; done) | (simp; omega) | omega) _ | refine Below_call ?_ (by assumption) | refine Below.trans ?_ (by assumption)))⟩
        case measure => simp [intOf]
      · have e0 := HO.out.1 (by omega)
        have e1 := HO.out.2.1 (by omega)
        have e2 := HO.out.2.2 (by omega)
        have HR9 : Hid (wr.heap[w7.heap.size]? = some (.cells #[.int .i64 ax, .int .i64 ay, .int .i64 az, .int .i64 at_] 28 (0, 0))) := hid (by have := HR.out; rw [e0, e1, e2] at this; exact this)
        clear HR HO e0 e1 e2 f0 f1 f2 f3 hlf ff0 ff1 ff2
        obtain ⟨f0, f1, f2, f3, hlf⟩ := four_row HR9.out
        go_wp2_with fail
        refine (RM.out _).mono ?_
        rintro _ w9 ⟨rfl, hb9⟩
        have HR10 := hid ((hb9.block w7.heap.size hlf).trans HR9.out)
        have hb09 : Below W0.heap.size W0 w9 := hb0r.trans (hb9.mono hb0r.size)
        clear m0 m1 m2 m3 m4 m5 m6 m7 m8 m9 m10 m11 ml s0 s1 s2 hls x0 x1 x2 x3 x4 x5 x6 x7 hlx f0 f1 f2 f3 hlf
        obtain ⟨m0, m1, m2, m3, m4, m5, m6, m7, m8, m9, m10, m11, ml⟩ := tw_cells ((hb09.block w.heap.size l0).trans Q0.out)
        obtain ⟨s0, s1, s2, fs0, fs1, fs2, hls⟩ := three_cells ((hb09.block (w.heap.size + 1) l1).trans Q1.out)
        clear fs0 fs1 fs2
        obtain ⟨x0, x1, x2, x3, x4, x5, x6, x7, hlx⟩ := eight_row ((hb09.block (w.heap.size + 1 + 1) l2).trans Q2.out)
        clear HR8 HR9 HR10 hbX8 hbel hz07 hzr
        go_wp2_with fail
        refine wp_mixC (fun wc => Below (w9.heap.size) w9 wc) 6 [.q [0, 1, 2], .p 3 4, .f [5]] [.f [6]] (by kernel_rfl) (by kernel_rfl) ((Below.refl _ _).drew) ?_
        intro Q' hQ'
        (rw [wpMixC]; simp only [pick, List.drop_succ_cons, List.drop_zero, List.head?_cons, Option.toList_some, List.cons_append, List.nil_append])
        (repeat (first | go_big_quiet_skip | (go_big_quiet_want; refine quiet_simple rfl ?_; go_big_quiet_op; go_big_quiet_on) | (go_big_quiet_want; refine quiet_agg3B (ty := 22) rfl rfl (by kernel_rfl) (by assumption) (by assumption) (by assumption) (by first | omega | (simp; omega)) ?_; simp only [Act.put, List.setIfInBounds_toArray, List.set_cons_succ, List.set_cons_zero]; go_big_quiet_on) | (go_big_quiet_want; refine quiet_agg12B (ty := 26) rfl rfl (by kernel_rfl) (by assumption) (by assumption) (by assumption) (by assumption) (by assumption) (by assumption) (by assumption) (by assumption) (by assumption) (by assumption) (by assumption) (by assumption) (by first | omega | (simp; omega)) ?_; simp only [Act.put, List.setIfInBounds_toArray, List.set_cons_succ, List.set_cons_zero]; go_big_quiet_on)))
        (try refine wpQuiet_nil ?_)
        (rw [wpMixC]; simp only [pick, List.drop_succ_cons, List.drop_zero, List.head?_cons, Option.toList_some, List.cons_append, List.nil_append])
        (refine ⟨?_, ?_⟩)
        all_goals (rw [wpSteps]; go_wp2_with (fail); rw [contF]; refine ⟨?_, ?_⟩; (next => (repeat (with_reducible first | exact Below.refl _ _ | assumption | refine Below.drewN _ ?_ | refine Below.drew ?_ | refine Below_alloc ?_ _ | refine Below.alloc ?_ (by first | (simp; done) | (simp; omega) | omega) _ | refine Below.setCell ?_ (by first | (simp; done) | (simp; omega) | omega) _ | refine Below_call ?_ (by assumption) | refine Below.trans ?_ (by assumption)))))
        all_goals (rw [wpSteps]; go_wp2_with (fail); rw [contF]; refine ⟨?_, ?_⟩; (next => (repeat (with_reducible first | exact Below.refl _ _ | assumption | refine Below.drewN _ ?_ | refine Below.drew ?_ | refine Below_alloc ?_ _ | refine Below.alloc ?_ (by first | (simp; done) | (simp; omega) | omega) _ | refine Below.setCell ?_ (by first | (simp; done) | (simp; omega) | omega) _ | refine Below_call ?_ (by assumption) | refine Below.trans ?_ (by assumption)))))
        all_goals (rw [wpSteps])
        all_goals (rw [wpMixC]; simp only [pick, List.drop_succ_cons, List.drop_zero, List.head?_cons, Option.toList_some, List.cons_append, List.nil_append])
        all_goals (rw [wpSteps]; go_wp2_with (fail); rw [contF]; refine ⟨?_, ?_⟩; (next => (repeat (with_reducible first | exact Below.refl _ _ | assumption | refine Below.drewN _ ?_ | refine Below.drew ?_ | refine Below_alloc ?_ _ | refine Below.alloc ?_ (by first | (simp; done) | (simp; omega) | omega) _ | refine Below.setCell ?_ (by first | (simp; done) | (simp; omega) | omega) _ | refine Below_call ?_ (by assumption) | refine Below.trans ?_ (by assumption)))))
        all_goals (rw [wpSteps])
        all_goals (rw [wpMixC])
        all_goals (rw [wpMix]; simp only [pick, List.drop_succ_cons, List.drop_zero, List.head?_cons, Option.toList_some, List.cons_append, List.nil_append])
        all_goals (go_wp2_with ((first | fail)); rw [contF])
        all_goals (rw [wpMix])
        all_goals (refine hQ' _ _ ?_)
        · obtain ⟨W11, hW11⟩ : ∃ W11, W11 = ((w9.alloc (.cells #[.int .i64 px, .int .i64 py, .int .i64 pz, .int .i64 tm, .int .i64 tk, .int .i64 lo, .int .i64 hi, .int .i64 li, .int .i64 ea, .int .i64 la, .int .i64 no, .int .i64 mi] 26)).alloc (.cells #[.int .i64 qx, .int .i64 qy, .int .i64 qz] 22)).drew := ⟨_, rfl⟩
          have hbX11 : Below W0.heap.size W0 W11 := by rw [hW11]; (repeat (with_reducible first | exact Below.refl _ _ | assumption | refine Below.drewN _ ?_ | refine Below.drew ?_ | refine Below_alloc ?_ _ | refine Below.alloc ?_ (by first | (simp; done) | (simp; omega) | omega) _ | refine Below.setCell ?_ (by first | (simp; done) | (simp; omega) | omega) _ | refine Below_call ?_ (by assumption) | refine Below.trans ?_ (by assumption)))
          obtain ⟨y0, y1, ly0, ly1⟩ := al2 w9 _ _ _ _ _ rfl
          have YM := hid (show W11.heap[w9.heap.size]? = some (.cells #[.int .i64 px, .int .i64 py, .int .i64 pz, .int .i64 tm, .int .i64 tk, .int .i64 lo, .int .i64 hi, .int .i64 li, .int .i64 ea, .int .i64 la, .int .i64 no, .int .i64 mi] 26 (0, 0)) by rw [hW11]; exact y0)
          have YP := hid (show W11.heap[(w9.heap.size + 1)]? = some (.cells #[.int .i64 qx, .int .i64 qy, .int .i64 qz] 22 (0, 0)) by rw [hW11]; exact y1)
          clear y0 y1 ly0 ly1
          clear m0 m1 m2 m3 m4 m5 m6 m7 m8 m9 m10 m11 ml s0 s1 s2 hls x0 x1 x2 x3 x4 x5 x6 x7 hlx
          obtain ⟨m0, m1, m2, m3, m4, m5, m6, m7, m8, m9, m10, m11, ml⟩ := tw_cells ((hbX11.block w.heap.size l0).trans Q0.out)
          obtain ⟨s0, s1, s2, fs0, fs1, fs2, hls⟩ := three_cells ((hbX11.block (w.heap.size + 1) l1).trans Q1.out)
          clear fs0 fs1 fs2
          obtain ⟨x0, x1, x2, x3, x4, x5, x6, x7, hlx⟩ := eight_row ((hbX11.block (w.heap.size + 1 + 1) l2).trans Q2.out)
          have fm3 := frozen_of_row W11 w9.heap.size 3 _ _ YM.out
          have g3 : W11.cell? ⟨w9.heap.size, 3, none⟩ = some (.int .i64 tm) := by rw [cell_of_row W11 _ 3 _ _ (0, 0) YM.out]; rfl
          have hlm : w9.heap.size < W11.heap.size := (Array.getElem?_eq_some_iff.1 YM.out).1
          have hzq := hb09.size
          rw [← hW11]
          clear hW11
          go_wp2_with fail
          obtain ⟨W12, hW12⟩ : ∃ W12, W12 = W11.setCell ⟨w9.heap.size, 3, none⟩ (.int .i64 ut) := ⟨_, rfl⟩
          have hbX12 : Below W0.heap.size W0 W12 := by rw [hW12]; exact hbX11.setCell (by show W0.heap.size ≤ w9.heap.size; omega) _
          have ZM := hid (show W12.heap[w9.heap.size]? = some (.cells #[.int .i64 px, .int .i64 py, .int .i64 pz, .int .i64 ut, .int .i64 tk, .int .i64 lo, .int .i64 hi, .int .i64 li, .int .i64 ea, .int .i64 la, .int .i64 no, .int .i64 mi] 26 (0, 0)) by rw [hW12]; exact heap_setCell_same _ _ 3 _ _ _ YM.out)
          have ZP := hid (show W12.heap[(w9.heap.size + 1)]? = some (.cells #[.int .i64 qx, .int .i64 qy, .int .i64 qz] 22 (0, 0)) by rw [hW12, heap_setCell_ne _ _ _ _ _ (by omega)]; exact YP.out)
          clear YM YP fm3 g3 hlm hbX11
          clear m0 m1 m2 m3 m4 m5 m6 m7 m8 m9 m10 m11 ml s0 s1 s2 hls x0 x1 x2 x3 x4 x5 x6 x7 hlx
          rw [← hW12]
          clear hW12
          go_loopw [22] (fun i wr => ∃ (k : Nat) (o0 o1 o2 u0 u1 u2 : Int), k ≤ 3 ∧ i = .int .i64 k ∧ Hid (wr.heap[w9.heap.size]? = some (.cells #[.int .i64 o0, .int .i64 o1, .int .i64 o2, .int .i64 ut, .int .i64 tk, .int .i64 lo, .int .i64 hi, .int .i64 li, .int .i64 ea, .int .i64 la, .int .i64 no, .int .i64 mi] 26 (0, 0))) ∧ Hid (wr.heap[(w9.heap.size + 1)]? = some (.cells #[.int .i64 u0, .int .i64 u1, .int .i64 u2] 22 (0, 0))) ∧ Hid (((0 < k → o0 = ux) ∧ (1 < k → o1 = uy) ∧ (2 < k → o2 = uz)) ∧ ((0 < k → u0 = ex) ∧ (1 < k → u1 = ey) ∧ (2 < k → u2 = ez))) ∧ Below W0.heap.size W0 wr) (fun i _ => 3 - (intOf i).toNat)
          case atStart => exact ⟨0, _, _, _, _, _, _, by omega, rfl, ZM, ZP, hid ⟨⟨by omega, by omega, by omega⟩, ⟨by omega, by omega, by omega⟩⟩, hbX12⟩
          case round =>
            obtain ⟨k, o0, o1, o2, u0, u1, u2, hk, rfl, HRM, HRP, HO, hb0s⟩ := hrel
            obtain ⟨m0, m1, m2, m3, m4, m5, m6, m7, m8, m9, m10, m11, ml⟩ := tw_cells ((hb0s.block w.heap.size l0).trans Q0.out)
            obtain ⟨s0, s1, s2, fs0, fs1, fs2, hls⟩ := three_cells ((hb0s.block (w.heap.size + 1) l1).trans Q1.out)
            clear fs0 fs1 fs2
            obtain ⟨x0, x1, x2, x3, x4, x5, x6, x7, hlx⟩ := eight_row ((hb0s.block (w.heap.size + 1 + 1) l2).trans Q2.out)
            obtain ⟨d0, d1, d2, fd0, fd1, fd2, hld⟩ := three_cells HRP.out
            have fm0 := frozen_of_row wr _ 0 _ _ HRM.out
            have fm1 := frozen_of_row wr _ 1 _ _ HRM.out
            have fm2 := frozen_of_row wr _ 2 _ _ HRM.out
            obtain ⟨g0, g1, g2, g3, g4, g5, g6, g7, g8, g9, g10, g11, gl⟩ := tw_cells HRM.out
            rcases (by omega : k = 0 ∨ k = 1 ∨ k = 2 ∨ k = 3) with rfl | rfl | rfl | rfl
            · obtain ⟨k5, k6⟩ := kBx.out
              go_wp2_with fail
              refine wp_mixC (fun wc => Below (W0.heap.size) wr wc) 23 [.q [0, 1, 2, 3, 4, 5, 6, 7, 8, 9, 10, 11, 12, 13, 14, 15, 16, 17, 18, 19, 20, 21], .f [22]] [.q [23], .f [24]] (by kernel_rfl) (by kernel_rfl) ((Below.refl _ _).drew) ?_
              intro Q' hQ'
              (rw [wpMixC]; simp only [pick, List.drop_succ_cons, List.drop_zero, List.head?_cons, Option.toList_some, List.cons_append, List.nil_append])
              (repeat (first | go_big_quiet_skip | (go_big_quiet_want; refine quiet_simple rfl ?_; go_big_quiet_op; go_big_quiet_on) | (go_big_quiet_want; refine quiet_cellB (ty := 3) rfl rfl (by kernel_rfl) (by assumption) (by first | omega | (simp; omega)) ?_; simp only [Act.put, List.setIfInBounds_toArray, List.set_cons_succ, List.set_cons_zero]; go_big_quiet_on)))
              (try refine wpQuiet_nil ?_)
              (rw [wpMixC]; simp only [pick, List.drop_succ_cons, List.drop_zero, List.head?_cons, Option.toList_some, List.cons_append, List.nil_append])
              (rw [wpSteps]; go_wp2_with (fail); rw [contF]; refine ⟨?_, ?_⟩; (next => (repeat (with_reducible first | exact Below.refl _ _ | assumption | refine Below.drewN _ ?_ | refine Below.drew ?_ | refine Below_alloc ?_ _ | refine Below.alloc ?_ (by first | (simp; done) | (simp; omega) | omega) _ | refine Below.setCell ?_ (by first | (simp; done) | (simp; omega) | omega) _ | refine Below_call ?_ (by assumption) | refine Below.trans ?_ (by assumption)))))
              (rw [wpSteps])
              (rw [wpMixC])
              (rw [wpMix]; simp only [pick, List.drop_succ_cons, List.drop_zero, List.head?_cons, Option.toList_some, List.cons_append, List.nil_append])
              (repeat (first | (go_big_quiet_step (fail)) | (quiet_step (fail))))
              (try refine wpQuiet_nil ?_)
              (rw [wpMix]; simp only [pick, List.drop_succ_cons, List.drop_zero, List.head?_cons, Option.toList_some, List.cons_append, List.nil_append])
              (go_wp2_with ((first | fail)); rw [contF])
              (rw [wpMix])
              (refine hQ' _ _ ?_)
              go_wp2_with fail
              go_roundw
              case rel => exact ⟨1, ux, o1, o2, ex, u1, u2, by omega, by go_num, hid ((heap_setCell_ne _ (w9.heap.size) ((w9.heap.size + 1)) _ _ (by omega)).trans (heap_setCell_same _ _ 0 _ _ _ HRM.out)), hid (heap_setCell_same _ _ 0 _ _ _ ((heap_setCell_ne _ ((w9.heap.size + 1)) (w9.heap.size) _ _ (by omega)).trans HRP.out)), hid ⟨⟨fun _ => rfl, fun h => absurd h (by omega), fun h => absurd h (by omega)⟩, ⟨fun _ => rfl, fun h => absurd h (by omega), fun h => absurd h (by omega)⟩⟩, by (repeat (with_reducible first | exact Below.refl _ _ | assumption | refine Below.drewN _ ?_ | refine Below.drew ?_ | refine Below_alloc ?_ _ | refine Below.alloc ?_ (by first | (simp; done) | (simp; omega) | omega) _ | refine Below.setCell ?_ (by first | (simp; done) | (simp; omega) | omega) _ | refine Below_call ?_ (by assumption) | refine Below.trans ?_ (by assumption)))⟩
              case measure => simp [intOf]
            · obtain ⟨k5, k6⟩ := kBy.out
              go_wp2_with fail
              refine wp_mixC (fun wc => Below (W0.heap.size) wr wc) 23 [.q [0, 1, 2, 3, 4, 5, 6, 7, 8, 9, 10, 11, 12, 13, 14, 15, 16, 17, 18, 19, 20, 21], .f [22]] [.q [23], .f [24]] (by kernel_rfl) (by kernel_rfl) ((Below.refl _ _).drew) ?_
              intro Q' hQ'
              (rw [wpMixC]; simp only [pick, List.drop_succ_cons, List.drop_zero, List.head?_cons, Option.toList_some, List.cons_append, List.nil_append])
              (repeat (first | go_big_quiet_skip | (go_big_quiet_want; refine quiet_simple rfl ?_; go_big_quiet_op; go_big_quiet_on) | (go_big_quiet_want; refine quiet_cellB (ty := 3) rfl rfl (by kernel_rfl) (by assumption) (by first | omega | (simp; omega)) ?_; simp only [Act.put, List.setIfInBounds_toArray, List.set_cons_succ, List.set_cons_zero]; go_big_quiet_on)))
              (try refine wpQuiet_nil ?_)
              (rw [wpMixC]; simp only [pick, List.drop_succ_cons, List.drop_zero, List.head?_cons, Option.toList_some, List.cons_append, List.nil_append])
              (rw [wpSteps]; go_wp2_with (fail); rw [contF]; refine ⟨?_, ?_⟩; (next => (repeat (with_reducible first | exact Below.refl _ _ | assumption | refine Below.drewN _ ?_ | refine Below.drew ?_ | refine Below_alloc ?_ _ | refine Below.alloc ?_ (by first | (simp; done) | (simp; omega) | omega) _ | refine Below.setCell ?_ (by first | (simp; done) | (simp; omega) | omega) _ | refine Below_call ?_ (by assumption) | refine Below.trans ?_ (by assumption)))))
              (rw [wpSteps])
              (rw [wpMixC])
              (rw [wpMix]; simp only [pick, List.drop_succ_cons, List.drop_zero, List.head?_cons, Option.toList_some, List.cons_append, List.nil_append])
              (repeat (first | (go_big_quiet_step (fail)) | (quiet_step (fail))))
              (try refine wpQuiet_nil ?_)
              (rw [wpMix]; simp only [pick, List.drop_succ_cons, List.drop_zero, List.head?_cons, Option.toList_some, List.cons_append, List.nil_append])
              (go_wp2_with ((first | fail)); rw [contF])
              (rw [wpMix])
              (refine hQ' _ _ ?_)
              go_wp2_with fail
              go_roundw
              case rel => exact ⟨2, o0, uy, o2, u0, ey, u2, by omega, by go_num, hid ((heap_setCell_ne _ (w9.heap.size) ((w9.heap.size + 1)) _ _ (by omega)).trans (heap_setCell_same _ _ 1 _ _ _ HRM.out)), hid (heap_setCell_same _ _ 1 _ _ _ ((heap_setCell_ne _ ((w9.heap.size + 1)) (w9.heap.size) _ _ (by omega)).trans HRP.out)), hid ⟨⟨fun _ => HO.out.1.1 (by omega), fun _ => rfl, fun h => absurd h (by omega)⟩, ⟨fun _ => HO.out.2.1 (by omega), fun _ => rfl, fun h => absurd h (by omega)⟩⟩, by (repeat (with_reducible first | exact Below.refl _ _ | assumption | refine Below.drewN _ ?_ | refine Below.drew ?_ | refine Below_alloc ?_ _ | refine Below.alloc ?_ (by first | (simp; done) | (simp; omega) | omega) _ | refine Below.setCell ?_ (by first | (simp; done) | (simp; omega) | omega) _ | refine Below_call ?_ (by assumption) | refine Below.trans ?_ (by assumption)))⟩
              case measure => simp [intOf]
            · obtain ⟨k5, k6⟩ := kBz.out
              go_wp2_with fail
              refine wp_mixC (fun wc => Below (W0.heap.size) wr wc) 23 [.q [0, 1, 2, 3, 4, 5, 6, 7, 8, 9, 10, 11, 12, 13, 14, 15, 16, 17, 18, 19, 20, 21], .f [22]] [.q [23], .f [24]] (by kernel_rfl) (by kernel_rfl) ((Below.refl _ _).drew) ?_
              intro Q' hQ'
              (rw [wpMixC]; simp only [pick, List.drop_succ_cons, List.drop_zero, List.head?_cons, Option.toList_some, List.cons_append, List.nil_append])
              (repeat (first | go_big_quiet_skip | (go_big_quiet_want; refine quiet_simple rfl ?_; go_big_quiet_op; go_big_quiet_on) | (go_big_quiet_want; refine quiet_cellB (ty := 3) rfl rfl (by kernel_rfl) (by assumption) (by first | omega | (simp; omega)) ?_; simp only [Act.put, List.setIfInBounds_toArray, List.set_cons_succ, List.set_cons_zero]; go_big_quiet_on)))
              (try refine wpQuiet_nil ?_)
              (rw [wpMixC]; simp only [pick, List.drop_succ_cons, List.drop_zero, List.head?_cons, Option.toList_some, List.cons_append, List.nil_append])
              (rw [wpSteps]; go_wp2_with (fail); rw [contF]; refine ⟨?_, ?_⟩; (next => (repeat (with_reducible first | exact Below.refl _ _ | assumption | refine Below.drewN _ ?_ | refine Below.drew ?_ | refine Below_alloc ?_ _ | refine Below.alloc ?_ (by first | (simp; done) | (simp; omega) | omega) _ | refine Below.setCell ?_ (by first | (simp; done) | (simp; omega) | omega) _ | refine Below_call ?_ (by assumption) | refine Below.trans ?_ (by assumption)))))
              (rw [wpSteps])
              (rw [wpMixC])
              (rw [wpMix]; simp only [pick, List.drop_succ_cons, List.drop_zero, List.head?_cons, Option.toList_some, List.cons_append, List.nil_append])
              (repeat (first | (go_big_quiet_step (fail)) | (quiet_step (fail))))
              (try refine wpQuiet_nil ?_)
              (rw [wpMix]; simp only [pick, List.drop_succ_cons, List.drop_zero, List.head?_cons, Option.toList_some, List.cons_append, List.nil_append])
              (go_wp2_with ((first | fail)); rw [contF])
              (rw [wpMix])
              (refine hQ' _ _ ?_)
              go_wp2_with fail
              go_roundw
              case rel => exact ⟨3, o0, o1, uz, u0, u1, ez, by omega, by go_num, hid ((heap_setCell_ne _ (w9.heap.size) ((w9.heap.size + 1)) _ _ (by omega)).trans (heap_setCell_same _ _ 2 _ _ _ HRM.out)), hid (heap_setCell_same _ _ 2 _ _ _ ((heap_setCell_ne _ ((w9.heap.size + 1)) (w9.heap.size) _ _ (by omega)).trans HRP.out)), hid ⟨⟨fun _ => HO.out.1.1 (by omega), fun _ => HO.out.1.2.1 (by omega), fun _ => rfl⟩, ⟨fun _ => HO.out.2.1 (by omega), fun _ => HO.out.2.2.1 (by omega), fun _ => rfl⟩⟩, by (repeat (with_reducible first | exact Below.refl _ _ | assumption | refine Below.drewN _ ?_ | refine Below.drew ?_ | refine Below_alloc ?_ _ | refine Below.alloc ?_ (by first | (simp; done) | (simp; omega) | omega) _ | refine Below.setCell ?_ (by first | (simp; done) | (simp; omega) | omega) _ | refine Below_call ?_ (by assumption) | refine Below.trans ?_ (by assumption)))⟩
              case measure => simp [intOf]
            · have e0 := HO.out.1.1 (by omega)
              have e1 := HO.out.1.2.1 (by omega)
              have e2 := HO.out.1.2.2 (by omega)
              have j0 := HO.out.2.1 (by omega)
              have j1 := HO.out.2.2.1 (by omega)
              have j2 := HO.out.2.2.2 (by omega)
              have RMv : Hid (wr.heap[w9.heap.size]? = some (.cells #[.int .i64 ux, .int .i64 uy, .int .i64 uz, .int .i64 ut, .int .i64 tk, .int .i64 lo, .int .i64 hi, .int .i64 li, .int .i64 ea, .int .i64 la, .int .i64 no, .int .i64 mi] 26 (0, 0))) := hid (by have := HRM.out; rw [e0, e1, e2] at this; exact this)
              have RPv : Hid (wr.heap[(w9.heap.size + 1)]? = some (.cells #[.int .i64 ex, .int .i64 ey, .int .i64 ez] 22 (0, 0))) := hid (by have := HRP.out; rw [j0, j1, j2] at this; exact this)
              clear HRM HRP HO e0 e1 e2 j0 j1 j2 d0 d1 d2 fd0 fd1 fd2 hld fm0 fm1 fm2 g0 g1 g2 g3 g4 g5 g6 g7 g8 g9 g10 g11 gl ZM ZP hbX12
              obtain ⟨g0, g1, g2, g3, g4, g5, g6, g7, g8, g9, g10, g11, gl⟩ := tw_cells RMv.out
              obtain ⟨d0, d1, d2, fd0, fd1, fd2, hld⟩ := three_cells RPv.out
              clear fd0 fd1 fd2
              go_wp2_with fail
              refine (RE.out _).mono ?_
              rintro _ w20 ⟨rfl, hb20⟩
              have hb0t : Below W0.heap.size W0 w20 := hb0s.trans (hb20.mono hb0s.size)
              clear m0 m1 m2 m3 m4 m5 m6 m7 m8 m9 m10 m11 ml s0 s1 s2 hls x0 x1 x2 x3 x4 x5 x6 x7 hlx
              clear g0 g1 g2 g3 g4 g5 g6 g7 g8 g9 g10 g11 gl d0 d1 d2 hld
              obtain ⟨m0, m1, m2, m3, m4, m5, m6, m7, m8, m9, m10, m11, ml⟩ := tw_cells ((hb0t.block w.heap.size l0).trans Q0.out)
              obtain ⟨s0, s1, s2, fs0, fs1, fs2, hls⟩ := three_cells ((hb0t.block (w.heap.size + 1) l1).trans Q1.out)
              clear fs0 fs1 fs2
              obtain ⟨x0, x1, x2, x3, x4, x5, x6, x7, hlx⟩ := eight_row ((hb0t.block (w.heap.size + 1 + 1) l2).trans Q2.out)
              have RMv20 := hid ((hb20.block (w9.heap.size) (Array.getElem?_eq_some_iff.1 RMv.out).1).trans RMv.out)
              have RPv20 := hid ((hb20.block ((w9.heap.size + 1)) (Array.getElem?_eq_some_iff.1 RPv.out).1).trans RPv.out)
              obtain ⟨g0, g1, g2, g3, g4, g5, g6, g7, g8, g9, g10, g11, gl⟩ := tw_cells RMv20.out
              obtain ⟨d0, d1, d2, fd0, fd1, fd2, hld⟩ := three_cells RPv20.out
              clear fd0 fd1 fd2
              rcases HD.out with qM | ⟨qM, qP⟩ | ⟨qM, qP, HF2⟩
              · have hbe : Below w.heap.size w w20 := hbW0.trans (hb0t.mono hzW0)
                go_wp2_with fail
                refine (HF3.out _).mono ?_
                rintro _ w30 ⟨rfl, hb30⟩
                go_wp2_with fail
                go_ret
                exact ⟨rfl, by (repeat (with_reducible first | exact Below.refl _ _ | assumption | refine Below.drewN _ ?_ | refine Below.drew ?_ | refine Below_alloc ?_ _ | refine Below.alloc ?_ (by first | (simp; done) | (simp; omega) | omega) _ | refine Below.setCell ?_ (by first | (simp; done) | (simp; omega) | omega) _ | refine Below_call ?_ (by assumption) | refine Below.trans ?_ (by assumption)))⟩
              · go_wp2_with fail
                refine (RQ.out _).mono ?_
                rintro _ w21 ⟨rfl, hb21⟩
                have hb0u : Below W0.heap.size W0 w21 := hb0t.trans (hb21.mono hb0t.size)
                clear m0 m1 m2 m3 m4 m5 m6 m7 m8 m9 m10 m11 ml s0 s1 s2 hls x0 x1 x2 x3 x4 x5 x6 x7 hlx
                clear g0 g1 g2 g3 g4 g5 g6 g7 g8 g9 g10 g11 gl d0 d1 d2 hld
                obtain ⟨m0, m1, m2, m3, m4, m5, m6, m7, m8, m9, m10, m11, ml⟩ := tw_cells ((hb0u.block w.heap.size l0).trans Q0.out)
                obtain ⟨s0, s1, s2, fs0, fs1, fs2, hls⟩ := three_cells ((hb0u.block (w.heap.size + 1) l1).trans Q1.out)
                clear fs0 fs1 fs2
                obtain ⟨x0, x1, x2, x3, x4, x5, x6, x7, hlx⟩ := eight_row ((hb0u.block (w.heap.size + 1 + 1) l2).trans Q2.out)
                have hbe : Below w.heap.size w w21 := hbW0.trans (hb0u.mono hzW0)
                go_wp2_with fail
                refine (HF3.out _).mono ?_
                rintro _ w30 ⟨rfl, hb30⟩
                go_wp2_with fail
                go_ret
                exact ⟨rfl, by (repeat (with_reducible first | exact Below.refl _ _ | assumption | refine Below.drewN _ ?_ | refine Below.drew ?_ | refine Below_alloc ?_ _ | refine Below.alloc ?_ (by first | (simp; done) | (simp; omega) | omega) _ | refine Below.setCell ?_ (by first | (simp; done) | (simp; omega) | omega) _ | refine Below_call ?_ (by assumption) | refine Below.trans ?_ (by assumption)))⟩
              · go_wp2_with fail
                refine (RQ.out _).mono ?_
                rintro _ w21 ⟨rfl, hb21⟩
                have hb0u : Below W0.heap.size W0 w21 := hb0t.trans (hb21.mono hb0t.size)
                clear m0 m1 m2 m3 m4 m5 m6 m7 m8 m9 m10 m11 ml s0 s1 s2 hls x0 x1 x2 x3 x4 x5 x6 x7 hlx
                clear g0 g1 g2 g3 g4 g5 g6 g7 g8 g9 g10 g11 gl d0 d1 d2 hld
                obtain ⟨m0, m1, m2, m3, m4, m5, m6, m7, m8, m9, m10, m11, ml⟩ := tw_cells ((hb0u.block w.heap.size l0).trans Q0.out)
                obtain ⟨s0, s1, s2, fs0, fs1, fs2, hls⟩ := three_cells ((hb0u.block (w.heap.size + 1) l1).trans Q1.out)
                clear fs0 fs1 fs2
                obtain ⟨x0, x1, x2, x3, x4, x5, x6, x7, hlx⟩ := eight_row ((hb0u.block (w.heap.size + 1 + 1) l2).trans Q2.out)
                have RMv21 := hid ((hb21.block (w9.heap.size) (Array.getElem?_eq_some_iff.1 RMv20.out).1).trans RMv20.out)
                have RPv21 := hid ((hb21.block ((w9.heap.size + 1)) (Array.getElem?_eq_some_iff.1 RPv20.out).1).trans RPv20.out)
                obtain ⟨g0, g1, g2, g3, g4, g5, g6, g7, g8, g9, g10, g11, gl⟩ := tw_cells RMv21.out
                obtain ⟨d0, d1, d2, fd0, fd1, fd2, hld⟩ := three_cells RPv21.out
                clear fd0 fd1 fd2
                go_wp2_with fail
                refine (HF2.out _).mono ?_
                rintro _ w22 ⟨rfl, hb22⟩
                have hb0v : Below W0.heap.size W0 w22 := hb0u.trans (hb22.mono hb0u.size)
                clear m0 m1 m2 m3 m4 m5 m6 m7 m8 m9 m10 m11 ml s0 s1 s2 hls x0 x1 x2 x3 x4 x5 x6 x7 hlx
                clear g0 g1 g2 g3 g4 g5 g6 g7 g8 g9 g10 g11 gl d0 d1 d2 hld
                obtain ⟨m0, m1, m2, m3, m4, m5, m6, m7, m8, m9, m10, m11, ml⟩ := tw_cells ((hb0v.block w.heap.size l0).trans Q0.out)
                obtain ⟨s0, s1, s2, fs0, fs1, fs2, hls⟩ := three_cells ((hb0v.block (w.heap.size + 1) l1).trans Q1.out)
                clear fs0 fs1 fs2
                obtain ⟨x0, x1, x2, x3, x4, x5, x6, x7, hlx⟩ := eight_row ((hb0v.block (w.heap.size + 1 + 1) l2).trans Q2.out)
                have hbe : Below w.heap.size w w22 := hbW0.trans (hb0v.mono hzW0)
                go_wp2_with fail
                refine (HF3.out _).mono ?_
                rintro _ w30 ⟨rfl, hb30⟩
                go_wp2_with fail
                go_ret
                exact ⟨rfl, by (repeat (with_reducible first | exact Below.refl _ _ | assumption | refine Below.drewN _ ?_ | refine Below.drew ?_ | refine Below_alloc ?_ _ | refine Below.alloc ?_ (by first | (simp; done) | (simp; omega) | omega) _ | refine Below.setCell ?_ (by first | (simp; done) | (simp; omega) | omega) _ | refine Below_call ?_ (by assumption) | refine Below.trans ?_ (by assumption)))⟩
        · obtain ⟨W11, hW11⟩ : ∃ W11, W11 = ((w9.alloc (.cells #[.int .i64 qx, .int .i64 qy, .int .i64 qz] 22)).alloc (.cells #[.int .i64 px, .int .i64 py, .int .i64 pz, .int .i64 tm, .int .i64 tk, .int .i64 lo, .int .i64 hi, .int .i64 li, .int .i64 ea, .int .i64 la, .int .i64 no, .int .i64 mi] 26)).drew := ⟨_, rfl⟩
          have hbX11 : Below W0.heap.size W0 W11 := by rw [hW11]; (repeat (with_reducible first | exact Below.refl _ _ | assumption | refine Below.drewN _ ?_ | refine Below.drew ?_ | refine Below_alloc ?_ _ | refine Below.alloc ?_ (by first | (simp; done) | (simp; omega) | omega) _ | refine Below.setCell ?_ (by first | (simp; done) | (simp; omega) | omega) _ | refine Below_call ?_ (by assumption) | refine Below.trans ?_ (by assumption)))
          obtain ⟨y0, y1, ly0, ly1⟩ := al2 w9 _ _ _ _ _ rfl
          have YM := hid (show W11.heap[(w9.heap.size + 1)]? = some (.cells #[.int .i64 px, .int .i64 py, .int .i64 pz, .int .i64 tm, .int .i64 tk, .int .i64 lo, .int .i64 hi, .int .i64 li, .int .i64 ea, .int .i64 la, .int .i64 no, .int .i64 mi] 26 (0, 0)) by rw [hW11]; exact y1)
          have YP := hid (show W11.heap[w9.heap.size]? = some (.cells #[.int .i64 qx, .int .i64 qy, .int .i64 qz] 22 (0, 0)) by rw [hW11]; exact y0)
          clear y0 y1 ly0 ly1
          clear m0 m1 m2 m3 m4 m5 m6 m7 m8 m9 m10 m11 ml s0 s1 s2 hls x0 x1 x2 x3 x4 x5 x6 x7 hlx
          obtain ⟨m0, m1, m2, m3, m4, m5, m6, m7, m8, m9, m10, m11, ml⟩ := tw_cells ((hbX11.block w.heap.size l0).trans Q0.out)
          obtain ⟨s0, s1, s2, fs0, fs1, fs2, hls⟩ := three_cells ((hbX11.block (w.heap.size + 1) l1).trans Q1.out)
          clear fs0 fs1 fs2
          obtain ⟨x0, x1, x2, x3, x4, x5, x6, x7, hlx⟩ := eight_row ((hbX11.block (w.heap.size + 1 + 1) l2).trans Q2.out)
          have fm3 := frozen_of_row W11 (w9.heap.size + 1) 3 _ _ YM.out
          have g3 : W11.cell? ⟨(w9.heap.size + 1), 3, none⟩ = some (.int .i64 tm) := by rw [cell_of_row W11 _ 3 _ _ (0, 0) YM.out]; rfl
          have hlm : (w9.heap.size + 1) < W11.heap.size := (Array.getElem?_eq_some_iff.1 YM.out).1
          have hzq := hb09.size
          rw [← hW11]
          clear hW11
          go_wp2_with fail
          obtain ⟨W12, hW12⟩ : ∃ W12, W12 = W11.setCell ⟨(w9.heap.size + 1), 3, none⟩ (.int .i64 ut) := ⟨_, rfl⟩
          have hbX12 : Below W0.heap.size W0 W12 := by rw [hW12]; exact hbX11.setCell (by show W0.heap.size ≤ (w9.heap.size + 1); omega) _
          have ZM := hid (show W12.heap[(w9.heap.size + 1)]? = some (.cells #[.int .i64 px, .int .i64 py, .int .i64 pz, .int .i64 ut, .int .i64 tk, .int .i64 lo, .int .i64 hi, .int .i64 li, .int .i64 ea, .int .i64 la, .int .i64 no, .int .i64 mi] 26 (0, 0)) by rw [hW12]; exact heap_setCell_same _ _ 3 _ _ _ YM.out)
          have ZP := hid (show W12.heap[w9.heap.size]? = some (.cells #[.int .i64 qx, .int .i64 qy, .int .i64 qz] 22 (0, 0)) by rw [hW12, heap_setCell_ne _ _ _ _ _ (by omega)]; exact YP.out)
          clear YM YP fm3 g3 hlm hbX11
          clear m0 m1 m2 m3 m4 m5 m6 m7 m8 m9 m10 m11 ml s0 s1 s2 hls x0 x1 x2 x3 x4 x5 x6 x7 hlx
          rw [← hW12]
          clear hW12
          go_loopw [22] (fun i wr => ∃ (k : Nat) (o0 o1 o2 u0 u1 u2 : Int), k ≤ 3 ∧ i = .int .i64 k ∧ Hid (wr.heap[(w9.heap.size + 1)]? = some (.cells #[.int .i64 o0, .int .i64 o1, .int .i64 o2, .int .i64 ut, .int .i64 tk, .int .i64 lo, .int .i64 hi, .int .i64 li, .int .i64 ea, .int .i64 la, .int .i64 no, .int .i64 mi] 26 (0, 0))) ∧ Hid (wr.heap[w9.heap.size]? = some (.cells #[.int .i64 u0, .int .i64 u1, .int .i64 u2] 22 (0, 0))) ∧ Hid (((0 < k → o0 = ux) ∧ (1 < k → o1 = uy) ∧ (2 < k → o2 = uz)) ∧ ((0 < k → u0 = ex) ∧ (1 < k → u1 = ey) ∧ (2 < k → u2 = ez))) ∧ Below W0.heap.size W0 wr) (fun i _ => 3 - (intOf i).toNat)
          case atStart => exact ⟨0, _, _, _, _, _, _, by omega, rfl, ZM, ZP, hid ⟨⟨by omega, by omega, by omega⟩, ⟨by omega, by omega, by omega⟩⟩, hbX12⟩
          case round =>
            obtain ⟨k, o0, o1, o2, u0, u1, u2, hk, rfl, HRM, HRP, HO, hb0s⟩ := hrel
            obtain ⟨m0, m1, m2, m3, m4, m5, m6, m7, m8, m9, m10, m11, ml⟩ := tw_cells ((hb0s.block w.heap.size l0).trans Q0.out)
            obtain ⟨s0, s1, s2, fs0, fs1, fs2, hls⟩ := three_cells ((hb0s.block (w.heap.size + 1) l1).trans Q1.out)
            clear fs0 fs1 fs2
            obtain ⟨x0, x1, x2, x3, x4, x5, x6, x7, hlx⟩ := eight_row ((hb0s.block (w.heap.size + 1 + 1) l2).trans Q2.out)
            obtain ⟨d0, d1, d2, fd0, fd1, fd2, hld⟩ := three_cells HRP.out
            have fm0 := frozen_of_row wr _ 0 _ _ HRM.out
            have fm1 := frozen_of_row wr _ 1 _ _ HRM.out
            have fm2 := frozen_of_row wr _ 2 _ _ HRM.out
            obtain ⟨g0, g1, g2, g3, g4, g5, g6, g7, g8, g9, g10, g11, gl⟩ := tw_cells HRM.out
            rcases (by omega : k = 0 ∨ k = 1 ∨ k = 2 ∨ k = 3) with rfl | rfl | rfl | rfl
            · obtain ⟨k5, k6⟩ := kBx.out
              go_wp2_with fail
              refine wp_mixC (fun wc => Below (W0.heap.size) wr wc) 23 [.q [0, 1, 2, 3, 4, 5, 6, 7, 8, 9, 10, 11, 12, 13, 14, 15, 16, 17, 18, 19, 20, 21], .f [22]] [.q [23], .f [24]] (by kernel_rfl) (by kernel_rfl) ((Below.refl _ _).drew) ?_
              intro Q' hQ'
              (rw [wpMixC]; simp only [pick, List.drop_succ_cons, List.drop_zero, List.head?_cons, Option.toList_some, List.cons_append, List.nil_append])
              (repeat (first | go_big_quiet_skip | (go_big_quiet_want; refine quiet_simple rfl ?_; go_big_quiet_op; go_big_quiet_on) | (go_big_quiet_want; refine quiet_cellB (ty := 3) rfl rfl (by kernel_rfl) (by assumption) (by first | omega | (simp; omega)) ?_; simp only [Act.put, List.setIfInBounds_toArray, List.set_cons_succ, List.set_cons_zero]; go_big_quiet_on)))
              (try refine wpQuiet_nil ?_)
              (rw [wpMixC]; simp only [pick, List.drop_succ_cons, List.drop_zero, List.head?_cons, Option.toList_some, List.cons_append, List.nil_append])
              (rw [wpSteps]; go_wp2_with (fail); rw [contF]; refine ⟨?_, ?_⟩; (next => (repeat (with_reducible first | exact Below.refl _ _ | assumption | refine Below.drewN _ ?_ | refine Below.drew ?_ | refine Below_alloc ?_ _ | refine Below.alloc ?_ (by first | (simp; done) | (simp; omega) | omega) _ | refine Below.setCell ?_ (by first | (simp; done) | (simp; omega) | omega) _ | refine Below_call ?_ (by assumption) | refine Below.trans ?_ (by assumption)))))
              (rw [wpSteps])
              (rw [wpMixC])
              (rw [wpMix]; simp only [pick, List.drop_succ_cons, List.drop_zero, List.head?_cons, Option.toList_some, List.cons_append, List.nil_append])
              (repeat (first | (go_big_quiet_step (fail)) | (quiet_step (fail))))
              (try refine wpQuiet_nil ?_)
              (rw [wpMix]; simp only [pick, List.drop_succ_cons, List.drop_zero, List.head?_cons, Option.toList_some, List.cons_append, List.nil_append])
              (go_wp2_with ((first | fail)); rw [contF])
              (rw [wpMix])
              (refine hQ' _ _ ?_)
              go_wp2_with fail
              go_roundw
              case rel => exact ⟨1, ux, o1, o2, ex, u1, u2, by omega, by go_num, hid ((heap_setCell_ne _ ((w9.heap.size + 1)) (w9.heap.size) _ _ (by omega)).trans (heap_setCell_same _ _ 0 _ _ _ HRM.out)), hid (heap_setCell_same _ _ 0 _ _ _ ((heap_setCell_ne _ (w9.heap.size) ((w9.heap.size + 1)) _ _ (by omega)).trans HRP.out)), hid ⟨⟨fun _ => rfl, fun h => absurd h (by omega), fun h => absurd h (by omega)⟩, ⟨fun _ => rfl, fun h => absurd h (by omega), fun h => absurd h (by omega)⟩⟩, by (repeat (with_reducible first | exact Below.refl _ _ | assumption | refine Below.drewN _ ?_ | refine Below.drew ?_ | refine Below_alloc ?_ _ | refine Below.alloc ?_ (by first | (simp; done) | (simp; omega) | omega) _ | refine Below.setCell ?_ (by first | (simp; done) | (simp; omega) | omega) _ | refine Below_call ?_ (by assumption) | refine Below.trans ?_ (by assumption)))⟩
              case measure => simp [intOf]
            · obtain ⟨k5, k6⟩ := kBy.out
              go_wp2_with fail
              refine wp_mixC (fun wc => Below (W0.heap.size) wr wc) 23 [.q [0, 1, 2, 3, 4, 5, 6, 7, 8, 9, 10, 11, 12, 13, 14, 15, 16, 17, 18, 19, 20, 21], .f [22]] [.q [23], .f [24]] (by kernel_rfl) (by kernel_rfl) ((Below.refl _ _).drew) ?_
              intro Q' hQ'
              (rw [wpMixC]; simp only [pick, List.drop_succ_cons, List.drop_zero, List.head?_cons, Option.toList_some, List.cons_append, List.nil_append])
              (repeat (first | go_big_quiet_skip | (go_big_quiet_want; refine quiet_simple rfl ?_; go_big_quiet_op; go_big_quiet_on) | (go_big_quiet_want; refine quiet_cellB (ty := 3) rfl rfl (by kernel_rfl) (by assumption) (by first | omega | (simp; omega)) ?_; simp only [Act.put, List.setIfInBounds_toArray, List.set_cons_succ, List.set_cons_zero]; go_big_quiet_on)))
              (try refine wpQuiet_nil ?_)
              (rw [wpMixC]; simp only [pick, List.drop_succ_cons, List.drop_zero, List.head?_cons, Option.toList_some, List.cons_append, List.nil_append])
              (rw [wpSteps]; go_wp2_with (fail); rw [contF]; refine ⟨?_, ?_⟩; (next => (repeat (with_reducible first | exact Below.refl _ _ | assumption | refine Below.drewN _ ?_ | refine Below.drew ?_ | refine Below_alloc ?_ _ | refine Below.alloc ?_ (by first | (simp; done) | (simp; omega) | omega) _ | refine Below.setCell ?_ (by first | (simp; done) | (simp; omega) | omega) _ | refine Below_call ?_ (by assumption) | refine Below.trans ?_ (by assumption)))))
              (rw [wpSteps])
              (rw [wpMixC])
              (rw [wpMix]; simp only [pick, List.drop_succ_cons, List.drop_zero, List.head?_cons, Option.toList_some, List.cons_append, List.nil_append])
              (repeat (first | (go_big_quiet_step (fail)) | (quiet_step (fail))))
              (try refine wpQuiet_nil ?_)
              (rw [wpMix]; simp only [pick, List.drop_succ_cons, List.drop_zero, List.head?_cons, Option.toList_some, List.cons_append, List.nil_append])
              (go_wp2_with ((first | fail)); rw [contF])
              (rw [wpMix])
              (refine hQ' _ _ ?_)
              go_wp2_with fail
              go_roundw
              case rel => exact ⟨2, o0, uy, o2, u0, ey, u2, by omega, by go_num, hid ((heap_setCell_ne _ ((w9.heap.size + 1)) (w9.heap.size) _ _ (by omega)).trans (heap_setCell_same _ _ 1 _ _ _ HRM.out)), hid (heap_setCell_same _ _ 1 _ _ _ ((heap_setCell_ne _ (w9.heap.size) ((w9.heap.size + 1)) _ _ (by omega)).trans HRP.out)), hid ⟨⟨fun _ => HO.out.1.1 (by omega), fun _ => rfl, fun h => absurd h (by omega)⟩, ⟨fun _ => HO.out.2.1 (by omega), fun _ => rfl, fun h => absurd h (by omega)⟩⟩, by (repeat (with_reducible first | exact Below.refl _ _ | assumption | refine Below.drewN _ ?_ | refine Below.drew ?_ | refine Below_alloc ?_ _ | refine Below.alloc ?_ (by first | (simp; done) | (simp; omega) | omega) _ | refine Below.setCell ?_ (by first | (simp; done) | (simp; omega) | omega) _ | refine Below_call ?_ (by assumption) | refine Below.trans ?_ (by assumption)))⟩
              case measure => simp [intOf]
            · obtain ⟨k5, k6⟩ := kBz.out
              go_wp2_with fail
              refine wp_mixC (fun wc => Below (W0.heap.size) wr wc) 23 [.q [0, 1, 2, 3, 4, 5, 6, 7, 8, 9, 10, 11, 12, 13, 14, 15, 16, 17, 18, 19, 20, 21], .f [22]] [.q [23], .f [24]] (by kernel_rfl) (by kernel_rfl) ((Below.refl _ _).drew) ?_
              intro Q' hQ'
              (rw [wpMixC]; simp only [pick, List.drop_succ_cons, List.drop_zero, List.head?_cons, Option.toList_some, List.cons_append, List.nil_append])
              (repeat (first | go_big_quiet_skip | (go_big_quiet_want; refine quiet_simple rfl ?_; go_big_quiet_op; go_big_quiet_on) | (go_big_quiet_want; refine quiet_cellB (ty := 3) rfl rfl (by kernel_rfl) (by assumption) (by first | omega | (simp; omega)) ?_; simp only [Act.put, List.setIfInBounds_toArray, List.set_cons_succ, List.set_cons_zero]; go_big_quiet_on)))
              (try refine wpQuiet_nil ?_)
              (rw [wpMixC]; simp only [pick, List.drop_succ_cons, List.drop_zero, List.head?_cons, Option.toList_some, List.cons_append, List.nil_append])
              (rw [wpSteps]; go_wp2_with (fail); rw [contF]; refine ⟨?_, ?_⟩; (next => (repeat (with_reducible first | exact Below.refl _ _ | assumption | refine Below.drewN _ ?_ | refine Below.drew ?_ | refine Below_alloc ?_ _ | refine Below.alloc ?_ (by first | (simp; done) | (simp; omega) | omega) _ | refine Below.setCell ?_ (by first | (simp; done) | (simp; omega) | omega) _ | refine Below_call ?_ (by assumption) | refine Below.trans ?_ (by assumption)))))
              (rw [wpSteps])
              (rw [wpMixC])
              (rw [wpMix]; simp only [pick, List.drop_succ_cons, List.drop_zero, List.head?_cons, Option.toList_some, List.cons_append, List.nil_append])
              (repeat (first | (go_big_quiet_step (fail)) | (quiet_step (fail))))
              (try refine wpQuiet_nil ?_)
              (rw [wpMix]; simp only [pick, List.drop_succ_cons, List.drop_zero, List.head?_cons, Option.toList_some, List.cons_append, List.nil_append])
              (go_wp2_with ((first | fail)); rw [contF])
              (rw [wpMix])
              (refine hQ' _ _ ?_)
              go_wp2_with fail
              go_roundw
              case rel => exact ⟨3, o0, o1, uz, u0, u1, ez, by omega, by go_num, hid ((heap_setCell_ne _ ((w9.heap.size + 1)) (w9.heap.size) _ _ (by omega)).trans (heap_setCell_same _ _ 2 _ _ _ HRM.out)), hid (heap_setCell_same _ _ 2 _ _ _ ((heap_setCell_ne _ (w9.heap.size) ((w9.heap.size + 1)) _ _ (by omega)).trans HRP.out)), hid ⟨⟨fun _ => HO.out.1.1 (by omega), fun _ => HO.out.1.2.1 (by omega), fun _ => rfl⟩, ⟨fun _ => HO.out.2.1 (by omega), fun _ => HO.out.2.2.1 (by omega), fun _ => rfl⟩⟩, by (repeat (with_reducible first | exact Below.refl _ _ | assumption | refine Below.drewN _ ?_ | refine Below.drew ?_ | refine Below_alloc ?_ _ | refine Below.alloc ?_ (by first | (simp; done) | (simp; omega) | omega) _ | refine Below.setCell ?_ (by first | (simp; done) | (simp; omega) | omega) _ | refine Below_call ?_ (by assumption) | refine Below.trans ?_ (by assumption)))⟩
              case measure => simp [intOf]
            · have e0 := HO.out.1.1 (by omega)
              have e1 := HO.out.1.2.1 (by omega)
              have e2 := HO.out.1.2.2 (by omega)
              have j0 := HO.out.2.1 (by omega)
              have j1 := HO.out.2.2.1 (by omega)
              have j2 := HO.out.2.2.2 (by omega)
              have RMv : Hid (wr.heap[(w9.heap.size + 1)]? = some (.cells #[.int .i64 ux, .int .i64 uy, .int .i64 uz, .int .i64 ut, .int .i64 tk, .int .i64 lo, .int .i64 hi, .int .i64 li, .int .i64 ea, .int .i64 la, .int .i64 no, .int .i64 mi] 26 (0, 0))) := hid (by have := HRM.out; rw [e0, e1, e2] at this; exact this)
              have RPv : Hid (wr.heap[w9.heap.size]? = some (.cells #[.int .i64 ex, .int .i64 ey, .int .i64 ez] 22 (0, 0))) := hid (by have := HRP.out; rw [j0, j1, j2] at this; exact this)
              clear HRM HRP HO e0 e1 e2 j0 j1 j2 d0 d1 d2 fd0 fd1 fd2 hld fm0 fm1 fm2 g0 g1 g2 g3 g4 g5 g6 g7 g8 g9 g10 g11 gl ZM ZP hbX12
              obtain ⟨g0, g1, g2, g3, g4, g5, g6, g7, g8, g9, g10, g11, gl⟩ := tw_cells RMv.out
              obtain ⟨d0, d1, d2, fd0, fd1, fd2, hld⟩ := three_cells RPv.out
              clear fd0 fd1 fd2
              go_wp2_with fail
              refine (RE.out _).mono ?_
              rintro _ w20 ⟨rfl, hb20⟩
              have hb0t : Below W0.heap.size W0 w20 := hb0s.trans (hb20.mono hb0s.size)
              clear m0 m1 m2 m3 m4 m5 m6 m7 m8 m9 m10 m11 ml s0 s1 s2 hls x0 x1 x2 x3 x4 x5 x6 x7 hlx
              clear g0 g1 g2 g3 g4 g5 g6 g7 g8 g9 g10 g11 gl d0 d1 d2 hld
              obtain ⟨m0, m1, m2, m3, m4, m5, m6, m7, m8, m9, m10, m11, ml⟩ := tw_cells ((hb0t.block w.heap.size l0).trans Q0.out)
              obtain ⟨s0, s1, s2, fs0, fs1, fs2, hls⟩ := three_cells ((hb0t.block (w.heap.size + 1) l1).trans Q1.out)
              clear fs0 fs1 fs2
              obtain ⟨x0, x1, x2, x3, x4, x5, x6, x7, hlx⟩ := eight_row ((hb0t.block (w.heap.size + 1 + 1) l2).trans Q2.out)
              have RMv20 := hid ((hb20.block ((w9.heap.size + 1)) (Array.getElem?_eq_some_iff.1 RMv.out).1).trans RMv.out)
              have RPv20 := hid ((hb20.block (w9.heap.size) (Array.getElem?_eq_some_iff.1 RPv.out).1).trans RPv.out)
              obtain ⟨g0, g1, g2, g3, g4, g5, g6, g7, g8, g9, g10, g11, gl⟩ := tw_cells RMv20.out
              obtain ⟨d0, d1, d2, fd0, fd1, fd2, hld⟩ := three_cells RPv20.out
              clear fd0 fd1 fd2
              rcases HD.out with qM | ⟨qM, qP⟩ | ⟨qM, qP, HF2⟩
              · have hbe : Below w.heap.size w w20 := hbW0.trans (hb0t.mono hzW0)
                go_wp2_with fail
                refine (HF3.out _).mono ?_
                rintro _ w30 ⟨rfl, hb30⟩
                go_wp2_with fail
                go_ret
                exact ⟨rfl, by (repeat (with_reducible first | exact Below.refl _ _ | assumption | refine Below.drewN _ ?_ | refine Below.drew ?_ | refine Below_alloc ?_ _ | refine Below.alloc ?_ (by first | (simp; done) | (simp; omega) | omega) _ | refine Below.setCell ?_ (by first | (simp; done) | (simp; omega) | omega) _ | refine Below_call ?_ (by assumption) | refine Below.trans ?_ (by assumption)))⟩
              · go_wp2_with fail
                refine (RQ.out _).mono ?_
                rintro _ w21 ⟨rfl, hb21⟩
                have hb0u : Below W0.heap.size W0 w21 := hb0t.trans (hb21.mono hb0t.size)
                clear m0 m1 m2 m3 m4 m5 m6 m7 m8 m9 m10 m11 ml s0 s1 s2 hls x0 x1 x2 x3 x4 x5 x6 x7 hlx
                clear g0 g1 g2 g3 g4 g5 g6 g7 g8 g9 g10 g11 gl d0 d1 d2 hld
                obtain ⟨m0, m1, m2, m3, m4, m5, m6, m7, m8, m9, m10, m11, ml⟩ := tw_cells ((hb0u.block w.heap.size l0).trans Q0.out)
                obtain ⟨s0, s1, s2, fs0, fs1, fs2, hls⟩ := three_cells ((hb0u.block (w.heap.size + 1) l1).trans Q1.out)
                clear fs0 fs1 fs2
                obtain ⟨x0, x1, x2, x3, x4, x5, x6, x7, hlx⟩ := eight_row ((hb0u.block (w.heap.size + 1 + 1) l2).trans Q2.out)
                have hbe : Below w.heap.size w w21 := hbW0.trans (hb0u.mono hzW0)
                go_wp2_with fail
                refine (HF3.out _).mono ?_
                rintro _ w30 ⟨rfl, hb30⟩
                go_wp2_with fail
                go_ret
                exact ⟨rfl, by (repeat (with_reducible first | exact Below.refl _ _ | assumption | refine Below.drewN _ ?_ | refine Below.drew ?_ | refine Below_alloc ?_ _ | refine Below.alloc ?_ (by first | (simp; done) | (simp; omega) | omega) _ | refine Below.setCell ?_ (by first | (simp; done) | (simp; omega) | omega) _ | refine Below_call ?_ (by assumption) | refine Below.trans ?_ (by assumption)))⟩
              · go_wp2_with fail
                refine (RQ.out _).mono ?_
                rintro _ w21 ⟨rfl, hb21⟩
                have hb0u : Below W0.heap.size W0 w21 := hb0t.trans (hb21.mono hb0t.size)
                clear m0 m1 m2 m3 m4 m5 m6 m7 m8 m9 m10 m11 ml s0 s1 s2 hls x0 x1 x2 x3 x4 x5 x6 x7 hlx
                clear g0 g1 g2 g3 g4 g5 g6 g7 g8 g9 g10 g11 gl d0 d1 d2 hld
                obtain ⟨m0, m1, m2, m3, m4, m5, m6, m7, m8, m9, m10, m11, ml⟩ := tw_cells ((hb0u.block w.heap.size l0).trans Q0.out)
                obtain ⟨s0, s1, s2, fs0, fs1, fs2, hls⟩ := three_cells ((hb0u.block (w.heap.size + 1) l1).trans Q1.out)
                clear fs0 fs1 fs2
                obtain ⟨x0, x1, x2, x3, x4, x5, x6, x7, hlx⟩ := eight_row ((hb0u.block (w.heap.size + 1 + 1) l2).trans Q2.out)
                have RMv21 := hid ((hb21.block ((w9.heap.size + 1)) (Array.getElem?_eq_some_iff.1 RMv20.out).1).trans RMv20.out)
                have RPv21 := hid ((hb21.block (w9.heap.size) (Array.getElem?_eq_some_iff.1 RPv20.out).1).trans RPv20.out)
                obtain ⟨g0, g1, g2, g3, g4, g5, g6, g7, g8, g9, g10, g11, gl⟩ := tw_cells RMv21.out
                obtain ⟨d0, d1, d2, fd0, fd1, fd2, hld⟩ := three_cells RPv21.out
                clear fd0 fd1 fd2
                go_wp2_with fail
                refine (HF2.out _).mono ?_
                rintro _ w22 ⟨rfl, hb22⟩
                have hb0v : Below W0.heap.size W0 w22 := hb0u.trans (hb22.mono hb0u.size)
                clear m0 m1 m2 m3 m4 m5 m6 m7 m8 m9 m10 m11 ml s0 s1 s2 hls x0 x1 x2 x3 x4 x5 x6 x7 hlx
                clear g0 g1 g2 g3 g4 g5 g6 g7 g8 g9 g10 g11 gl d0 d1 d2 hld
                obtain ⟨m0, m1, m2, m3, m4, m5, m6, m7, m8, m9, m10, m11, ml⟩ := tw_cells ((hb0v.block w.heap.size l0).trans Q0.out)
                obtain ⟨s0, s1, s2, fs0, fs1, fs2, hls⟩ := three_cells ((hb0v.block (w.heap.size + 1) l1).trans Q1.out)
                clear fs0 fs1 fs2
                obtain ⟨x0, x1, x2, x3, x4, x5, x6, x7, hlx⟩ := eight_row ((hb0v.block (w.heap.size + 1 + 1) l2).trans Q2.out)
                have hbe : Below w.heap.size w w22 := hbW0.trans (hb0v.mono hzW0)
                go_wp2_with fail
                refine (HF3.out _).mono ?_
                rintro _ w30 ⟨rfl, hb30⟩
                go_wp2_with fail
                go_ret
                exact ⟨rfl, by (repeat (with_reducible first | exact Below.refl _ _ | assumption | refine Below.drewN _ ?_ | refine Below.drew ?_ | refine Below_alloc ?_ _ | refine Below.alloc ?_ (by first | (simp; done) | (simp; omega) | omega) _ | refine Below.setCell ?_ (by first | (simp; done) | (simp; omega) | omega) _ | refine Below_call ?_ (by assumption) | refine Below.trans ?_ (by assumption)))⟩
end Go.Proofs.Ytlmdmpjfehpjeaa

