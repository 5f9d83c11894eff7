/- Tracks: the law of reached places, walked. -/
import Derived.Test.YtlmdmpjfehpjeaaK17
import Derived.Test.YtlmdmpjfehpjeaaK22
set_option linter.unusedVariables false
set_option linter.unusedSimpArgs false
namespace Go.Proofs.Ytlmdmpjfehpjeaa
open Go.RowKit

set_option maxRecDepth 100000 in
set_option maxHeartbeats 16000000 in
theorem law_Reached_A (px py pz tm tk lo hi li ea la no mi sx sy sz qx qy qz t EM D XN XD : Int) (q1 : (D == 0) = false) (q2 : (D != 0) = true) (hXN : XN = 0) (hXD : XD = 0) (w : World)
    (HC : Hid (∀ W, Calls Try.prog 14 #[.agg #[.int .i64 px, .int .i64 py, .int .i64 pz, .int .i64 tm, .int .i64 tk, .int .i64 lo, .int .i64 hi, .int .i64 li, .int .i64 ea, .int .i64 la, .int .i64 no, .int .i64 mi]] W fun e w' => e = .returned (.int .i64 EM) ∧ Below W.heap.size W w'))
    (RM : Hid (∀ W, Calls Try.prog 18 #[.agg #[.int .i64 px, .int .i64 py, .int .i64 pz, .int .i64 tm, .int .i64 tk, .int .i64 lo, .int .i64 hi, .int .i64 li, .int .i64 ea, .int .i64 la, .int .i64 no, .int .i64 mi]] W fun e w' => e = .returned (.int .i64 EM) ∧ Below W.heap.size W w'))
    (HR : Hid (∀ W, Calls Try.prog 15 #[.agg #[.int .i64 px, .int .i64 py, .int .i64 pz, .int .i64 tm, .int .i64 tk, .int .i64 lo, .int .i64 hi, .int .i64 li, .int .i64 ea, .int .i64 la, .int .i64 no, .int .i64 mi], .agg #[.int .i64 sx, .int .i64 sy, .int .i64 sz], .agg #[.int .i64 qx, .int .i64 qy, .int .i64 qz, .int .i64 t]] W fun e w' => e = .returned (.tuple #[.bool false, .int .i64 D]) ∧ Below W.heap.size W w'))
    (HF : Hid (∀ W, Calls Try.prog 16 #[.agg #[.int .i64 px, .int .i64 py, .int .i64 pz, .int .i64 tm, .int .i64 tk, .int .i64 lo, .int .i64 hi, .int .i64 li, .int .i64 ea, .int .i64 la, .int .i64 no, .int .i64 mi], .agg #[.int .i64 sx, .int .i64 sy, .int .i64 sz], .agg #[.int .i64 qx, .int .i64 qy, .int .i64 qz]] W fun e w' => e = .returned (.tuple #[.int .i64 0, .int .i64 D]) ∧ Below W.heap.size W w'))
    (HN : Hid (∀ W, Calls Try.prog 17 #[.agg #[.int .i64 px, .int .i64 py, .int .i64 pz, .int .i64 tm, .int .i64 tk, .int .i64 lo, .int .i64 hi, .int .i64 li, .int .i64 ea, .int .i64 la, .int .i64 no, .int .i64 mi], .agg #[.int .i64 sx, .int .i64 sy, .int .i64 sz], .agg #[.int .i64 qx, .int .i64 qy, .int .i64 qz]] W fun e w' => e = .returned (.tuple #[.agg #[.int .i64 XN, .int .i64 XD], .int .i64 D]) ∧ Below W.heap.size W w'))
    (RB : Hid (∀ W, Calls Try.prog 19 #[.agg #[.int .i64 px, .int .i64 py, .int .i64 pz, .int .i64 tm, .int .i64 tk, .int .i64 lo, .int .i64 hi, .int .i64 li, .int .i64 ea, .int .i64 la, .int .i64 no, .int .i64 mi], .agg #[.int .i64 sx, .int .i64 sy, .int .i64 sz]] W fun e w' => e = .returned (.int .i64 D) ∧ Below W.heap.size W w'))
    : Calls Try.prog 3 #[.agg #[.int .i64 px, .int .i64 py, .int .i64 pz, .int .i64 tm, .int .i64 tk, .int .i64 lo, .int .i64 hi, .int .i64 li, .int .i64 ea, .int .i64 la, .int .i64 no, .int .i64 mi], .agg #[.int .i64 sx, .int .i64 sy, .int .i64 sz], .agg #[.int .i64 qx, .int .i64 qy, .int .i64 qz, .int .i64 t]] w fun e w' => e = .returned (.bool true) ∧ Below w.heap.size w w' := by
  have HA := hid law_awake5
  obtain ⟨W0, hW0⟩ : ∃ W0, W0 = ((w.alloc (.cells #[.int .i64 px, .int .i64 py, .int .i64 pz, .int .i64 tm, .int .i64 tk, .int .i64 lo, .int .i64 hi, .int .i64 li, .int .i64 ea, .int .i64 la, .int .i64 no, .int .i64 mi] 26)).alloc (.cells #[.int .i64 sx, .int .i64 sy, .int .i64 sz] 22)).alloc (.cells #[.int .i64 qx, .int .i64 qy, .int .i64 qz, .int .i64 t] 28) := ⟨_, rfl⟩
  have hbW0 : Below w.heap.size w W0 := by rw [hW0]; (repeat (with_reducible first | exact Below.refl _ _ | assumption | refine Below.drewN _ ?_ | refine Below.drew ?_ | refine Below_alloc ?_ _ | refine Below.alloc ?_ (by first | (simp; done) | (simp; omega) | omega) _ | refine Below.setCell ?_ (by first | (simp; done) | (simp; omega) | omega) _ | refine Below_call ?_ (by assumption) | refine Below.trans ?_ (by assumption)))
  obtain ⟨q0, q1, q2⟩ := al3 w _ _ _ _ _ _ W0 hW0
  have l0 := (Array.getElem?_eq_some_iff.1 q0).1
  have l1 := (Array.getElem?_eq_some_iff.1 q1).1
  have l2 := (Array.getElem?_eq_some_iff.1 q2).1
  have Q0 := hid q0
  have Q1 := hid q1
  have Q2 := hid q2
  have hzW0 := hbW0.size
  clear q0 q1 q2
  subst hXN
  subst hXD
  go_enter Try.func3, Try.ntmps3
  go_wp2_with fail
  rw [← hW0]
  refine (HA.out _).mono ?_
  rintro _ w1 ⟨rfl, hb1⟩
  clear hW0
  have hb01 : Below W0.heap.size W0 w1 := hb1
  obtain ⟨m0, m1, m2, m3, m4, m5, m6, m7, m8, m9, m10, m11, ml⟩ := tw_cells ((hb01.block w.heap.size l0).trans Q0.out)
  obtain ⟨s0, s1, s2, fs0, fs1, fs2, hls⟩ := three_cells ((hb01.block (w.heap.size + 1) l1).trans Q1.out)
  obtain ⟨p0, p1, p2, p3, hlp⟩ := four_row ((hb01.block (w.heap.size + 1 + 1) l2).trans Q2.out)
  clear fs0 fs1 fs2
  have hbf1 : Below w.heap.size w w1 := hbW0.trans (hb01.mono hzW0)
  go_wp2_with fail
  refine (HC.out _).mono ?_
  rintro _ w2 ⟨rfl, hb2⟩
  have hb02 : Below W0.heap.size W0 w2 := hb01.trans (hb2.mono hb01.size)
  clear m0 m1 m2 m3 m4 m5 m6 m7 m8 m9 m10 m11 ml s0 s1 s2 hls p0 p1 p2 p3 hlp
  obtain ⟨m0, m1, m2, m3, m4, m5, m6, m7, m8, m9, m10, m11, ml⟩ := tw_cells ((hb02.block w.heap.size l0).trans Q0.out)
  obtain ⟨s0, s1, s2, fs0, fs1, fs2, hls⟩ := three_cells ((hb02.block (w.heap.size + 1) l1).trans Q1.out)
  obtain ⟨p0, p1, p2, p3, hlp⟩ := four_row ((hb02.block (w.heap.size + 1 + 1) l2).trans Q2.out)
  clear fs0 fs1 fs2
  have hbf2 : Below w.heap.size w w2 := hbW0.trans (hb02.mono hzW0)
  clear hbf1
  go_wp2_with fail
  refine (HR.out _).mono ?_
  rintro _ w3 ⟨rfl, hb3⟩
  have hb03 : Below W0.heap.size W0 w3 := hb02.trans (hb3.mono hb02.size)
  clear m0 m1 m2 m3 m4 m5 m6 m7 m8 m9 m10 m11 ml s0 s1 s2 hls p0 p1 p2 p3 hlp
  obtain ⟨m0, m1, m2, m3, m4, m5, m6, m7, m8, m9, m10, m11, ml⟩ := tw_cells ((hb03.block w.heap.size l0).trans Q0.out)
  obtain ⟨s0, s1, s2, fs0, fs1, fs2, hls⟩ := three_cells ((hb03.block (w.heap.size + 1) l1).trans Q1.out)
  obtain ⟨p0, p1, p2, p3, hlp⟩ := four_row ((hb03.block (w.heap.size + 1 + 1) l2).trans Q2.out)
  clear fs0 fs1 fs2
  have hbf3 : Below w.heap.size w w3 := hbW0.trans (hb03.mono hzW0)
  clear hbf2
  go_wp2_with fail
  refine (HF.out _).mono ?_
  rintro _ w5 ⟨rfl, hb5⟩
  have hb05 : Below W0.heap.size W0 w5 := hb03.trans (hb5.mono hb03.size)
  clear m0 m1 m2 m3 m4 m5 m6 m7 m8 m9 m10 m11 ml s0 s1 s2 hls p0 p1 p2 p3 hlp
  obtain ⟨m0, m1, m2, m3, m4, m5, m6, m7, m8, m9, m10, m11, ml⟩ := tw_cells ((hb05.block w.heap.size l0).trans Q0.out)
  obtain ⟨s0, s1, s2, fs0, fs1, fs2, hls⟩ := three_cells ((hb05.block (w.heap.size + 1) l1).trans Q1.out)
  obtain ⟨p0, p1, p2, p3, hlp⟩ := four_row ((hb05.block (w.heap.size + 1 + 1) l2).trans Q2.out)
  clear fs0 fs1 fs2
  have hbf5 : Below w.heap.size w w5 := hbW0.trans (hb05.mono hzW0)
  clear hbf3
  go_wp2_with fail
  refine (HN.out _).mono ?_
  rintro _ w4 ⟨rfl, hb4⟩
  have hb04 : Below W0.heap.size W0 w4 := hb05.trans (hb4.mono hb05.size)
  clear m0 m1 m2 m3 m4 m5 m6 m7 m8 m9 m10 m11 ml s0 s1 s2 hls p0 p1 p2 p3 hlp
  obtain ⟨m0, m1, m2, m3, m4, m5, m6, m7, m8, m9, m10, m11, ml⟩ := tw_cells ((hb04.block w.heap.size l0).trans Q0.out)
  obtain ⟨s0, s1, s2, fs0, fs1, fs2, hls⟩ := three_cells ((hb04.block (w.heap.size + 1) l1).trans Q1.out)
  obtain ⟨p0, p1, p2, p3, hlp⟩ := four_row ((hb04.block (w.heap.size + 1 + 1) l2).trans Q2.out)
  clear fs0 fs1 fs2
  have hbf4 : Below w.heap.size w w4 := hbW0.trans (hb04.mono hzW0)
  clear hbf5
  obtain ⟨X, hX⟩ : ∃ X, X = w4.alloc (.cells #[.int .i64 0, .int .i64 0] 37) := ⟨_, rfl⟩
  have hbX : Below w4.heap.size w4 X := by rw [hX]; (repeat (with_reducible first | exact Below.refl _ _ | assumption | refine Below.drewN _ ?_ | refine Below.drew ?_ | refine Below_alloc ?_ _ | refine Below.alloc ?_ (by first | (simp; done) | (simp; omega) | omega) _ | refine Below.setCell ?_ (by first | (simp; done) | (simp; omega) | omega) _ | refine Below_call ?_ (by assumption) | refine Below.trans ?_ (by assumption)))
  have RX := hid (show X.heap[w4.heap.size]? = some (.cells #[.int .i64 0, .int .i64 0] 37 (0, 0)) by rw [hX]; exact heap_alloc_new w4 _)
  have hb0X : Below W0.heap.size W0 X := hb04.trans (hbX.mono hb04.size)
  have hbfX : Below w.heap.size w X := hbW0.trans (hb0X.mono hzW0)
  have l0' : w.heap.size < w4.heap.size + 1 := Nat.lt_succ_of_lt ml
  go_wp2_with fail
  rw [← hX]
  clear hX l0'
  refine (RM.out _).mono ?_
  rintro _ w6 ⟨rfl, hb6⟩
  have hb06 : Below W0.heap.size W0 w6 := hb0X.trans (hb6.mono hb0X.size)
  clear m0 m1 m2 m3 m4 m5 m6 m7 m8 m9 m10 m11 ml s0 s1 s2 hls p0 p1 p2 p3 hlp
  have RX6 := hid ((hb6.block w4.heap.size (Array.getElem?_eq_some_iff.1 RX.out).1).trans RX.out)
  obtain ⟨n0, n1, fn0, fn1, hln⟩ := two_cells RX6.out
  clear fn0 fn1
  obtain ⟨m0, m1, m2, m3, m4, m5, m6, m7, m8, m9, m10, m11, ml⟩ := tw_cells ((hb06.block w.heap.size l0).trans Q0.out)
  obtain ⟨s0, s1, s2, fs0, fs1, fs2, hls⟩ := three_cells ((hb06.block (w.heap.size + 1) l1).trans Q1.out)
  obtain ⟨p0, p1, p2, p3, hlp⟩ := four_row ((hb06.block (w.heap.size + 1 + 1) l2).trans Q2.out)
  clear fs0 fs1 fs2
  have hbf6 : Below w.heap.size w w6 := hbW0.trans (hb06.mono hzW0)
  clear hbfX hbf4
  go_wp2_with fail
  refine (RB.out _).mono ?_
  rintro _ w7 ⟨rfl, hb7⟩
  have hb07 : Below W0.heap.size W0 w7 := hb06.trans (hb7.mono hb06.size)
  clear m0 m1 m2 m3 m4 m5 m6 m7 m8 m9 m10 m11 ml s0 s1 s2 hls p0 p1 p2 p3 hlp
  have RX7 := hid ((hb7.block w4.heap.size (Array.getElem?_eq_some_iff.1 RX6.out).1).trans RX6.out)
  clear n0 n1 hln
  obtain ⟨n0, n1, fn0, fn1, hln⟩ := two_cells RX7.out
  clear fn0 fn1
  obtain ⟨m0, m1, m2, m3, m4, m5, m6, m7, m8, m9, m10, m11, ml⟩ := tw_cells ((hb07.block w.heap.size l0).trans Q0.out)
  obtain ⟨s0, s1, s2, fs0, fs1, fs2, hls⟩ := three_cells ((hb07.block (w.heap.size + 1) l1).trans Q1.out)
  obtain ⟨p0, p1, p2, p3, hlp⟩ := four_row ((hb07.block (w.heap.size + 1 + 1) l2).trans Q2.out)
  clear fs0 fs1 fs2
  have hbf7 : Below w.heap.size w w7 := hbW0.trans (hb07.mono hzW0)
  clear hbf6
  go_wp2_with fail
  go_ret
  exact ⟨rfl, hbf7⟩

set_option maxRecDepth 100000 in
set_option maxHeartbeats 16000000 in
theorem law_Reached_B (px py pz tm tk lo hi li ea la no mi sx sy sz qx qy qz t EM D C XN XD : Int) (q1 : (D == 0) = false) (q2 : (D != 0) = true) (hC : C = D) (hXN : XN = 0) (hXD : XD = 0) (w : World)
    (HC : Hid (∀ W, Calls Try.prog 14 #[.agg #[.int .i64 px, .int .i64 py, .int .i64 pz, .int .i64 tm, .int .i64 tk, .int .i64 lo, .int .i64 hi, .int .i64 li, .int .i64 ea, .int .i64 la, .int .i64 no, .int .i64 mi]] W fun e w' => e = .returned (.int .i64 EM) ∧ Below W.heap.size W w'))
    (RM : Hid (∀ W, Calls Try.prog 18 #[.agg #[.int .i64 px, .int .i64 py, .int .i64 pz, .int .i64 tm, .int .i64 tk, .int .i64 lo, .int .i64 hi, .int .i64 li, .int .i64 ea, .int .i64 la, .int .i64 no, .int .i64 mi]] W fun e w' => e = .returned (.int .i64 EM) ∧ Below W.heap.size W w'))
    (HR : Hid (∀ W, Calls Try.prog 15 #[.agg #[.int .i64 px, .int .i64 py, .int .i64 pz, .int .i64 tm, .int .i64 tk, .int .i64 lo, .int .i64 hi, .int .i64 li, .int .i64 ea, .int .i64 la, .int .i64 no, .int .i64 mi], .agg #[.int .i64 sx, .int .i64 sy, .int .i64 sz], .agg #[.int .i64 qx, .int .i64 qy, .int .i64 qz, .int .i64 t]] W fun e w' => e = .returned (.tuple #[.bool false, .int .i64 D]) ∧ Below W.heap.size W w'))
    (HF : Hid (∀ W, Calls Try.prog 16 #[.agg #[.int .i64 px, .int .i64 py, .int .i64 pz, .int .i64 tm, .int .i64 tk, .int .i64 lo, .int .i64 hi, .int .i64 li, .int .i64 ea, .int .i64 la, .int .i64 no, .int .i64 mi], .agg #[.int .i64 sx, .int .i64 sy, .int .i64 sz], .agg #[.int .i64 qx, .int .i64 qy, .int .i64 qz]] W fun e w' => e = .returned (.tuple #[.int .i64 0, .int .i64 D]) ∧ Below W.heap.size W w'))
    (HN : Hid (∀ W, Calls Try.prog 17 #[.agg #[.int .i64 px, .int .i64 py, .int .i64 pz, .int .i64 tm, .int .i64 tk, .int .i64 lo, .int .i64 hi, .int .i64 li, .int .i64 ea, .int .i64 la, .int .i64 no, .int .i64 mi], .agg #[.int .i64 sx, .int .i64 sy, .int .i64 sz], .agg #[.int .i64 qx, .int .i64 qy, .int .i64 qz]] W fun e w' => e = .returned (.tuple #[.agg #[.int .i64 XN, .int .i64 XD], .int .i64 D]) ∧ Below W.heap.size W w'))
    (RB : Hid (∀ W, Calls Try.prog 19 #[.agg #[.int .i64 px, .int .i64 py, .int .i64 pz, .int .i64 tm, .int .i64 tk, .int .i64 lo, .int .i64 hi, .int .i64 li, .int .i64 ea, .int .i64 la, .int .i64 no, .int .i64 mi], .agg #[.int .i64 sx, .int .i64 sy, .int .i64 sz]] W fun e w' => e = .returned (.int .i64 0) ∧ Below W.heap.size W w'))
    (RMo : Hid (∀ W, Calls Try.prog 20 #[.agg #[.int .i64 qx, .int .i64 qy, .int .i64 qz, .int .i64 t]] W fun e w' => e = .returned (.int .i64 C) ∧ Below W.heap.size W w'))
    (RP : Hid (∀ W, Calls Try.prog 21 #[.agg #[.int .i64 qx, .int .i64 qy, .int .i64 qz]] W fun e w' => e = .returned (.int .i64 D) ∧ Below W.heap.size W w'))
    : Calls Try.prog 3 #[.agg #[.int .i64 px, .int .i64 py, .int .i64 pz, .int .i64 tm, .int .i64 tk, .int .i64 lo, .int .i64 hi, .int .i64 li, .int .i64 ea, .int .i64 la, .int .i64 no, .int .i64 mi], .agg #[.int .i64 sx, .int .i64 sy, .int .i64 sz], .agg #[.int .i64 qx, .int .i64 qy, .int .i64 qz, .int .i64 t]] w fun e w' => e = .returned (.bool true) ∧ Below w.heap.size w w' := by
  have HA := hid law_awake5
  obtain ⟨W0, hW0⟩ : ∃ W0, W0 = ((w.alloc (.cells #[.int .i64 px, .int .i64 py, .int .i64 pz, .int .i64 tm, .int .i64 tk, .int .i64 lo, .int .i64 hi, .int .i64 li, .int .i64 ea, .int .i64 la, .int .i64 no, .int .i64 mi] 26)).alloc (.cells #[.int .i64 sx, .int .i64 sy, .int .i64 sz] 22)).alloc (.cells #[.int .i64 qx, .int .i64 qy, .int .i64 qz, .int .i64 t] 28) := ⟨_, rfl⟩
  have hbW0 : Below w.heap.size w W0 := by rw [hW0]; (repeat (with_reducible first | exact Below.refl _ _ | assumption | refine Below.drewN _ ?_ | refine Below.drew ?_ | refine Below_alloc ?_ _ | refine Below.alloc ?_ (by first | (simp; done) | (simp; omega) | omega) _ | refine Below.setCell ?_ (by first | (simp; done) | (simp; omega) | omega) _ | refine Below_call ?_ (by assumption) | refine Below.trans ?_ (by assumption)))
  obtain ⟨q0, q1, q2⟩ := al3 w _ _ _ _ _ _ W0 hW0
  have l0 := (Array.getElem?_eq_some_iff.1 q0).1
  have l1 := (Array.getElem?_eq_some_iff.1 q1).1
  have l2 := (Array.getElem?_eq_some_iff.1 q2).1
  have Q0 := hid q0
  have Q1 := hid q1
  have Q2 := hid q2
  have hzW0 := hbW0.size
  clear q0 q1 q2
  subst hXN
  subst hXD
  subst hC
  go_enter Try.func3, Try.ntmps3
  go_wp2_with fail
  rw [← hW0]
  refine (HA.out _).mono ?_
  rintro _ w1 ⟨rfl, hb1⟩
  clear hW0
  have hb01 : Below W0.heap.size W0 w1 := hb1
  obtain ⟨m0, m1, m2, m3, m4, m5, m6, m7, m8, m9, m10, m11, ml⟩ := tw_cells ((hb01.block w.heap.size l0).trans Q0.out)
  obtain ⟨s0, s1, s2, fs0, fs1, fs2, hls⟩ := three_cells ((hb01.block (w.heap.size + 1) l1).trans Q1.out)
  obtain ⟨p0, p1, p2, p3, hlp⟩ := four_row ((hb01.block (w.heap.size + 1 + 1) l2).trans Q2.out)
  clear fs0 fs1 fs2
  have hbf1 : Below w.heap.size w w1 := hbW0.trans (hb01.mono hzW0)
  go_wp2_with fail
  refine (HC.out _).mono ?_
  rintro _ w2 ⟨rfl, hb2⟩
  have hb02 : Below W0.heap.size W0 w2 := hb01.trans (hb2.mono hb01.size)
  clear m0 m1 m2 m3 m4 m5 m6 m7 m8 m9 m10 m11 ml s0 s1 s2 hls p0 p1 p2 p3 hlp
  obtain ⟨m0, m1, m2, m3, m4, m5, m6, m7, m8, m9, m10, m11, ml⟩ := tw_cells ((hb02.block w.heap.size l0).trans Q0.out)
  obtain ⟨s0, s1, s2, fs0, fs1, fs2, hls⟩ := three_cells ((hb02.block (w.heap.size + 1) l1).trans Q1.out)
  obtain ⟨p0, p1, p2, p3, hlp⟩ := four_row ((hb02.block (w.heap.size + 1 + 1) l2).trans Q2.out)
  clear fs0 fs1 fs2
  have hbf2 : Below w.heap.size w w2 := hbW0.trans (hb02.mono hzW0)
  clear hbf1
  go_wp2_with fail
  refine (HR.out _).mono ?_
  rintro _ w3 ⟨rfl, hb3⟩
  have hb03 : Below W0.heap.size W0 w3 := hb02.trans (hb3.mono hb02.size)
  clear m0 m1 m2 m3 m4 m5 m6 m7 m8 m9 m10 m11 ml s0 s1 s2 hls p0 p1 p2 p3 hlp
  obtain ⟨m0, m1, m2, m3, m4, m5, m6, m7, m8, m9, m10, m11, ml⟩ := tw_cells ((hb03.block w.heap.size l0).trans Q0.out)
  obtain ⟨s0, s1, s2, fs0, fs1, fs2, hls⟩ := three_cells ((hb03.block (w.heap.size + 1) l1).trans Q1.out)
  obtain ⟨p0, p1, p2, p3, hlp⟩ := four_row ((hb03.block (w.heap.size + 1 + 1) l2).trans Q2.out)
  clear fs0 fs1 fs2
  have hbf3 : Below w.heap.size w w3 := hbW0.trans (hb03.mono hzW0)
  clear hbf2
  go_wp2_with fail
  refine (HF.out _).mono ?_
  rintro _ w5 ⟨rfl, hb5⟩
  have hb05 : Below W0.heap.size W0 w5 := hb03.trans (hb5.mono hb03.size)
  clear m0 m1 m2 m3 m4 m5 m6 m7 m8 m9 m10 m11 ml s0 s1 s2 hls p0 p1 p2 p3 hlp
  obtain ⟨m0, m1, m2, m3, m4, m5, m6, m7, m8, m9, m10, m11, ml⟩ := tw_cells ((hb05.block w.heap.size l0).trans Q0.out)
  obtain ⟨s0, s1, s2, fs0, fs1, fs2, hls⟩ := three_cells ((hb05.block (w.heap.size + 1) l1).trans Q1.out)
  obtain ⟨p0, p1, p2, p3, hlp⟩ := four_row ((hb05.block (w.heap.size + 1 + 1) l2).trans Q2.out)
  clear fs0 fs1 fs2
  have hbf5 : Below w.heap.size w w5 := hbW0.trans (hb05.mono hzW0)
  clear hbf3
  go_wp2_with fail
  refine (HN.out _).mono ?_
  rintro _ w4 ⟨rfl, hb4⟩
  have hb04 : Below W0.heap.size W0 w4 := hb05.trans (hb4.mono hb05.size)
  clear m0 m1 m2 m3 m4 m5 m6 m7 m8 m9 m10 m11 ml s0 s1 s2 hls p0 p1 p2 p3 hlp
  obtain ⟨m0, m1, m2, m3, m4, m5, m6, m7, m8, m9, m10, m11, ml⟩ := tw_cells ((hb04.block w.heap.size l0).trans Q0.out)
  obtain ⟨s0, s1, s2, fs0, fs1, fs2, hls⟩ := three_cells ((hb04.block (w.heap.size + 1) l1).trans Q1.out)
  obtain ⟨p0, p1, p2, p3, hlp⟩ := four_row ((hb04.block (w.heap.size + 1 + 1) l2).trans Q2.out)
  clear fs0 fs1 fs2
  have hbf4 : Below w.heap.size w w4 := hbW0.trans (hb04.mono hzW0)
  clear hbf5
  obtain ⟨X, hX⟩ : ∃ X, X = w4.alloc (.cells #[.int .i64 0, .int .i64 0] 37) := ⟨_, rfl⟩
  have hbX : Below w4.heap.size w4 X := by rw [hX]; (repeat (with_reducible first | exact Below.refl _ _ | assumption | refine Below.drewN _ ?_ | refine Below.drew ?_ | refine Below_alloc ?_ _ | refine Below.alloc ?_ (by first | (simp; done) | (simp; omega) | omega) _ | refine Below.setCell ?_ (by first | (simp; done) | (simp; omega) | omega) _ | refine Below_call ?_ (by assumption) | refine Below.trans ?_ (by assumption)))
  have RX := hid (show X.heap[w4.heap.size]? = some (.cells #[.int .i64 0, .int .i64 0] 37 (0, 0)) by rw [hX]; exact heap_alloc_new w4 _)
  have hb0X : Below W0.heap.size W0 X := hb04.trans (hbX.mono hb04.size)
  have hbfX : Below w.heap.size w X := hbW0.trans (hb0X.mono hzW0)
  have l0' : w.heap.size < w4.heap.size + 1 := Nat.lt_succ_of_lt ml
  go_wp2_with fail
  rw [← hX]
  clear hX l0'
  refine (RM.out _).mono ?_
  rintro _ w6 ⟨rfl, hb6⟩
  have hb06 : Below W0.heap.size W0 w6 := hb0X.trans (hb6.mono hb0X.size)
  clear m0 m1 m2 m3 m4 m5 m6 m7 m8 m9 m10 m11 ml s0 s1 s2 hls p0 p1 p2 p3 hlp
  have RX6 := hid ((hb6.block w4.heap.size (Array.getElem?_eq_some_iff.1 RX.out).1).trans RX.out)
  obtain ⟨n0, n1, fn0, fn1, hln⟩ := two_cells RX6.out
  clear fn0 fn1
  obtain ⟨m0, m1, m2, m3, m4, m5, m6, m7, m8, m9, m10, m11, ml⟩ := tw_cells ((hb06.block w.heap.size l0).trans Q0.out)
  obtain ⟨s0, s1, s2, fs0, fs1, fs2, hls⟩ := three_cells ((hb06.block (w.heap.size + 1) l1).trans Q1.out)
  obtain ⟨p0, p1, p2, p3, hlp⟩ := four_row ((hb06.block (w.heap.size + 1 + 1) l2).trans Q2.out)
  clear fs0 fs1 fs2
  have hbf6 : Below w.heap.size w w6 := hbW0.trans (hb06.mono hzW0)
  clear hbfX hbf4
  go_wp2_with fail
  refine (RB.out _).mono ?_
  rintro _ w7 ⟨rfl, hb7⟩
  have hb07 : Below W0.heap.size W0 w7 := hb06.trans (hb7.mono hb06.size)
  clear m0 m1 m2 m3 m4 m5 m6 m7 m8 m9 m10 m11 ml s0 s1 s2 hls p0 p1 p2 p3 hlp
  have RX7 := hid ((hb7.block w4.heap.size (Array.getElem?_eq_some_iff.1 RX6.out).1).trans RX6.out)
  clear n0 n1 hln
  obtain ⟨n0, n1, fn0, fn1, hln⟩ := two_cells RX7.out
  clear fn0 fn1
  obtain ⟨m0, m1, m2, m3, m4, m5, m6, m7, m8, m9, m10, m11, ml⟩ := tw_cells ((hb07.block w.heap.size l0).trans Q0.out)
  obtain ⟨s0, s1, s2, fs0, fs1, fs2, hls⟩ := three_cells ((hb07.block (w.heap.size + 1) l1).trans Q1.out)
  obtain ⟨p0, p1, p2, p3, hlp⟩ := four_row ((hb07.block (w.heap.size + 1 + 1) l2).trans Q2.out)
  clear fs0 fs1 fs2
  have hbf7 : Below w.heap.size w w7 := hbW0.trans (hb07.mono hzW0)
  clear hbf6
  go_wp2_with fail
  refine wp_mixC (fun wc => Below (w7.heap.size) w7 wc) 6 [.q [0, 2, 3], .f [1, 4], .q [5]] [.q [6]] (by kernel_rfl) (by kernel_rfl) ((Below.refl _ _).drew) ?_
  intro Q' hQ'
  (rw [wpMixC]; simp only [pick, List.drop_succ_cons, List.drop_zero, List.head?_cons, Option.toList_some, List.cons_append, List.nil_append])
  (repeat (first | go_big_quiet_skip | (go_big_quiet_want; refine quiet_simple rfl ?_; go_big_quiet_op; go_big_quiet_on) | (go_big_quiet_want; refine quiet_agg3B (ty := 22) rfl rfl (by kernel_rfl) (by assumption) (by assumption) (by assumption) (by first | omega | (simp; omega)) ?_; simp only [Act.put, List.setIfInBounds_toArray, List.set_cons_succ, List.set_cons_zero]; go_big_quiet_on) | (go_big_quiet_want; refine quiet_agg4B (ty := 28) rfl rfl (by kernel_rfl) (by assumption) (by assumption) (by assumption) (by assumption) (by first | omega | (simp; omega)) ?_; simp only [Act.put, List.setIfInBounds_toArray, List.set_cons_succ, List.set_cons_zero]; go_big_quiet_on)))
  (try refine wpQuiet_nil ?_)
  (rw [wpMixC]; simp only [pick, List.drop_succ_cons, List.drop_zero, List.head?_cons, Option.toList_some, List.cons_append, List.nil_append])
  (rw [wpSteps]; go_wp2_with ((go_at_call 20; ((with_reducible refine (RMo.out _).mono ?_); rintro _ w8 ⟨rfl, hb8⟩))); rw [contF]; refine ⟨?_, ?_⟩; (next => (repeat (with_reducible first | exact Below.refl _ _ | assumption | refine Below.drewN _ ?_ | refine Below.drew ?_ | refine Below_alloc ?_ _ | refine Below.alloc ?_ (by first | (simp; done) | (simp; omega) | omega) _ | refine Below.setCell ?_ (by first | (simp; done) | (simp; omega) | omega) _ | refine Below_call ?_ (by assumption) | refine Below.trans ?_ (by assumption)))))
  (rw [wpSteps]; go_wp2_with ((go_at_call 21; ((with_reducible refine (RP.out _).mono ?_); rintro _ w9 ⟨rfl, hb9⟩))); rw [contF]; refine ⟨?_, ?_⟩; (next => (repeat (with_reducible first | exact Below.refl _ _ | assumption | refine Below.drewN _ ?_ | refine Below.drew ?_ | refine Below_alloc ?_ _ | refine Below.alloc ?_ (by first | (simp; done) | (simp; omega) | omega) _ | refine Below.setCell ?_ (by first | (simp; done) | (simp; omega) | omega) _ | refine Below_call ?_ (by assumption) | refine Below.trans ?_ (by assumption)))))
  (rw [wpSteps])
  (rw [wpMixC]; simp only [pick, List.drop_succ_cons, List.drop_zero, List.head?_cons, Option.toList_some, List.cons_append, List.nil_append])
  (repeat (first | go_big_quiet_skip | (go_big_quiet_want; refine quiet_simple rfl ?_; go_big_quiet_op; go_big_quiet_on) | (go_big_quiet_want; refine quiet_agg3B (ty := 22) rfl rfl (by kernel_rfl) (by assumption) (by assumption) (by assumption) (by first | omega | (simp; omega)) ?_; simp only [Act.put, List.setIfInBounds_toArray, List.set_cons_succ, List.set_cons_zero]; go_big_quiet_on) | (go_big_quiet_want; refine quiet_agg4B (ty := 28) rfl rfl (by kernel_rfl) (by assumption) (by assumption) (by assumption) (by assumption) (by first | omega | (simp; omega)) ?_; simp only [Act.put, List.setIfInBounds_toArray, List.set_cons_succ, List.set_cons_zero]; go_big_quiet_on)))
  (try refine wpQuiet_nil ?_)
  (rw [wpMixC])
  (rw [wpMix]; simp only [pick, List.drop_succ_cons, List.drop_zero, List.head?_cons, Option.toList_some, List.cons_append, List.nil_append])
  (repeat (first | (go_big_quiet_step (fail)) | (quiet_step (fail))))
  (try refine wpQuiet_nil ?_)
  (rw [wpMix])
  (refine hQ' _ _ ?_)
  have hb79 : Below w7.heap.size w7 w9 := by (repeat (with_reducible first | exact Below.refl _ _ | assumption | refine Below.drewN _ ?_ | refine Below.drew ?_ | refine Below_alloc ?_ _ | refine Below.alloc ?_ (by first | (simp; done) | (simp; omega) | omega) _ | refine Below.setCell ?_ (by first | (simp; done) | (simp; omega) | omega) _ | refine Below_call ?_ (by assumption) | refine Below.trans ?_ (by assumption)))
  have hb09 : Below W0.heap.size W0 w9 := hb07.trans (hb79.mono hb07.size)
  clear m0 m1 m2 m3 m4 m5 m6 m7 m8 m9 m10 m11 ml s0 s1 s2 hls p0 p1 p2 p3 hlp
  have RX9 := hid ((hb79.block w4.heap.size (Array.getElem?_eq_some_iff.1 RX7.out).1).trans RX7.out)
  clear n0 n1 hln
  obtain ⟨n0, n1, fn0, fn1, hln⟩ := two_cells RX9.out
  clear fn0 fn1 hb8 hb9
  obtain ⟨m0, m1, m2, m3, m4, m5, m6, m7, m8, m9, m10, m11, ml⟩ := tw_cells ((hb09.block w.heap.size l0).trans Q0.out)
  obtain ⟨s0, s1, s2, fs0, fs1, fs2, hls⟩ := three_cells ((hb09.block (w.heap.size + 1) l1).trans Q1.out)
  obtain ⟨p0, p1, p2, p3, hlp⟩ := four_row ((hb09.block (w.heap.size + 1 + 1) l2).trans Q2.out)
  clear fs0 fs1 fs2
  have hbf9 : Below w.heap.size w w9 := hbW0.trans (hb09.mono hzW0)
  clear hbf7
  go_wp2_with fail
  go_ret
  exact ⟨rfl, hbf9⟩

set_option maxRecDepth 100000 in
set_option maxHeartbeats 16000000 in
theorem law_Reached_C11 (px py pz tm tk lo hi li ea la no mi sx sy sz qx qy qz t EM XN XD RN RD C FV : Int) (q1 : (C == 0) = false) (q2 : (C != 0) = true) (w : World)
    (HC : Hid (∀ W, Calls Try.prog 14 #[.agg #[.int .i64 px, .int .i64 py, .int .i64 pz, .int .i64 tm, .int .i64 tk, .int .i64 lo, .int .i64 hi, .int .i64 li, .int .i64 ea, .int .i64 la, .int .i64 no, .int .i64 mi]] W fun e w' => e = .returned (.int .i64 EM) ∧ Below W.heap.size W w'))
    (RM : Hid (∀ W, Calls Try.prog 18 #[.agg #[.int .i64 px, .int .i64 py, .int .i64 pz, .int .i64 tm, .int .i64 tk, .int .i64 lo, .int .i64 hi, .int .i64 li, .int .i64 ea, .int .i64 la, .int .i64 no, .int .i64 mi]] W fun e w' => e = .returned (.int .i64 EM) ∧ Below W.heap.size W w'))
    (HR : Hid (∀ W, Calls Try.prog 15 #[.agg #[.int .i64 px, .int .i64 py, .int .i64 pz, .int .i64 tm, .int .i64 tk, .int .i64 lo, .int .i64 hi, .int .i64 li, .int .i64 ea, .int .i64 la, .int .i64 no, .int .i64 mi], .agg #[.int .i64 sx, .int .i64 sy, .int .i64 sz], .agg #[.int .i64 qx, .int .i64 qy, .int .i64 qz, .int .i64 t]] W fun e w' => e = .returned (.tuple #[.bool false, .int .i64 C]) ∧ Below W.heap.size W w'))
    (HF : Hid (∀ W, Calls Try.prog 16 #[.agg #[.int .i64 px, .int .i64 py, .int .i64 pz, .int .i64 tm, .int .i64 tk, .int .i64 lo, .int .i64 hi, .int .i64 li, .int .i64 ea, .int .i64 la, .int .i64 no, .int .i64 mi], .agg #[.int .i64 sx, .int .i64 sy, .int .i64 sz], .agg #[.int .i64 qx, .int .i64 qy, .int .i64 qz]] W fun e w' => e = .returned (.tuple #[.int .i64 FV, .int .i64 0]) ∧ Below W.heap.size W w'))
    (HN : Hid (∀ W, Calls Try.prog 17 #[.agg #[.int .i64 px, .int .i64 py, .int .i64 pz, .int .i64 tm, .int .i64 tk, .int .i64 lo, .int .i64 hi, .int .i64 li, .int .i64 ea, .int .i64 la, .int .i64 no, .int .i64 mi], .agg #[.int .i64 sx, .int .i64 sy, .int .i64 sz], .agg #[.int .i64 qx, .int .i64 qy, .int .i64 qz]] W fun e w' => e = .returned (.tuple #[.agg #[.int .i64 XN, .int .i64 XD], .int .i64 0]) ∧ Below W.heap.size W w'))
    (RB : Hid (∀ W, Calls Try.prog 19 #[.agg #[.int .i64 px, .int .i64 py, .int .i64 pz, .int .i64 tm, .int .i64 tk, .int .i64 lo, .int .i64 hi, .int .i64 li, .int .i64 ea, .int .i64 la, .int .i64 no, .int .i64 mi], .agg #[.int .i64 sx, .int .i64 sy, .int .i64 sz]] W fun e w' => e = .returned (.int .i64 0) ∧ Below W.heap.size W w'))
    (RMo : Hid (∀ W, Calls Try.prog 20 #[.agg #[.int .i64 qx, .int .i64 qy, .int .i64 qz, .int .i64 t]] W fun e w' => e = .returned (.int .i64 C) ∧ Below W.heap.size W w'))
    (RP : Hid (∀ W, Calls Try.prog 21 #[.agg #[.int .i64 qx, .int .i64 qy, .int .i64 qz]] W fun e w' => e = .returned (.int .i64 0) ∧ Below W.heap.size W w'))
    (RF : Hid (∀ W, Calls Try.prog 23 #[.agg #[.int .i64 px, .int .i64 py, .int .i64 pz, .int .i64 tm, .int .i64 tk, .int .i64 lo, .int .i64 hi, .int .i64 li, .int .i64 ea, .int .i64 la, .int .i64 no, .int .i64 mi], .agg #[.int .i64 sx, .int .i64 sy, .int .i64 sz], .agg #[.int .i64 qx, .int .i64 qy, .int .i64 qz]] W fun e w' => e = .returned (.tuple #[.int .i64 FV, .bool true]) ∧ Below W.heap.size W w'))
    (RNE : Hid (∀ W, Calls Try.prog 25 #[.agg #[.int .i64 px, .int .i64 py, .int .i64 pz, .int .i64 tm, .int .i64 tk, .int .i64 lo, .int .i64 hi, .int .i64 li, .int .i64 ea, .int .i64 la, .int .i64 no, .int .i64 mi], .agg #[.int .i64 sx, .int .i64 sy, .int .i64 sz], .agg #[.int .i64 qx, .int .i64 qy, .int .i64 qz]] W (RetRat W RN RD (fun _ => True))))
    (RFR : Hid (∀ W v, RatAt W v RN RD (fun _ => True) → Calls Try.prog 24 #[v] W fun e w' => e = .returned (.tuple #[.agg #[.int .i64 XN, .int .i64 XD], .bool true]) ∧ Below W.heap.size W w'))
    : Calls Try.prog 3 #[.agg #[.int .i64 px, .int .i64 py, .int .i64 pz, .int .i64 tm, .int .i64 tk, .int .i64 lo, .int .i64 hi, .int .i64 li, .int .i64 ea, .int .i64 la, .int .i64 no, .int .i64 mi], .agg #[.int .i64 sx, .int .i64 sy, .int .i64 sz], .agg #[.int .i64 qx, .int .i64 qy, .int .i64 qz, .int .i64 t]] w fun e w' => e = .returned (.bool true) ∧ Below w.heap.size w w' := by
  have HA := hid law_awake5
  obtain ⟨W0, hW0⟩ : ∃ W0, W0 = ((w.alloc (.cells #[.int .i64 px, .int .i64 py, .int .i64 pz, .int .i64 tm, .int .i64 tk, .int .i64 lo, .int .i64 hi, .int .i64 li, .int .i64 ea, .int .i64 la, .int .i64 no, .int .i64 mi] 26)).alloc (.cells #[.int .i64 sx, .int .i64 sy, .int .i64 sz] 22)).alloc (.cells #[.int .i64 qx, .int .i64 qy, .int .i64 qz, .int .i64 t] 28) := ⟨_, rfl⟩
  have hbW0 : Below w.heap.size w W0 := by rw [hW0]; (repeat (with_reducible first | exact Below.refl _ _ | assumption | refine Below.drewN _ ?_ | refine Below.drew ?_ | refine Below_alloc ?_ _ | refine Below.alloc ?_ (by first | (simp; done) | (simp; omega) | omega) _ | refine Below.setCell ?_ (by first | (simp; done) | (simp; omega) | omega) _ | refine Below_call ?_ (by assumption) | refine Below.trans ?_ (by assumption)))
  obtain ⟨q0, q1, q2⟩ := al3 w _ _ _ _ _ _ W0 hW0
  have l0 := (Array.getElem?_eq_some_iff.1 q0).1
  have l1 := (Array.getElem?_eq_some_iff.1 q1).1
  have l2 := (Array.getElem?_eq_some_iff.1 q2).1
  have Q0 := hid q0
  have Q1 := hid q1
  have Q2 := hid q2
  have hzW0 := hbW0.size
  clear q0 q1 q2
  go_enter Try.func3, Try.ntmps3
  go_wp2_with fail
  rw [← hW0]
  refine (HA.out _).mono ?_
  rintro _ w1 ⟨rfl, hb1⟩
  clear hW0
  have hb01 : Below W0.heap.size W0 w1 := hb1
  obtain ⟨m0, m1, m2, m3, m4, m5, m6, m7, m8, m9, m10, m11, ml⟩ := tw_cells ((hb01.block w.heap.size l0).trans Q0.out)
  obtain ⟨s0, s1, s2, fs0, fs1, fs2, hls⟩ := three_cells ((hb01.block (w.heap.size + 1) l1).trans Q1.out)
  obtain ⟨p0, p1, p2, p3, hlp⟩ := four_row ((hb01.block (w.heap.size + 1 + 1) l2).trans Q2.out)
  clear fs0 fs1 fs2
  have hbf1 : Below w.heap.size w w1 := hbW0.trans (hb01.mono hzW0)
  go_wp2_with fail
  refine (HC.out _).mono ?_
  rintro _ w2 ⟨rfl, hb2⟩
  have hb02 : Below W0.heap.size W0 w2 := hb01.trans (hb2.mono hb01.size)
  clear m0 m1 m2 m3 m4 m5 m6 m7 m8 m9 m10 m11 ml s0 s1 s2 hls p0 p1 p2 p3 hlp
  obtain ⟨m0, m1, m2, m3, m4, m5, m6, m7, m8, m9, m10, m11, ml⟩ := tw_cells ((hb02.block w.heap.size l0).trans Q0.out)
  obtain ⟨s0, s1, s2, fs0, fs1, fs2, hls⟩ := three_cells ((hb02.block (w.heap.size + 1) l1).trans Q1.out)
  obtain ⟨p0, p1, p2, p3, hlp⟩ := four_row ((hb02.block (w.heap.size + 1 + 1) l2).trans Q2.out)
  clear fs0 fs1 fs2
  have hbf2 : Below w.heap.size w w2 := hbW0.trans (hb02.mono hzW0)
  clear hbf1
  go_wp2_with fail
  refine (HR.out _).mono ?_
  rintro _ w3 ⟨rfl, hb3⟩
  have hb03 : Below W0.heap.size W0 w3 := hb02.trans (hb3.mono hb02.size)
  clear m0 m1 m2 m3 m4 m5 m6 m7 m8 m9 m10 m11 ml s0 s1 s2 hls p0 p1 p2 p3 hlp
  obtain ⟨m0, m1, m2, m3, m4, m5, m6, m7, m8, m9, m10, m11, ml⟩ := tw_cells ((hb03.block w.heap.size l0).trans Q0.out)
  obtain ⟨s0, s1, s2, fs0, fs1, fs2, hls⟩ := three_cells ((hb03.block (w.heap.size + 1) l1).trans Q1.out)
  obtain ⟨p0, p1, p2, p3, hlp⟩ := four_row ((hb03.block (w.heap.size + 1 + 1) l2).trans Q2.out)
  clear fs0 fs1 fs2
  have hbf3 : Below w.heap.size w w3 := hbW0.trans (hb03.mono hzW0)
  clear hbf2
  go_wp2_with fail
  refine (HF.out _).mono ?_
  rintro _ w5 ⟨rfl, hb5⟩
  have hb05 : Below W0.heap.size W0 w5 := hb03.trans (hb5.mono hb03.size)
  clear m0 m1 m2 m3 m4 m5 m6 m7 m8 m9 m10 m11 ml s0 s1 s2 hls p0 p1 p2 p3 hlp
  obtain ⟨m0, m1, m2, m3, m4, m5, m6, m7, m8, m9, m10, m11, ml⟩ := tw_cells ((hb05.block w.heap.size l0).trans Q0.out)
  obtain ⟨s0, s1, s2, fs0, fs1, fs2, hls⟩ := three_cells ((hb05.block (w.heap.size + 1) l1).trans Q1.out)
  obtain ⟨p0, p1, p2, p3, hlp⟩ := four_row ((hb05.block (w.heap.size + 1 + 1) l2).trans Q2.out)
  clear fs0 fs1 fs2
  have hbf5 : Below w.heap.size w w5 := hbW0.trans (hb05.mono hzW0)
  clear hbf3
  go_wp2_with fail
  refine (HN.out _).mono ?_
  rintro _ w4 ⟨rfl, hb4⟩
  have hb04 : Below W0.heap.size W0 w4 := hb05.trans (hb4.mono hb05.size)
  clear m0 m1 m2 m3 m4 m5 m6 m7 m8 m9 m10 m11 ml s0 s1 s2 hls p0 p1 p2 p3 hlp
  obtain ⟨m0, m1, m2, m3, m4, m5, m6, m7, m8, m9, m10, m11, ml⟩ := tw_cells ((hb04.block w.heap.size l0).trans Q0.out)
  obtain ⟨s0, s1, s2, fs0, fs1, fs2, hls⟩ := three_cells ((hb04.block (w.heap.size + 1) l1).trans Q1.out)
  obtain ⟨p0, p1, p2, p3, hlp⟩ := four_row ((hb04.block (w.heap.size + 1 + 1) l2).trans Q2.out)
  clear fs0 fs1 fs2
  have hbf4 : Below w.heap.size w w4 := hbW0.trans (hb04.mono hzW0)
  clear hbf5
  obtain ⟨X, hX⟩ : ∃ X, X = w4.alloc (.cells #[.int .i64 XN, .int .i64 XD] 37) := ⟨_, rfl⟩
  have hbX : Below w4.heap.size w4 X := by rw [hX]; (repeat (with_reducible first | exact Below.refl _ _ | assumption | refine Below.drewN _ ?_ | refine Below.drew ?_ | refine Below_alloc ?_ _ | refine Below.alloc ?_ (by first | (simp; done) | (simp; omega) | omega) _ | refine Below.setCell ?_ (by first | (simp; done) | (simp; omega) | omega) _ | refine Below_call ?_ (by assumption) | refine Below.trans ?_ (by assumption)))
  have RX := hid (show X.heap[w4.heap.size]? = some (.cells #[.int .i64 XN, .int .i64 XD] 37 (0, 0)) by rw [hX]; exact heap_alloc_new w4 _)
  have hb0X : Below W0.heap.size W0 X := hb04.trans (hbX.mono hb04.size)
  have hbfX : Below w.heap.size w X := hbW0.trans (hb0X.mono hzW0)
  have l0' : w.heap.size < w4.heap.size + 1 := Nat.lt_succ_of_lt ml
  go_wp2_with fail
  rw [← hX]
  clear hX l0'
  refine (RM.out _).mono ?_
  rintro _ w6 ⟨rfl, hb6⟩
  have hb06 : Below W0.heap.size W0 w6 := hb0X.trans (hb6.mono hb0X.size)
  clear m0 m1 m2 m3 m4 m5 m6 m7 m8 m9 m10 m11 ml s0 s1 s2 hls p0 p1 p2 p3 hlp
  have RX6 := hid ((hb6.block w4.heap.size (Array.getElem?_eq_some_iff.1 RX.out).1).trans RX.out)
  obtain ⟨n0, n1, fn0, fn1, hln⟩ := two_cells RX6.out
  clear fn0 fn1
  obtain ⟨m0, m1, m2, m3, m4, m5, m6, m7, m8, m9, m10, m11, ml⟩ := tw_cells ((hb06.block w.heap.size l0).trans Q0.out)
  obtain ⟨s0, s1, s2, fs0, fs1, fs2, hls⟩ := three_cells ((hb06.block (w.heap.size + 1) l1).trans Q1.out)
  obtain ⟨p0, p1, p2, p3, hlp⟩ := four_row ((hb06.block (w.heap.size + 1 + 1) l2).trans Q2.out)
  clear fs0 fs1 fs2
  have hbf6 : Below w.heap.size w w6 := hbW0.trans (hb06.mono hzW0)
  clear hbfX hbf4
  go_wp2_with fail
  refine (RB.out _).mono ?_
  rintro _ w7 ⟨rfl, hb7⟩
  have hb07 : Below W0.heap.size W0 w7 := hb06.trans (hb7.mono hb06.size)
  clear m0 m1 m2 m3 m4 m5 m6 m7 m8 m9 m10 m11 ml s0 s1 s2 hls p0 p1 p2 p3 hlp
  have RX7 := hid ((hb7.block w4.heap.size (Array.getElem?_eq_some_iff.1 RX6.out).1).trans RX6.out)
  clear n0 n1 hln
  obtain ⟨n0, n1, fn0, fn1, hln⟩ := two_cells RX7.out
  clear fn0 fn1
  obtain ⟨m0, m1, m2, m3, m4, m5, m6, m7, m8, m9, m10, m11, ml⟩ := tw_cells ((hb07.block w.heap.size l0).trans Q0.out)
  obtain ⟨s0, s1, s2, fs0, fs1, fs2, hls⟩ := three_cells ((hb07.block (w.heap.size + 1) l1).trans Q1.out)
  obtain ⟨p0, p1, p2, p3, hlp⟩ := four_row ((hb07.block (w.heap.size + 1 + 1) l2).trans Q2.out)
  clear fs0 fs1 fs2
  have hbf7 : Below w.heap.size w w7 := hbW0.trans (hb07.mono hzW0)
  clear hbf6
  go_wp2_with fail
  refine wp_mixC (fun wc => Below (w7.heap.size) w7 wc) 6 [.q [0, 2, 3], .f [1, 4], .q [5]] [.q [6]] (by kernel_rfl) (by kernel_rfl) ((Below.refl _ _).drew) ?_
  intro Q' hQ'
  (rw [wpMixC]; simp only [pick, List.drop_succ_cons, List.drop_zero, List.head?_cons, Option.toList_some, List.cons_append, List.nil_append])
  (repeat (first | go_big_quiet_skip | (go_big_quiet_want; refine quiet_simple rfl ?_; go_big_quiet_op; go_big_quiet_on) | (go_big_quiet_want; refine quiet_agg3B (ty := 22) rfl rfl (by kernel_rfl) (by assumption) (by assumption) (by assumption) (by first | omega | (simp; omega)) ?_; simp only [Act.put, List.setIfInBounds_toArray, List.set_cons_succ, List.set_cons_zero]; go_big_quiet_on) | (go_big_quiet_want; refine quiet_agg4B (ty := 28) rfl rfl (by kernel_rfl) (by assumption) (by assumption) (by assumption) (by assumption) (by first | omega | (simp; omega)) ?_; simp only [Act.put, List.setIfInBounds_toArray, List.set_cons_succ, List.set_cons_zero]; go_big_quiet_on)))
  (try refine wpQuiet_nil ?_)
  (rw [wpMixC]; simp only [pick, List.drop_succ_cons, List.drop_zero, List.head?_cons, Option.toList_some, List.cons_append, List.nil_append])
  (rw [wpSteps]; go_wp2_with ((go_at_call 20; ((with_reducible refine (RMo.out _).mono ?_); rintro _ w8 ⟨rfl, hb8⟩))); rw [contF]; refine ⟨?_, ?_⟩; (next => (repeat (with_reducible first | exact Below.refl _ _ | assumption | refine Below.drewN _ ?_ | refine Below.drew ?_ | refine Below_alloc ?_ _ | refine Below.alloc ?_ (by first | (simp; done) | (simp; omega) | omega) _ | refine Below.setCell ?_ (by first | (simp; done) | (simp; omega) | omega) _ | refine Below_call ?_ (by assumption) | refine Below.trans ?_ (by assumption)))))
  (rw [wpSteps]; go_wp2_with ((go_at_call 21; ((with_reducible refine (RP.out _).mono ?_); rintro _ w9 ⟨rfl, hb9⟩))); rw [contF]; refine ⟨?_, ?_⟩; (next => (repeat (with_reducible first | exact Below.refl _ _ | assumption | refine Below.drewN _ ?_ | refine Below.drew ?_ | refine Below_alloc ?_ _ | refine Below.alloc ?_ (by first | (simp; done) | (simp; omega) | omega) _ | refine Below.setCell ?_ (by first | (simp; done) | (simp; omega) | omega) _ | refine Below_call ?_ (by assumption) | refine Below.trans ?_ (by assumption)))))
  (rw [wpSteps])
  (rw [wpMixC]; simp only [pick, List.drop_succ_cons, List.drop_zero, List.head?_cons, Option.toList_some, List.cons_append, List.nil_append])
  (repeat (first | go_big_quiet_skip | (go_big_quiet_want; refine quiet_simple rfl ?_; go_big_quiet_op; go_big_quiet_on) | (go_big_quiet_want; refine quiet_agg3B (ty := 22) rfl rfl (by kernel_rfl) (by assumption) (by assumption) (by assumption) (by first | omega | (simp; omega)) ?_; simp only [Act.put, List.setIfInBounds_toArray, List.set_cons_succ, List.set_cons_zero]; go_big_quiet_on) | (go_big_quiet_want; refine quiet_agg4B (ty := 28) rfl rfl (by kernel_rfl) (by assumption) (by assumption) (by assumption) (by assumption) (by first | omega | (simp; omega)) ?_; simp only [Act.put, List.setIfInBounds_toArray, List.set_cons_succ, List.set_cons_zero]; go_big_quiet_on)))
  (try refine wpQuiet_nil ?_)
  (rw [wpMixC])
  (rw [wpMix]; simp only [pick, List.drop_succ_cons, List.drop_zero, List.head?_cons, Option.toList_some, List.cons_append, List.nil_append])
  (repeat (first | (go_big_quiet_step (fail)) | (quiet_step (fail))))
  (try refine wpQuiet_nil ?_)
  (rw [wpMix])
  (refine hQ' _ _ ?_)
  have hb79 : Below w7.heap.size w7 w9 := by (repeat (with_reducible first | exact Below.refl _ _ | assumption | refine Below.drewN _ ?_ | refine Below.drew ?_ | refine Below_alloc ?_ _ | refine Below.alloc ?_ (by first | (simp; done) | (simp; omega) | omega) _ | refine Below.setCell ?_ (by first | (simp; done) | (simp; omega) | omega) _ | refine Below_call ?_ (by assumption) | refine Below.trans ?_ (by assumption)))
  have hb09 : Below W0.heap.size W0 w9 := hb07.trans (hb79.mono hb07.size)
  clear m0 m1 m2 m3 m4 m5 m6 m7 m8 m9 m10 m11 ml s0 s1 s2 hls p0 p1 p2 p3 hlp
  have RX9 := hid ((hb79.block w4.heap.size (Array.getElem?_eq_some_iff.1 RX7.out).1).trans RX7.out)
  clear n0 n1 hln
  obtain ⟨n0, n1, fn0, fn1, hln⟩ := two_cells RX9.out
  clear fn0 fn1 hb8 hb9
  obtain ⟨m0, m1, m2, m3, m4, m5, m6, m7, m8, m9, m10, m11, ml⟩ := tw_cells ((hb09.block w.heap.size l0).trans Q0.out)
  obtain ⟨s0, s1, s2, fs0, fs1, fs2, hls⟩ := three_cells ((hb09.block (w.heap.size + 1) l1).trans Q1.out)
  obtain ⟨p0, p1, p2, p3, hlp⟩ := four_row ((hb09.block (w.heap.size + 1 + 1) l2).trans Q2.out)
  clear fs0 fs1 fs2
  have hbf9 : Below w.heap.size w w9 := hbW0.trans (hb09.mono hzW0)
  clear hbf7
  go_wp2_with fail
  refine (RF.out _).mono ?_
  rintro _ w11 ⟨rfl, hb11⟩
  have hb011 : Below W0.heap.size W0 w11 := hb09.trans (hb11.mono hb09.size)
  clear m0 m1 m2 m3 m4 m5 m6 m7 m8 m9 m10 m11 ml s0 s1 s2 hls p0 p1 p2 p3 hlp
  have RX11 := hid ((hb11.block w4.heap.size (Array.getElem?_eq_some_iff.1 RX9.out).1).trans RX9.out)
  clear n0 n1 hln
  obtain ⟨n0, n1, fn0, fn1, hln⟩ := two_cells RX11.out
  clear fn0 fn1
  obtain ⟨m0, m1, m2, m3, m4, m5, m6, m7, m8, m9, m10, m11, ml⟩ := tw_cells ((hb011.block w.heap.size l0).trans Q0.out)
  obtain ⟨s0, s1, s2, fs0, fs1, fs2, hls⟩ := three_cells ((hb011.block (w.heap.size + 1) l1).trans Q1.out)
  obtain ⟨p0, p1, p2, p3, hlp⟩ := four_row ((hb011.block (w.heap.size + 1 + 1) l2).trans Q2.out)
  clear fs0 fs1 fs2
  have hbf11 : Below w.heap.size w w11 := hbW0.trans (hb011.mono hzW0)
  clear hbf9
  go_wp2_with fail
  refine (RNE.out _).mono ?_
  rintro _ w12 ⟨rv, rfl, hrv, hb12⟩
  obtain ⟨ro, rn, rc, so, sn, sc, rfl, _, _⟩ := hrv.shape
  have HRV := hid hrv
  clear hrv
  have RX12 := hid ((hb12.block w4.heap.size (Array.getElem?_eq_some_iff.1 RX11.out).1).trans RX11.out)
  have hbf12 : Below w.heap.size w w12 := hbf11.trans (hb12.mono hbf11.size)
  clear m0 m1 m2 m3 m4 m5 m6 m7 m8 m9 m10 m11 ml s0 s1 s2 hls p0 p1 p2 p3 hlp n0 n1 hln
  go_wp2_with fail
  refine (RFR.out _ _ HRV.out).mono ?_
  rintro _ w13 ⟨rfl, hb13⟩
  have hbf13 : Below w.heap.size w w13 := hbf12.trans (hb13.mono hbf12.size)
  obtain ⟨n0, n1, fn0, fn1, hln⟩ := two_cells ((hb13.block w4.heap.size (Array.getElem?_eq_some_iff.1 RX12.out).1).trans RX12.out)
  have hln' : w4.heap.size < w13.heap.size + 1 := Nat.lt_succ_of_lt hln
  clear fn0 fn1 hb12 hb13
  go_wp2_with fail
  go_ret
  exact ⟨rfl, by (repeat (with_reducible first | exact Below.refl _ _ | assumption | refine Below.drewN _ ?_ | refine Below.drew ?_ | refine Below_alloc ?_ _ | refine Below.alloc ?_ (by first | (simp; done) | (simp; omega) | omega) _ | refine Below.setCell ?_ (by first | (simp; done) | (simp; omega) | omega) _ | refine Below_call ?_ (by assumption) | refine Below.trans ?_ (by assumption)))⟩

set_option maxRecDepth 100000 in
set_option maxHeartbeats 16000000 in
theorem law_Reached_C10 (px py pz tm tk lo hi li ea la no mi sx sy sz qx qy qz t EM XN XD RN RD C FV : Int) (q1 : (C == 0) = false) (q2 : (C != 0) = true) (hXN : XN = 0) (hXD : XD = 0) (w : World)
    (HC : Hid (∀ W, Calls Try.prog 14 #[.agg #[.int .i64 px, .int .i64 py, .int .i64 pz, .int .i64 tm, .int .i64 tk, .int .i64 lo, .int .i64 hi, .int .i64 li, .int .i64 ea, .int .i64 la, .int .i64 no, .int .i64 mi]] W fun e w' => e = .returned (.int .i64 EM) ∧ Below W.heap.size W w'))
    (RM : Hid (∀ W, Calls Try.prog 18 #[.agg #[.int .i64 px, .int .i64 py, .int .i64 pz, .int .i64 tm, .int .i64 tk, .int .i64 lo, .int .i64 hi, .int .i64 li, .int .i64 ea, .int .i64 la, .int .i64 no, .int .i64 mi]] W fun e w' => e = .returned (.int .i64 EM) ∧ Below W.heap.size W w'))
    (HR : Hid (∀ W, Calls Try.prog 15 #[.agg #[.int .i64 px, .int .i64 py, .int .i64 pz, .int .i64 tm, .int .i64 tk, .int .i64 lo, .int .i64 hi, .int .i64 li, .int .i64 ea, .int .i64 la, .int .i64 no, .int .i64 mi], .agg #[.int .i64 sx, .int .i64 sy, .int .i64 sz], .agg #[.int .i64 qx, .int .i64 qy, .int .i64 qz, .int .i64 t]] W fun e w' => e = .returned (.tuple #[.bool false, .int .i64 C]) ∧ Below W.heap.size W w'))
    (HF : Hid (∀ W, Calls Try.prog 16 #[.agg #[.int .i64 px, .int .i64 py, .int .i64 pz, .int .i64 tm, .int .i64 tk, .int .i64 lo, .int .i64 hi, .int .i64 li, .int .i64 ea, .int .i64 la, .int .i64 no, .int .i64 mi], .agg #[.int .i64 sx, .int .i64 sy, .int .i64 sz], .agg #[.int .i64 qx, .int .i64 qy, .int .i64 qz]] W fun e w' => e = .returned (.tuple #[.int .i64 FV, .int .i64 0]) ∧ Below W.heap.size W w'))
    (HN : Hid (∀ W, Calls Try.prog 17 #[.agg #[.int .i64 px, .int .i64 py, .int .i64 pz, .int .i64 tm, .int .i64 tk, .int .i64 lo, .int .i64 hi, .int .i64 li, .int .i64 ea, .int .i64 la, .int .i64 no, .int .i64 mi], .agg #[.int .i64 sx, .int .i64 sy, .int .i64 sz], .agg #[.int .i64 qx, .int .i64 qy, .int .i64 qz]] W fun e w' => e = .returned (.tuple #[.agg #[.int .i64 XN, .int .i64 XD], .int .i64 8]) ∧ Below W.heap.size W w'))
    (RB : Hid (∀ W, Calls Try.prog 19 #[.agg #[.int .i64 px, .int .i64 py, .int .i64 pz, .int .i64 tm, .int .i64 tk, .int .i64 lo, .int .i64 hi, .int .i64 li, .int .i64 ea, .int .i64 la, .int .i64 no, .int .i64 mi], .agg #[.int .i64 sx, .int .i64 sy, .int .i64 sz]] W fun e w' => e = .returned (.int .i64 0) ∧ Below W.heap.size W w'))
    (RMo : Hid (∀ W, Calls Try.prog 20 #[.agg #[.int .i64 qx, .int .i64 qy, .int .i64 qz, .int .i64 t]] W fun e w' => e = .returned (.int .i64 C) ∧ Below W.heap.size W w'))
    (RP : Hid (∀ W, Calls Try.prog 21 #[.agg #[.int .i64 qx, .int .i64 qy, .int .i64 qz]] W fun e w' => e = .returned (.int .i64 0) ∧ Below W.heap.size W w'))
    (RF : Hid (∀ W, Calls Try.prog 23 #[.agg #[.int .i64 px, .int .i64 py, .int .i64 pz, .int .i64 tm, .int .i64 tk, .int .i64 lo, .int .i64 hi, .int .i64 li, .int .i64 ea, .int .i64 la, .int .i64 no, .int .i64 mi], .agg #[.int .i64 sx, .int .i64 sy, .int .i64 sz], .agg #[.int .i64 qx, .int .i64 qy, .int .i64 qz]] W fun e w' => e = .returned (.tuple #[.int .i64 FV, .bool true]) ∧ Below W.heap.size W w'))
    (RNE : Hid (∀ W, Calls Try.prog 25 #[.agg #[.int .i64 px, .int .i64 py, .int .i64 pz, .int .i64 tm, .int .i64 tk, .int .i64 lo, .int .i64 hi, .int .i64 li, .int .i64 ea, .int .i64 la, .int .i64 no, .int .i64 mi], .agg #[.int .i64 sx, .int .i64 sy, .int .i64 sz], .agg #[.int .i64 qx, .int .i64 qy, .int .i64 qz]] W (RetRat W RN RD (fun _ => True))))
    (RFR : Hid (∀ W v, RatAt W v RN RD (fun _ => True) → Calls Try.prog 24 #[v] W fun e w' => e = .returned (.tuple #[.agg #[.int .i64 0, .int .i64 0], .bool false]) ∧ Below W.heap.size W w'))
    : Calls Try.prog 3 #[.agg #[.int .i64 px, .int .i64 py, .int .i64 pz, .int .i64 tm, .int .i64 tk, .int .i64 lo, .int .i64 hi, .int .i64 li, .int .i64 ea, .int .i64 la, .int .i64 no, .int .i64 mi], .agg #[.int .i64 sx, .int .i64 sy, .int .i64 sz], .agg #[.int .i64 qx, .int .i64 qy, .int .i64 qz, .int .i64 t]] w fun e w' => e = .returned (.bool true) ∧ Below w.heap.size w w' := by
  have HA := hid law_awake5
  obtain ⟨W0, hW0⟩ : ∃ W0, W0 = ((w.alloc (.cells #[.int .i64 px, .int .i64 py, .int .i64 pz, .int .i64 tm, .int .i64 tk, .int .i64 lo, .int .i64 hi, .int .i64 li, .int .i64 ea, .int .i64 la, .int .i64 no, .int .i64 mi] 26)).alloc (.cells #[.int .i64 sx, .int .i64 sy, .int .i64 sz] 22)).alloc (.cells #[.int .i64 qx, .int .i64 qy, .int .i64 qz, .int .i64 t] 28) := ⟨_, rfl⟩
  have hbW0 : Below w.heap.size w W0 := by rw [hW0]; (repeat (with_reducible first | exact Below.refl _ _ | assumption | refine Below.drewN _ ?_ | refine Below.drew ?_ | refine Below_alloc ?_ _ | refine Below.alloc ?_ (by first | (simp; done) | (simp; omega) | omega) _ | refine Below.setCell ?_ (by first | (simp; done) | (simp; omega) | omega) _ | refine Below_call ?_ (by assumption) | refine Below.trans ?_ (by assumption)))
  obtain ⟨q0, q1, q2⟩ := al3 w _ _ _ _ _ _ W0 hW0
  have l0 := (Array.getElem?_eq_some_iff.1 q0).1
  have l1 := (Array.getElem?_eq_some_iff.1 q1).1
  have l2 := (Array.getElem?_eq_some_iff.1 q2).1
  have Q0 := hid q0
  have Q1 := hid q1
  have Q2 := hid q2
  have hzW0 := hbW0.size
  clear q0 q1 q2
  subst hXN
  subst hXD
  go_enter Try.func3, Try.ntmps3
  go_wp2_with fail
  rw [← hW0]
  refine (HA.out _).mono ?_
  rintro _ w1 ⟨rfl, hb1⟩
  clear hW0
  have hb01 : Below W0.heap.size W0 w1 := hb1
  obtain ⟨m0, m1, m2, m3, m4, m5, m6, m7, m8, m9, m10, m11, ml⟩ := tw_cells ((hb01.block w.heap.size l0).trans Q0.out)
  obtain ⟨s0, s1, s2, fs0, fs1, fs2, hls⟩ := three_cells ((hb01.block (w.heap.size + 1) l1).trans Q1.out)
  obtain ⟨p0, p1, p2, p3, hlp⟩ := four_row ((hb01.block (w.heap.size + 1 + 1) l2).trans Q2.out)
  clear fs0 fs1 fs2
  have hbf1 : Below w.heap.size w w1 := hbW0.trans (hb01.mono hzW0)
  go_wp2_with fail
  refine (HC.out _).mono ?_
  rintro _ w2 ⟨rfl, hb2⟩
  have hb02 : Below W0.heap.size W0 w2 := hb01.trans (hb2.mono hb01.size)
  clear m0 m1 m2 m3 m4 m5 m6 m7 m8 m9 m10 m11 ml s0 s1 s2 hls p0 p1 p2 p3 hlp
  obtain ⟨m0, m1, m2, m3, m4, m5, m6, m7, m8, m9, m10, m11, ml⟩ := tw_cells ((hb02.block w.heap.size l0).trans Q0.out)
  obtain ⟨s0, s1, s2, fs0, fs1, fs2, hls⟩ := three_cells ((hb02.block (w.heap.size + 1) l1).trans Q1.out)
  obtain ⟨p0, p1, p2, p3, hlp⟩ := four_row ((hb02.block (w.heap.size + 1 + 1) l2).trans Q2.out)
  clear fs0 fs1 fs2
  have hbf2 : Below w.heap.size w w2 := hbW0.trans (hb02.mono hzW0)
  clear hbf1
  go_wp2_with fail
  refine (HR.out _).mono ?_
  rintro _ w3 ⟨rfl, hb3⟩
  have hb03 : Below W0.heap.size W0 w3 := hb02.trans (hb3.mono hb02.size)
  clear m0 m1 m2 m3 m4 m5 m6 m7 m8 m9 m10 m11 ml s0 s1 s2 hls p0 p1 p2 p3 hlp
  obtain ⟨m0, m1, m2, m3, m4, m5, m6, m7, m8, m9, m10, m11, ml⟩ := tw_cells ((hb03.block w.heap.size l0).trans Q0.out)
  obtain ⟨s0, s1, s2, fs0, fs1, fs2, hls⟩ := three_cells ((hb03.block (w.heap.size + 1) l1).trans Q1.out)
  obtain ⟨p0, p1, p2, p3, hlp⟩ := four_row ((hb03.block (w.heap.size + 1 + 1) l2).trans Q2.out)
  clear fs0 fs1 fs2
  have hbf3 : Below w.heap.size w w3 := hbW0.trans (hb03.mono hzW0)
  clear hbf2
  go_wp2_with fail
  refine (HF.out _).mono ?_
  rintro _ w5 ⟨rfl, hb5⟩
  have hb05 : Below W0.heap.size W0 w5 := hb03.trans (hb5.mono hb03.size)
  clear m0 m1 m2 m3 m4 m5 m6 m7 m8 m9 m10 m11 ml s0 s1 s2 hls p0 p1 p2 p3 hlp
  obtain ⟨m0, m1, m2, m3, m4, m5, m6, m7, m8, m9, m10, m11, ml⟩ := tw_cells ((hb05.block w.heap.size l0).trans Q0.out)
  obtain ⟨s0, s1, s2, fs0, fs1, fs2, hls⟩ := three_cells ((hb05.block (w.heap.size + 1) l1).trans Q1.out)
  obtain ⟨p0, p1, p2, p3, hlp⟩ := four_row ((hb05.block (w.heap.size + 1 + 1) l2).trans Q2.out)
  clear fs0 fs1 fs2
  have hbf5 : Below w.heap.size w w5 := hbW0.trans (hb05.mono hzW0)
  clear hbf3
  go_wp2_with fail
  refine (HN.out _).mono ?_
  rintro _ w4 ⟨rfl, hb4⟩
  have hb04 : Below W0.heap.size W0 w4 := hb05.trans (hb4.mono hb05.size)
  clear m0 m1 m2 m3 m4 m5 m6 m7 m8 m9 m10 m11 ml s0 s1 s2 hls p0 p1 p2 p3 hlp
  obtain ⟨m0, m1, m2, m3, m4, m5, m6, m7, m8, m9, m10, m11, ml⟩ := tw_cells ((hb04.block w.heap.size l0).trans Q0.out)
  obtain ⟨s0, s1, s2, fs0, fs1, fs2, hls⟩ := three_cells ((hb04.block (w.heap.size + 1) l1).trans Q1.out)
  obtain ⟨p0, p1, p2, p3, hlp⟩ := four_row ((hb04.block (w.heap.size + 1 + 1) l2).trans Q2.out)
  clear fs0 fs1 fs2
  have hbf4 : Below w.heap.size w w4 := hbW0.trans (hb04.mono hzW0)
  clear hbf5
  obtain ⟨X, hX⟩ : ∃ X, X = w4.alloc (.cells #[.int .i64 0, .int .i64 0] 37) := ⟨_, rfl⟩
  have hbX : Below w4.heap.size w4 X := by rw [hX]; (repeat (with_reducible first | exact Below.refl _ _ | assumption | refine Below.drewN _ ?_ | refine Below.drew ?_ | refine Below_alloc ?_ _ | refine Below.alloc ?_ (by first | (simp; done) | (simp; omega) | omega) _ | refine Below.setCell ?_ (by first | (simp; done) | (simp; omega) | omega) _ | refine Below_call ?_ (by assumption) | refine Below.trans ?_ (by assumption)))
  have RX := hid (show X.heap[w4.heap.size]? = some (.cells #[.int .i64 0, .int .i64 0] 37 (0, 0)) by rw [hX]; exact heap_alloc_new w4 _)
  have hb0X : Below W0.heap.size W0 X := hb04.trans (hbX.mono hb04.size)
  have hbfX : Below w.heap.size w X := hbW0.trans (hb0X.mono hzW0)
  have l0' : w.heap.size < w4.heap.size + 1 := Nat.lt_succ_of_lt ml
  go_wp2_with fail
  rw [← hX]
  clear hX l0'
  refine (RM.out _).mono ?_
  rintro _ w6 ⟨rfl, hb6⟩
  have hb06 : Below W0.heap.size W0 w6 := hb0X.trans (hb6.mono hb0X.size)
  clear m0 m1 m2 m3 m4 m5 m6 m7 m8 m9 m10 m11 ml s0 s1 s2 hls p0 p1 p2 p3 hlp
  have RX6 := hid ((hb6.block w4.heap.size (Array.getElem?_eq_some_iff.1 RX.out).1).trans RX.out)
  obtain ⟨n0, n1, fn0, fn1, hln⟩ := two_cells RX6.out
  clear fn0 fn1
  obtain ⟨m0, m1, m2, m3, m4, m5, m6, m7, m8, m9, m10, m11, ml⟩ := tw_cells ((hb06.block w.heap.size l0).trans Q0.out)
  obtain ⟨s0, s1, s2, fs0, fs1, fs2, hls⟩ := three_cells ((hb06.block (w.heap.size + 1) l1).trans Q1.out)
  obtain ⟨p0, p1, p2, p3, hlp⟩ := four_row ((hb06.block (w.heap.size + 1 + 1) l2).trans Q2.out)
  clear fs0 fs1 fs2
  have hbf6 : Below w.heap.size w w6 := hbW0.trans (hb06.mono hzW0)
  clear hbfX hbf4
  go_wp2_with fail
  refine (RB.out _).mono ?_
  rintro _ w7 ⟨rfl, hb7⟩
  have hb07 : Below W0.heap.size W0 w7 := hb06.trans (hb7.mono hb06.size)
  clear m0 m1 m2 m3 m4 m5 m6 m7 m8 m9 m10 m11 ml s0 s1 s2 hls p0 p1 p2 p3 hlp
  have RX7 := hid ((hb7.block w4.heap.size (Array.getElem?_eq_some_iff.1 RX6.out).1).trans RX6.out)
  clear n0 n1 hln
  obtain ⟨n0, n1, fn0, fn1, hln⟩ := two_cells RX7.out
  clear fn0 fn1
  obtain ⟨m0, m1, m2, m3, m4, m5, m6, m7, m8, m9, m10, m11, ml⟩ := tw_cells ((hb07.block w.heap.size l0).trans Q0.out)
  obtain ⟨s0, s1, s2, fs0, fs1, fs2, hls⟩ := three_cells ((hb07.block (w.heap.size + 1) l1).trans Q1.out)
  obtain ⟨p0, p1, p2, p3, hlp⟩ := four_row ((hb07.block (w.heap.size + 1 + 1) l2).trans Q2.out)
  clear fs0 fs1 fs2
  have hbf7 : Below w.heap.size w w7 := hbW0.trans (hb07.mono hzW0)
  clear hbf6
  go_wp2_with fail
  refine wp_mixC (fun wc => Below (w7.heap.size) w7 wc) 6 [.q [0, 2, 3], .f [1, 4], .q [5]] [.q [6]] (by kernel_rfl) (by kernel_rfl) ((Below.refl _ _).drew) ?_
  intro Q' hQ'
  (rw [wpMixC]; simp only [pick, List.drop_succ_cons, List.drop_zero, List.head?_cons, Option.toList_some, List.cons_append, List.nil_append])
  (repeat (first | go_big_quiet_skip | (go_big_quiet_want; refine quiet_simple rfl ?_; go_big_quiet_op; go_big_quiet_on) | (go_big_quiet_want; refine quiet_agg3B (ty := 22) rfl rfl (by kernel_rfl) (by assumption) (by assumption) (by assumption) (by first | omega | (simp; omega)) ?_; simp only [Act.put, List.setIfInBounds_toArray, List.set_cons_succ, List.set_cons_zero]; go_big_quiet_on) | (go_big_quiet_want; refine quiet_agg4B (ty := 28) rfl rfl (by kernel_rfl) (by assumption) (by assumption) (by assumption) (by assumption) (by first | omega | (simp; omega)) ?_; simp only [Act.put, List.setIfInBounds_toArray, List.set_cons_succ, List.set_cons_zero]; go_big_quiet_on)))
  (try refine wpQuiet_nil ?_)
  (rw [wpMixC]; simp only [pick, List.drop_succ_cons, List.drop_zero, List.head?_cons, Option.toList_some, List.cons_append, List.nil_append])
  (rw [wpSteps]; go_wp2_with ((go_at_call 20; ((with_reducible refine (RMo.out _).mono ?_); rintro _ w8 ⟨rfl, hb8⟩))); rw [contF]; refine ⟨?_, ?_⟩; (next => (repeat (with_reducible first | exact Below.refl _ _ | assumption | refine Below.drewN _ ?_ | refine Below.drew ?_ | refine Below_alloc ?_ _ | refine Below.alloc ?_ (by first | (simp; done) | (simp; omega) | omega) _ | refine Below.setCell ?_ (by first | (simp; done) | (simp; omega) | omega) _ | refine Below_call ?_ (by assumption) | refine Below.trans ?_ (by assumption)))))
  (rw [wpSteps]; go_wp2_with ((go_at_call 21; ((with_reducible refine (RP.out _).mono ?_); rintro _ w9 ⟨rfl, hb9⟩))); rw [contF]; refine ⟨?_, ?_⟩; (next => (repeat (with_reducible first | exact Below.refl _ _ | assumption | refine Below.drewN _ ?_ | refine Below.drew ?_ | refine Below_alloc ?_ _ | refine Below.alloc ?_ (by first | (simp; done) | (simp; omega) | omega) _ | refine Below.setCell ?_ (by first | (simp; done) | (simp; omega) | omega) _ | refine Below_call ?_ (by assumption) | refine Below.trans ?_ (by assumption)))))
  (rw [wpSteps])
  (rw [wpMixC]; simp only [pick, List.drop_succ_cons, List.drop_zero, List.head?_cons, Option.toList_some, List.cons_append, List.nil_append])
  (repeat (first | go_big_quiet_skip | (go_big_quiet_want; refine quiet_simple rfl ?_; go_big_quiet_op; go_big_quiet_on) | (go_big_quiet_want; refine quiet_agg3B (ty := 22) rfl rfl (by kernel_rfl) (by assumption) (by assumption) (by assumption) (by first | omega | (simp; omega)) ?_; simp only [Act.put, List.setIfInBounds_toArray, List.set_cons_succ, List.set_cons_zero]; go_big_quiet_on) | (go_big_quiet_want; refine quiet_agg4B (ty := 28) rfl rfl (by kernel_rfl) (by assumption) (by assumption) (by assumption) (by assumption) (by first | omega | (simp; omega)) ?_; simp only [Act.put, List.setIfInBounds_toArray, List.set_cons_succ, List.set_cons_zero]; go_big_quiet_on)))
  (try refine wpQuiet_nil ?_)
  (rw [wpMixC])
  (rw [wpMix]; simp only [pick, List.drop_succ_cons, List.drop_zero, List.head?_cons, Option.toList_some, List.cons_append, List.nil_append])
  (repeat (first | (go_big_quiet_step (fail)) | (quiet_step (fail))))
  (try refine wpQuiet_nil ?_)
  (rw [wpMix])
  (refine hQ' _ _ ?_)
  have hb79 : Below w7.heap.size w7 w9 := by (repeat (with_reducible first | exact Below.refl _ _ | assumption | refine Below.drewN _ ?_ | refine Below.drew ?_ | refine Below_alloc ?_ _ | refine Below.alloc ?_ (by first | (simp; done) | (simp; omega) | omega) _ | refine Below.setCell ?_ (by first | (simp; done) | (simp; omega) | omega) _ | refine Below_call ?_ (by assumption) | refine Below.trans ?_ (by assumption)))
  have hb09 : Below W0.heap.size W0 w9 := hb07.trans (hb79.mono hb07.size)
  clear m0 m1 m2 m3 m4 m5 m6 m7 m8 m9 m10 m11 ml s0 s1 s2 hls p0 p1 p2 p3 hlp
  have RX9 := hid ((hb79.block w4.heap.size (Array.getElem?_eq_some_iff.1 RX7.out).1).trans RX7.out)
  clear n0 n1 hln
  obtain ⟨n0, n1, fn0, fn1, hln⟩ := two_cells RX9.out
  clear fn0 fn1 hb8 hb9
  obtain ⟨m0, m1, m2, m3, m4, m5, m6, m7, m8, m9, m10, m11, ml⟩ := tw_cells ((hb09.block w.heap.size l0).trans Q0.out)
  obtain ⟨s0, s1, s2, fs0, fs1, fs2, hls⟩ := three_cells ((hb09.block (w.heap.size + 1) l1).trans Q1.out)
  obtain ⟨p0, p1, p2, p3, hlp⟩ := four_row ((hb09.block (w.heap.size + 1 + 1) l2).trans Q2.out)
  clear fs0 fs1 fs2
  have hbf9 : Below w.heap.size w w9 := hbW0.trans (hb09.mono hzW0)
  clear hbf7
  go_wp2_with fail
  refine (RF.out _).mono ?_
  rintro _ w11 ⟨rfl, hb11⟩
  have hb011 : Below W0.heap.size W0 w11 := hb09.trans (hb11.mono hb09.size)
  clear m0 m1 m2 m3 m4 m5 m6 m7 m8 m9 m10 m11 ml s0 s1 s2 hls p0 p1 p2 p3 hlp
  have RX11 := hid ((hb11.block w4.heap.size (Array.getElem?_eq_some_iff.1 RX9.out).1).trans RX9.out)
  clear n0 n1 hln
  obtain ⟨n0, n1, fn0, fn1, hln⟩ := two_cells RX11.out
  clear fn0 fn1
  obtain ⟨m0, m1, m2, m3, m4, m5, m6, m7, m8, m9, m10, m11, ml⟩ := tw_cells ((hb011.block w.heap.size l0).trans Q0.out)
  obtain ⟨s0, s1, s2, fs0, fs1, fs2, hls⟩ := three_cells ((hb011.block (w.heap.size + 1) l1).trans Q1.out)
  obtain ⟨p0, p1, p2, p3, hlp⟩ := four_row ((hb011.block (w.heap.size + 1 + 1) l2).trans Q2.out)
  clear fs0 fs1 fs2
  have hbf11 : Below w.heap.size w w11 := hbW0.trans (hb011.mono hzW0)
  clear hbf9
  go_wp2_with fail
  refine (RNE.out _).mono ?_
  rintro _ w12 ⟨rv, rfl, hrv, hb12⟩
  obtain ⟨ro, rn, rc, so, sn, sc, rfl, _, _⟩ := hrv.shape
  have HRV := hid hrv
  clear hrv
  have RX12 := hid ((hb12.block w4.heap.size (Array.getElem?_eq_some_iff.1 RX11.out).1).trans RX11.out)
  have hbf12 : Below w.heap.size w w12 := hbf11.trans (hb12.mono hbf11.size)
  clear m0 m1 m2 m3 m4 m5 m6 m7 m8 m9 m10 m11 ml s0 s1 s2 hls p0 p1 p2 p3 hlp n0 n1 hln
  go_wp2_with fail
  refine (RFR.out _ _ HRV.out).mono ?_
  rintro _ w13 ⟨rfl, hb13⟩
  have hbf13 : Below w.heap.size w w13 := hbf12.trans (hb13.mono hbf12.size)
  obtain ⟨n0, n1, fn0, fn1, hln⟩ := two_cells ((hb13.block w4.heap.size (Array.getElem?_eq_some_iff.1 RX12.out).1).trans RX12.out)
  have hln' : w4.heap.size < w13.heap.size + 1 := Nat.lt_succ_of_lt hln
  clear fn0 fn1 hb12 hb13
  go_wp2_with fail
  go_ret
  exact ⟨rfl, by (repeat (with_reducible first | exact Below.refl _ _ | assumption | refine Below.drewN _ ?_ | refine Below.drew ?_ | refine Below_alloc ?_ _ | refine Below.alloc ?_ (by first | (simp; done) | (simp; omega) | omega) _ | refine Below.setCell ?_ (by first | (simp; done) | (simp; omega) | omega) _ | refine Below_call ?_ (by assumption) | refine Below.trans ?_ (by assumption)))⟩

set_option maxRecDepth 100000 in
set_option maxHeartbeats 16000000 in
theorem law_Reached_C01 (px py pz tm tk lo hi li ea la no mi sx sy sz qx qy qz t EM XN XD RN RD C : Int) (q1 : (C == 0) = false) (q2 : (C != 0) = true) (w : World)
    (HC : Hid (∀ W, Calls Try.prog 14 #[.agg #[.int .i64 px, .int .i64 py, .int .i64 pz, .int .i64 tm, .int .i64 tk, .int .i64 lo, .int .i64 hi, .int .i64 li, .int .i64 ea, .int .i64 la, .int .i64 no, .int .i64 mi]] W fun e w' => e = .returned (.int .i64 EM) ∧ Below W.heap.size W w'))
    (RM : Hid (∀ W, Calls Try.prog 18 #[.agg #[.int .i64 px, .int .i64 py, .int .i64 pz, .int .i64 tm, .int .i64 tk, .int .i64 lo, .int .i64 hi, .int .i64 li, .int .i64 ea, .int .i64 la, .int .i64 no, .int .i64 mi]] W fun e w' => e = .returned (.int .i64 EM) ∧ Below W.heap.size W w'))
    (HR : Hid (∀ W, Calls Try.prog 15 #[.agg #[.int .i64 px, .int .i64 py, .int .i64 pz, .int .i64 tm, .int .i64 tk, .int .i64 lo, .int .i64 hi, .int .i64 li, .int .i64 ea, .int .i64 la, .int .i64 no, .int .i64 mi], .agg #[.int .i64 sx, .int .i64 sy, .int .i64 sz], .agg #[.int .i64 qx, .int .i64 qy, .int .i64 qz, .int .i64 t]] W fun e w' => e = .returned (.tuple #[.bool false, .int .i64 C]) ∧ Below W.heap.size W w'))
    (HF : Hid (∀ W, Calls Try.prog 16 #[.agg #[.int .i64 px, .int .i64 py, .int .i64 pz, .int .i64 tm, .int .i64 tk, .int .i64 lo, .int .i64 hi, .int .i64 li, .int .i64 ea, .int .i64 la, .int .i64 no, .int .i64 mi], .agg #[.int .i64 sx, .int .i64 sy, .int .i64 sz], .agg #[.int .i64 qx, .int .i64 qy, .int .i64 qz]] W fun e w' => e = .returned (.tuple #[.int .i64 0, .int .i64 8]) ∧ Below W.heap.size W w'))
    (HN : Hid (∀ W, Calls Try.prog 17 #[.agg #[.int .i64 px, .int .i64 py, .int .i64 pz, .int .i64 tm, .int .i64 tk, .int .i64 lo, .int .i64 hi, .int .i64 li, .int .i64 ea, .int .i64 la, .int .i64 no, .int .i64 mi], .agg #[.int .i64 sx, .int .i64 sy, .int .i64 sz], .agg #[.int .i64 qx, .int .i64 qy, .int .i64 qz]] W fun e w' => e = .returned (.tuple #[.agg #[.int .i64 XN, .int .i64 XD], .int .i64 0]) ∧ Below W.heap.size W w'))
    (RB : Hid (∀ W, Calls Try.prog 19 #[.agg #[.int .i64 px, .int .i64 py, .int .i64 pz, .int .i64 tm, .int .i64 tk, .int .i64 lo, .int .i64 hi, .int .i64 li, .int .i64 ea, .int .i64 la, .int .i64 no, .int .i64 mi], .agg #[.int .i64 sx, .int .i64 sy, .int .i64 sz]] W fun e w' => e = .returned (.int .i64 0) ∧ Below W.heap.size W w'))
    (RMo : Hid (∀ W, Calls Try.prog 20 #[.agg #[.int .i64 qx, .int .i64 qy, .int .i64 qz, .int .i64 t]] W fun e w' => e = .returned (.int .i64 C) ∧ Below W.heap.size W w'))
    (RP : Hid (∀ W, Calls Try.prog 21 #[.agg #[.int .i64 qx, .int .i64 qy, .int .i64 qz]] W fun e w' => e = .returned (.int .i64 0) ∧ Below W.heap.size W w'))
    (RF : Hid (∀ W, Calls Try.prog 23 #[.agg #[.int .i64 px, .int .i64 py, .int .i64 pz, .int .i64 tm, .int .i64 tk, .int .i64 lo, .int .i64 hi, .int .i64 li, .int .i64 ea, .int .i64 la, .int .i64 no, .int .i64 mi], .agg #[.int .i64 sx, .int .i64 sy, .int .i64 sz], .agg #[.int .i64 qx, .int .i64 qy, .int .i64 qz]] W fun e w' => e = .returned (.tuple #[.int .i64 0, .bool false]) ∧ Below W.heap.size W w'))
    (RNE : Hid (∀ W, Calls Try.prog 25 #[.agg #[.int .i64 px, .int .i64 py, .int .i64 pz, .int .i64 tm, .int .i64 tk, .int .i64 lo, .int .i64 hi, .int .i64 li, .int .i64 ea, .int .i64 la, .int .i64 no, .int .i64 mi], .agg #[.int .i64 sx, .int .i64 sy, .int .i64 sz], .agg #[.int .i64 qx, .int .i64 qy, .int .i64 qz]] W (RetRat W RN RD (fun _ => True))))
    (RFR : Hid (∀ W v, RatAt W v RN RD (fun _ => True) → Calls Try.prog 24 #[v] W fun e w' => e = .returned (.tuple #[.agg #[.int .i64 XN, .int .i64 XD], .bool true]) ∧ Below W.heap.size W w'))
    : Calls Try.prog 3 #[.agg #[.int .i64 px, .int .i64 py, .int .i64 pz, .int .i64 tm, .int .i64 tk, .int .i64 lo, .int .i64 hi, .int .i64 li, .int .i64 ea, .int .i64 la, .int .i64 no, .int .i64 mi], .agg #[.int .i64 sx, .int .i64 sy, .int .i64 sz], .agg #[.int .i64 qx, .int .i64 qy, .int .i64 qz, .int .i64 t]] w fun e w' => e = .returned (.bool true) ∧ Below w.heap.size w w' := by
  have HA := hid law_awake5
  obtain ⟨W0, hW0⟩ : ∃ W0, W0 = ((w.alloc (.cells #[.int .i64 px, .int .i64 py, .int .i64 pz, .int .i64 tm, .int .i64 tk, .int .i64 lo, .int .i64 hi, .int .i64 li, .int .i64 ea, .int .i64 la, .int .i64 no, .int .i64 mi] 26)).alloc (.cells #[.int .i64 sx, .int .i64 sy, .int .i64 sz] 22)).alloc (.cells #[.int .i64 qx, .int .i64 qy, .int .i64 qz, .int .i64 t] 28) := ⟨_, rfl⟩
  have hbW0 : Below w.heap.size w W0 := by rw [hW0]; (repeat (with_reducible first | exact Below.refl _ _ | assumption | refine Below.drewN _ ?_ | refine Below.drew ?_ | refine Below_alloc ?_ _ | refine Below.alloc ?_ (by first | (simp; done) | (simp; omega) | omega) _ | refine Below.setCell ?_ (by first | (simp; done) | (simp; omega) | omega) _ | refine Below_call ?_ (by assumption) | refine Below.trans ?_ (by assumption)))
  obtain ⟨q0, q1, q2⟩ := al3 w _ _ _ _ _ _ W0 hW0
  have l0 := (Array.getElem?_eq_some_iff.1 q0).1
  have l1 := (Array.getElem?_eq_some_iff.1 q1).1
  have l2 := (Array.getElem?_eq_some_iff.1 q2).1
  have Q0 := hid q0
  have Q1 := hid q1
  have Q2 := hid q2
  have hzW0 := hbW0.size
  clear q0 q1 q2
  go_enter Try.func3, Try.ntmps3
  go_wp2_with fail
  rw [← hW0]
  refine (HA.out _).mono ?_
  rintro _ w1 ⟨rfl, hb1⟩
  clear hW0
  have hb01 : Below W0.heap.size W0 w1 := hb1
  obtain ⟨m0, m1, m2, m3, m4, m5, m6, m7, m8, m9, m10, m11, ml⟩ := tw_cells ((hb01.block w.heap.size l0).trans Q0.out)
  obtain ⟨s0, s1, s2, fs0, fs1, fs2, hls⟩ := three_cells ((hb01.block (w.heap.size + 1) l1).trans Q1.out)
  obtain ⟨p0, p1, p2, p3, hlp⟩ := four_row ((hb01.block (w.heap.size + 1 + 1) l2).trans Q2.out)
  clear fs0 fs1 fs2
  have hbf1 : Below w.heap.size w w1 := hbW0.trans (hb01.mono hzW0)
  go_wp2_with fail
  refine (HC.out _).mono ?_
  rintro _ w2 ⟨rfl, hb2⟩
  have hb02 : Below W0.heap.size W0 w2 := hb01.trans (hb2.mono hb01.size)
  clear m0 m1 m2 m3 m4 m5 m6 m7 m8 m9 m10 m11 ml s0 s1 s2 hls p0 p1 p2 p3 hlp
  obtain ⟨m0, m1, m2, m3, m4, m5, m6, m7, m8, m9, m10, m11, ml⟩ := tw_cells ((hb02.block w.heap.size l0).trans Q0.out)
  obtain ⟨s0, s1, s2, fs0, fs1, fs2, hls⟩ := three_cells ((hb02.block (w.heap.size + 1) l1).trans Q1.out)
  obtain ⟨p0, p1, p2, p3, hlp⟩ := four_row ((hb02.block (w.heap.size + 1 + 1) l2).trans Q2.out)
  clear fs0 fs1 fs2
  have hbf2 : Below w.heap.size w w2 := hbW0.trans (hb02.mono hzW0)
  clear hbf1
  go_wp2_with fail
  refine (HR.out _).mono ?_
  rintro _ w3 ⟨rfl, hb3⟩
  have hb03 : Below W0.heap.size W0 w3 := hb02.trans (hb3.mono hb02.size)
  clear m0 m1 m2 m3 m4 m5 m6 m7 m8 m9 m10 m11 ml s0 s1 s2 hls p0 p1 p2 p3 hlp
  obtain ⟨m0, m1, m2, m3, m4, m5, m6, m7, m8, m9, m10, m11, ml⟩ := tw_cells ((hb03.block w.heap.size l0).trans Q0.out)
  obtain ⟨s0, s1, s2, fs0, fs1, fs2, hls⟩ := three_cells ((hb03.block (w.heap.size + 1) l1).trans Q1.out)
  obtain ⟨p0, p1, p2, p3, hlp⟩ := four_row ((hb03.block (w.heap.size + 1 + 1) l2).trans Q2.out)
  clear fs0 fs1 fs2
  have hbf3 : Below w.heap.size w w3 := hbW0.trans (hb03.mono hzW0)
  clear hbf2
  go_wp2_with fail
  refine (HF.out _).mono ?_
  rintro _ w5 ⟨rfl, hb5⟩
  have hb05 : Below W0.heap.size W0 w5 := hb03.trans (hb5.mono hb03.size)
  clear m0 m1 m2 m3 m4 m5 m6 m7 m8 m9 m10 m11 ml s0 s1 s2 hls p0 p1 p2 p3 hlp
  obtain ⟨m0, m1, m2, m3, m4, m5, m6, m7, m8, m9, m10, m11, ml⟩ := tw_cells ((hb05.block w.heap.size l0).trans Q0.out)
  obtain ⟨s0, s1, s2, fs0, fs1, fs2, hls⟩ := three_cells ((hb05.block (w.heap.size + 1) l1).trans Q1.out)
  obtain ⟨p0, p1, p2, p3, hlp⟩ := four_row ((hb05.block (w.heap.size + 1 + 1) l2).trans Q2.out)
  clear fs0 fs1 fs2
  have hbf5 : Below w.heap.size w w5 := hbW0.trans (hb05.mono hzW0)
  clear hbf3
  go_wp2_with fail
  refine (HN.out _).mono ?_
  rintro _ w4 ⟨rfl, hb4⟩
  have hb04 : Below W0.heap.size W0 w4 := hb05.trans (hb4.mono hb05.size)
  clear m0 m1 m2 m3 m4 m5 m6 m7 m8 m9 m10 m11 ml s0 s1 s2 hls p0 p1 p2 p3 hlp
  obtain ⟨m0, m1, m2, m3, m4, m5, m6, m7, m8, m9, m10, m11, ml⟩ := tw_cells ((hb04.block w.heap.size l0).trans Q0.out)
  obtain ⟨s0, s1, s2, fs0, fs1, fs2, hls⟩ := three_cells ((hb04.block (w.heap.size + 1) l1).trans Q1.out)
  obtain ⟨p0, p1, p2, p3, hlp⟩ := four_row ((hb04.block (w.heap.size + 1 + 1) l2).trans Q2.out)
  clear fs0 fs1 fs2
  have hbf4 : Below w.heap.size w w4 := hbW0.trans (hb04.mono hzW0)
  clear hbf5
  obtain ⟨X, hX⟩ : ∃ X, X = w4.alloc (.cells #[.int .i64 XN, .int .i64 XD] 37) := ⟨_, rfl⟩
  have hbX : Below w4.heap.size w4 X := by rw [hX]; (repeat (with_reducible first | exact Below.refl _ _ | assumption | refine Below.drewN _ ?_ | refine Below.drew ?_ | refine Below_alloc ?_ _ | refine Below.alloc ?_ (by first | (simp; done) | (simp; omega) | omega) _ | refine Below.setCell ?_ (by first | (simp; done) | (simp; omega) | omega) _ | refine Below_call ?_ (by assumption) | refine Below.trans ?_ (by assumption)))
  have RX := hid (show X.heap[w4.heap.size]? = some (.cells #[.int .i64 XN, .int .i64 XD] 37 (0, 0)) by rw [hX]; exact heap_alloc_new w4 _)
  have hb0X : Below W0.heap.size W0 X := hb04.trans (hbX.mono hb04.size)
  have hbfX : Below w.heap.size w X := hbW0.trans (hb0X.mono hzW0)
  have l0' : w.heap.size < w4.heap.size + 1 := Nat.lt_succ_of_lt ml
  go_wp2_with fail
  rw [← hX]
  clear hX l0'
  refine (RM.out _).mono ?_
  rintro _ w6 ⟨rfl, hb6⟩
  have hb06 : Below W0.heap.size W0 w6 := hb0X.trans (hb6.mono hb0X.size)
  clear m0 m1 m2 m3 m4 m5 m6 m7 m8 m9 m10 m11 ml s0 s1 s2 hls p0 p1 p2 p3 hlp
  have RX6 := hid ((hb6.block w4.heap.size (Array.getElem?_eq_some_iff.1 RX.out).1).trans RX.out)
  obtain ⟨n0, n1, fn0, fn1, hln⟩ := two_cells RX6.out
  clear fn0 fn1
  obtain ⟨m0, m1, m2, m3, m4, m5, m6, m7, m8, m9, m10, m11, ml⟩ := tw_cells ((hb06.block w.heap.size l0).trans Q0.out)
  obtain ⟨s0, s1, s2, fs0, fs1, fs2, hls⟩ := three_cells ((hb06.block (w.heap.size + 1) l1).trans Q1.out)
  obtain ⟨p0, p1, p2, p3, hlp⟩ := four_row ((hb06.block (w.heap.size + 1 + 1) l2).trans Q2.out)
  clear fs0 fs1 fs2
  have hbf6 : Below w.heap.size w w6 := hbW0.trans (hb06.mono hzW0)
  clear hbfX hbf4
  go_wp2_with fail
  refine (RB.out _).mono ?_
  rintro _ w7 ⟨rfl, hb7⟩
  have hb07 : Below W0.heap.size W0 w7 := hb06.trans (hb7.mono hb06.size)
  clear m0 m1 m2 m3 m4 m5 m6 m7 m8 m9 m10 m11 ml s0 s1 s2 hls p0 p1 p2 p3 hlp
  have RX7 := hid ((hb7.block w4.heap.size (Array.getElem?_eq_some_iff.1 RX6.out).1).trans RX6.out)
  clear n0 n1 hln
  obtain ⟨n0, n1, fn0, fn1, hln⟩ := two_cells RX7.out
  clear fn0 fn1
  obtain ⟨m0, m1, m2, m3, m4, m5, m6, m7, m8, m9, m10, m11, ml⟩ := tw_cells ((hb07.block w.heap.size l0).trans Q0.out)
  obtain ⟨s0, s1, s2, fs0, fs1, fs2, hls⟩ := three_cells ((hb07.block (w.heap.size + 1) l1).trans Q1.out)
  obtain ⟨p0, p1, p2, p3, hlp⟩ := four_row ((hb07.block (w.heap.size + 1 + 1) l2).trans Q2.out)
  clear fs0 fs1 fs2
  have hbf7 : Below w.heap.size w w7 := hbW0.trans (hb07.mono hzW0)
  clear hbf6
  go_wp2_with fail
  refine wp_mixC (fun wc => Below (w7.heap.size) w7 wc) 6 [.q [0, 2, 3], .f [1, 4], .q [5]] [.q [6]] (by kernel_rfl) (by kernel_rfl) ((Below.refl _ _).drew) ?_
  intro Q' hQ'
  (rw [wpMixC]; simp only [pick, List.drop_succ_cons, List.drop_zero, List.head?_cons, Option.toList_some, List.cons_append, List.nil_append])
  (repeat (first | go_big_quiet_skip | (go_big_quiet_want; refine quiet_simple rfl ?_; go_big_quiet_op; go_big_quiet_on) | (go_big_quiet_want; refine quiet_agg3B (ty := 22) rfl rfl (by kernel_rfl) (by assumption) (by assumption) (by assumption) (by first | omega | (simp; omega)) ?_; simp only [Act.put, List.setIfInBounds_toArray, List.set_cons_succ, List.set_cons_zero]; go_big_quiet_on) | (go_big_quiet_want; refine quiet_agg4B (ty := 28) rfl rfl (by kernel_rfl) (by assumption) (by assumption) (by assumption) (by assumption) (by first | omega | (simp; omega)) ?_; simp only [Act.put, List.setIfInBounds_toArray, List.set_cons_succ, List.set_cons_zero]; go_big_quiet_on)))
  (try refine wpQuiet_nil ?_)
  (rw [wpMixC]; simp only [pick, List.drop_succ_cons, List.drop_zero, List.head?_cons, Option.toList_some, List.cons_append, List.nil_append])
  (rw [wpSteps]; go_wp2_with ((go_at_call 20; ((with_reducible refine (RMo.out _).mono ?_); rintro _ w8 ⟨rfl, hb8⟩))); rw [contF]; refine ⟨?_, ?_⟩; (next => (repeat (with_reducible first | exact Below.refl _ _ | assumption | refine Below.drewN _ ?_ | refine Below.drew ?_ | refine Below_alloc ?_ _ | refine Below.alloc ?_ (by first | (simp; done) | (simp; omega) | omega) _ | refine Below.setCell ?_ (by first | (simp; done) | (simp; omega) | omega) _ | refine Below_call ?_ (by assumption) | refine Below.trans ?_ (by assumption)))))
  (rw [wpSteps]; go_wp2_with ((go_at_call 21; ((with_reducible refine (RP.out _).mono ?_); rintro _ w9 ⟨rfl, hb9⟩))); rw [contF]; refine ⟨?_, ?_⟩; (next => (repeat (with_reducible first | exact Below.refl _ _ | assumption | refine Below.drewN _ ?_ | refine Below.drew ?_ | refine Below_alloc ?_ _ | refine Below.alloc ?_ (by first | (simp; done) | (simp; omega) | omega) _ | refine Below.setCell ?_ (by first | (simp; done) | (simp; omega) | omega) _ | refine Below_call ?_ (by assumption) | refine Below.trans ?_ (by assumption)))))
  (rw [wpSteps])
  (rw [wpMixC]; simp only [pick, List.drop_succ_cons, List.drop_zero, List.head?_cons, Option.toList_some, List.cons_append, List.nil_append])
  (repeat (first | go_big_quiet_skip | (go_big_quiet_want; refine quiet_simple rfl ?_; go_big_quiet_op; go_big_quiet_on) | (go_big_quiet_want; refine quiet_agg3B (ty := 22) rfl rfl (by kernel_rfl) (by assumption) (by assumption) (by assumption) (by first | omega | (simp; omega)) ?_; simp only [Act.put, List.setIfInBounds_toArray, List.set_cons_succ, List.set_cons_zero]; go_big_quiet_on) | (go_big_quiet_want; refine quiet_agg4B (ty := 28) rfl rfl (by kernel_rfl) (by assumption) (by assumption) (by assumption) (by assumption) (by first | omega | (simp; omega)) ?_; simp only [Act.put, List.setIfInBounds_toArray, List.set_cons_succ, List.set_cons_zero]; go_big_quiet_on)))
  (try refine wpQuiet_nil ?_)
  (rw [wpMixC])
  (rw [wpMix]; simp only [pick, List.drop_succ_cons, List.drop_zero, List.head?_cons, Option.toList_some, List.cons_append, List.nil_append])
  (repeat (first | (go_big_quiet_step (fail)) | (quiet_step (fail))))
  (try refine wpQuiet_nil ?_)
  (rw [wpMix])
  (refine hQ' _ _ ?_)
  have hb79 : Below w7.heap.size w7 w9 := by (repeat (with_reducible first | exact Below.refl _ _ | assumption | refine Below.drewN _ ?_ | refine Below.drew ?_ | refine Below_alloc ?_ _ | refine Below.alloc ?_ (by first | (simp; done) | (simp; omega) | omega) _ | refine Below.setCell ?_ (by first | (simp; done) | (simp; omega) | omega) _ | refine Below_call ?_ (by assumption) | refine Below.trans ?_ (by assumption)))
  have hb09 : Below W0.heap.size W0 w9 := hb07.trans (hb79.mono hb07.size)
  clear m0 m1 m2 m3 m4 m5 m6 m7 m8 m9 m10 m11 ml s0 s1 s2 hls p0 p1 p2 p3 hlp
  have RX9 := hid ((hb79.block w4.heap.size (Array.getElem?_eq_some_iff.1 RX7.out).1).trans RX7.out)
  clear n0 n1 hln
  obtain ⟨n0, n1, fn0, fn1, hln⟩ := two_cells RX9.out
  clear fn0 fn1 hb8 hb9
  obtain ⟨m0, m1, m2, m3, m4, m5, m6, m7, m8, m9, m10, m11, ml⟩ := tw_cells ((hb09.block w.heap.size l0).trans Q0.out)
  obtain ⟨s0, s1, s2, fs0, fs1, fs2, hls⟩ := three_cells ((hb09.block (w.heap.size + 1) l1).trans Q1.out)
  obtain ⟨p0, p1, p2, p3, hlp⟩ := four_row ((hb09.block (w.heap.size + 1 + 1) l2).trans Q2.out)
  clear fs0 fs1 fs2
  have hbf9 : Below w.heap.size w w9 := hbW0.trans (hb09.mono hzW0)
  clear hbf7
  go_wp2_with fail
  refine (RF.out _).mono ?_
  rintro _ w11 ⟨rfl, hb11⟩
  have hb011 : Below W0.heap.size W0 w11 := hb09.trans (hb11.mono hb09.size)
  clear m0 m1 m2 m3 m4 m5 m6 m7 m8 m9 m10 m11 ml s0 s1 s2 hls p0 p1 p2 p3 hlp
  have RX11 := hid ((hb11.block w4.heap.size (Array.getElem?_eq_some_iff.1 RX9.out).1).trans RX9.out)
  clear n0 n1 hln
  obtain ⟨n0, n1, fn0, fn1, hln⟩ := two_cells RX11.out
  clear fn0 fn1
  obtain ⟨m0, m1, m2, m3, m4, m5, m6, m7, m8, m9, m10, m11, ml⟩ := tw_cells ((hb011.block w.heap.size l0).trans Q0.out)
  obtain ⟨s0, s1, s2, fs0, fs1, fs2, hls⟩ := three_cells ((hb011.block (w.heap.size + 1) l1).trans Q1.out)
  obtain ⟨p0, p1, p2, p3, hlp⟩ := four_row ((hb011.block (w.heap.size + 1 + 1) l2).trans Q2.out)
  clear fs0 fs1 fs2
  have hbf11 : Below w.heap.size w w11 := hbW0.trans (hb011.mono hzW0)
  clear hbf9
  go_wp2_with fail
  refine (RNE.out _).mono ?_
  rintro _ w12 ⟨rv, rfl, hrv, hb12⟩
  obtain ⟨ro, rn, rc, so, sn, sc, rfl, _, _⟩ := hrv.shape
  have HRV := hid hrv
  clear hrv
  have RX12 := hid ((hb12.block w4.heap.size (Array.getElem?_eq_some_iff.1 RX11.out).1).trans RX11.out)
  have hbf12 : Below w.heap.size w w12 := hbf11.trans (hb12.mono hbf11.size)
  clear m0 m1 m2 m3 m4 m5 m6 m7 m8 m9 m10 m11 ml s0 s1 s2 hls p0 p1 p2 p3 hlp n0 n1 hln
  go_wp2_with fail
  refine (RFR.out _ _ HRV.out).mono ?_
  rintro _ w13 ⟨rfl, hb13⟩
  have hbf13 : Below w.heap.size w w13 := hbf12.trans (hb13.mono hbf12.size)
  obtain ⟨n0, n1, fn0, fn1, hln⟩ := two_cells ((hb13.block w4.heap.size (Array.getElem?_eq_some_iff.1 RX12.out).1).trans RX12.out)
  have hln' : w4.heap.size < w13.heap.size + 1 := Nat.lt_succ_of_lt hln
  clear fn0 fn1 hb12 hb13
  go_wp2_with fail
  go_ret
  exact ⟨rfl, by (repeat (with_reducible first | exact Below.refl _ _ | assumption | refine Below.drewN _ ?_ | refine Below.drew ?_ | refine Below_alloc ?_ _ | refine Below.alloc ?_ (by first | (simp; done) | (simp; omega) | omega) _ | refine Below.setCell ?_ (by first | (simp; done) | (simp; omega) | omega) _ | refine Below_call ?_ (by assumption) | refine Below.trans ?_ (by assumption)))⟩

set_option maxRecDepth 100000 in
set_option maxHeartbeats 16000000 in
theorem law_Reached_C00 (px py pz tm tk lo hi li ea la no mi sx sy sz qx qy qz t EM XN XD RN RD C : Int) (q1 : (C == 0) = false) (q2 : (C != 0) = true) (hXN : XN = 0) (hXD : XD = 0) (w : World)
    (HC : Hid (∀ W, Calls Try.prog 14 #[.agg #[.int .i64 px, .int .i64 py, .int .i64 pz, .int .i64 tm, .int .i64 tk, .int .i64 lo, .int .i64 hi, .int .i64 li, .int .i64 ea, .int .i64 la, .int .i64 no, .int .i64 mi]] W fun e w' => e = .returned (.int .i64 EM) ∧ Below W.heap.size W w'))
    (RM : Hid (∀ W, Calls Try.prog 18 #[.agg #[.int .i64 px, .int .i64 py, .int .i64 pz, .int .i64 tm, .int .i64 tk, .int .i64 lo, .int .i64 hi, .int .i64 li, .int .i64 ea, .int .i64 la, .int .i64 no, .int .i64 mi]] W fun e w' => e = .returned (.int .i64 EM) ∧ Below W.heap.size W w'))
    (HR : Hid (∀ W, Calls Try.prog 15 #[.agg #[.int .i64 px, .int .i64 py, .int .i64 pz, .int .i64 tm, .int .i64 tk, .int .i64 lo, .int .i64 hi, .int .i64 li, .int .i64 ea, .int .i64 la, .int .i64 no, .int .i64 mi], .agg #[.int .i64 sx, .int .i64 sy, .int .i64 sz], .agg #[.int .i64 qx, .int .i64 qy, .int .i64 qz, .int .i64 t]] W fun e w' => e = .returned (.tuple #[.bool false, .int .i64 C]) ∧ Below W.heap.size W w'))
    (HF : Hid (∀ W, Calls Try.prog 16 #[.agg #[.int .i64 px, .int .i64 py, .int .i64 pz, .int .i64 tm, .int .i64 tk, .int .i64 lo, .int .i64 hi, .int .i64 li, .int .i64 ea, .int .i64 la, .int .i64 no, .int .i64 mi], .agg #[.int .i64 sx, .int .i64 sy, .int .i64 sz], .agg #[.int .i64 qx, .int .i64 qy, .int .i64 qz]] W fun e w' => e = .returned (.tuple #[.int .i64 0, .int .i64 8]) ∧ Below W.heap.size W w'))
    (HN : Hid (∀ W, Calls Try.prog 17 #[.agg #[.int .i64 px, .int .i64 py, .int .i64 pz, .int .i64 tm, .int .i64 tk, .int .i64 lo, .int .i64 hi, .int .i64 li, .int .i64 ea, .int .i64 la, .int .i64 no, .int .i64 mi], .agg #[.int .i64 sx, .int .i64 sy, .int .i64 sz], .agg #[.int .i64 qx, .int .i64 qy, .int .i64 qz]] W fun e w' => e = .returned (.tuple #[.agg #[.int .i64 XN, .int .i64 XD], .int .i64 8]) ∧ Below W.heap.size W w'))
    (RB : Hid (∀ W, Calls Try.prog 19 #[.agg #[.int .i64 px, .int .i64 py, .int .i64 pz, .int .i64 tm, .int .i64 tk, .int .i64 lo, .int .i64 hi, .int .i64 li, .int .i64 ea, .int .i64 la, .int .i64 no, .int .i64 mi], .agg #[.int .i64 sx, .int .i64 sy, .int .i64 sz]] W fun e w' => e = .returned (.int .i64 0) ∧ Below W.heap.size W w'))
    (RMo : Hid (∀ W, Calls Try.prog 20 #[.agg #[.int .i64 qx, .int .i64 qy, .int .i64 qz, .int .i64 t]] W fun e w' => e = .returned (.int .i64 C) ∧ Below W.heap.size W w'))
    (RP : Hid (∀ W, Calls Try.prog 21 #[.agg #[.int .i64 qx, .int .i64 qy, .int .i64 qz]] W fun e w' => e = .returned (.int .i64 0) ∧ Below W.heap.size W w'))
    (RF : Hid (∀ W, Calls Try.prog 23 #[.agg #[.int .i64 px, .int .i64 py, .int .i64 pz, .int .i64 tm, .int .i64 tk, .int .i64 lo, .int .i64 hi, .int .i64 li, .int .i64 ea, .int .i64 la, .int .i64 no, .int .i64 mi], .agg #[.int .i64 sx, .int .i64 sy, .int .i64 sz], .agg #[.int .i64 qx, .int .i64 qy, .int .i64 qz]] W fun e w' => e = .returned (.tuple #[.int .i64 0, .bool false]) ∧ Below W.heap.size W w'))
    (RNE : Hid (∀ W, Calls Try.prog 25 #[.agg #[.int .i64 px, .int .i64 py, .int .i64 pz, .int .i64 tm, .int .i64 tk, .int .i64 lo, .int .i64 hi, .int .i64 li, .int .i64 ea, .int .i64 la, .int .i64 no, .int .i64 mi], .agg #[.int .i64 sx, .int .i64 sy, .int .i64 sz], .agg #[.int .i64 qx, .int .i64 qy, .int .i64 qz]] W (RetRat W RN RD (fun _ => True))))
    (RFR : Hid (∀ W v, RatAt W v RN RD (fun _ => True) → Calls Try.prog 24 #[v] W fun e w' => e = .returned (.tuple #[.agg #[.int .i64 0, .int .i64 0], .bool false]) ∧ Below W.heap.size W w'))
    : Calls Try.prog 3 #[.agg #[.int .i64 px, .int .i64 py, .int .i64 pz, .int .i64 tm, .int .i64 tk, .int .i64 lo, .int .i64 hi, .int .i64 li, .int .i64 ea, .int .i64 la, .int .i64 no, .int .i64 mi], .agg #[.int .i64 sx, .int .i64 sy, .int .i64 sz], .agg #[.int .i64 qx, .int .i64 qy, .int .i64 qz, .int .i64 t]] w fun e w' => e = .returned (.bool true) ∧ Below w.heap.size w w' := by
  have HA := hid law_awake5
  obtain ⟨W0, hW0⟩ : ∃ W0, W0 = ((w.alloc (.cells #[.int .i64 px, .int .i64 py, .int .i64 pz, .int .i64 tm, .int .i64 tk, .int .i64 lo, .int .i64 hi, .int .i64 li, .int .i64 ea, .int .i64 la, .int .i64 no, .int .i64 mi] 26)).alloc (.cells #[.int .i64 sx, .int .i64 sy, .int .i64 sz] 22)).alloc (.cells #[.int .i64 qx, .int .i64 qy, .int .i64 qz, .int .i64 t] 28) := ⟨_, rfl⟩
  have hbW0 : Below w.heap.size w W0 := by rw [hW0]; (repeat (with_reducible first | exact Below.refl _ _ | assumption | refine Below.drewN _ ?_ | refine Below.drew ?_ | refine Below_alloc ?_ _ | refine Below.alloc ?_ (by first | (simp; done) | (simp; omega) | omega) _ | refine Below.setCell ?_ (by first | (simp; done) | (simp; omega) | omega) _ | refine Below_call ?_ (by assumption) | refine Below.trans ?_ (by assumption)))
  obtain ⟨q0, q1, q2⟩ := al3 w _ _ _ _ _ _ W0 hW0
  have l0 := (Array.getElem?_eq_some_iff.1 q0).1
  have l1 := (Array.getElem?_eq_some_iff.1 q1).1
  have l2 := (Array.getElem?_eq_some_iff.1 q2).1
  have Q0 := hid q0
  have Q1 := hid q1
  have Q2 := hid q2
  have hzW0 := hbW0.size
  clear q0 q1 q2
  subst hXN
  subst hXD
  go_enter Try.func3, Try.ntmps3
  go_wp2_with fail
  rw [← hW0]
  refine (HA.out _).mono ?_
  rintro _ w1 ⟨rfl, hb1⟩
  clear hW0
  have hb01 : Below W0.heap.size W0 w1 := hb1
  obtain ⟨m0, m1, m2, m3, m4, m5, m6, m7, m8, m9, m10, m11, ml⟩ := tw_cells ((hb01.block w.heap.size l0).trans Q0.out)
  obtain ⟨s0, s1, s2, fs0, fs1, fs2, hls⟩ := three_cells ((hb01.block (w.heap.size + 1) l1).trans Q1.out)
  obtain ⟨p0, p1, p2, p3, hlp⟩ := four_row ((hb01.block (w.heap.size + 1 + 1) l2).trans Q2.out)
  clear fs0 fs1 fs2
  have hbf1 : Below w.heap.size w w1 := hbW0.trans (hb01.mono hzW0)
  go_wp2_with fail
  refine (HC.out _).mono ?_
  rintro _ w2 ⟨rfl, hb2⟩
  have hb02 : Below W0.heap.size W0 w2 := hb01.trans (hb2.mono hb01.size)
  clear m0 m1 m2 m3 m4 m5 m6 m7 m8 m9 m10 m11 ml s0 s1 s2 hls p0 p1 p2 p3 hlp
  obtain ⟨m0, m1, m2, m3, m4, m5, m6, m7, m8, m9, m10, m11, ml⟩ := tw_cells ((hb02.block w.heap.size l0).trans Q0.out)
  obtain ⟨s0, s1, s2, fs0, fs1, fs2, hls⟩ := three_cells ((hb02.block (w.heap.size + 1) l1).trans Q1.out)
  obtain ⟨p0, p1, p2, p3, hlp⟩ := four_row ((hb02.block (w.heap.size + 1 + 1) l2).trans Q2.out)
  clear fs0 fs1 fs2
  have hbf2 : Below w.heap.size w w2 := hbW0.trans (hb02.mono hzW0)
  clear hbf1
  go_wp2_with fail
  refine (HR.out _).mono ?_
  rintro _ w3 ⟨rfl, hb3⟩
  have hb03 : Below W0.heap.size W0 w3 := hb02.trans (hb3.mono hb02.size)
  clear m0 m1 m2 m3 m4 m5 m6 m7 m8 m9 m10 m11 ml s0 s1 s2 hls p0 p1 p2 p3 hlp
  obtain ⟨m0, m1, m2, m3, m4, m5, m6, m7, m8, m9, m10, m11, ml⟩ := tw_cells ((hb03.block w.heap.size l0).trans Q0.out)
  obtain ⟨s0, s1, s2, fs0, fs1, fs2, hls⟩ := three_cells ((hb03.block (w.heap.size + 1) l1).trans Q1.out)
  obtain ⟨p0, p1, p2, p3, hlp⟩ := four_row ((hb03.block (w.heap.size + 1 + 1) l2).trans Q2.out)
  clear fs0 fs1 fs2
  have hbf3 : Below w.heap.size w w3 := hbW0.trans (hb03.mono hzW0)
  clear hbf2
  go_wp2_with fail
  refine (HF.out _).mono ?_
  rintro _ w5 ⟨rfl, hb5⟩
  have hb05 : Below W0.heap.size W0 w5 := hb03.trans (hb5.mono hb03.size)
  clear m0 m1 m2 m3 m4 m5 m6 m7 m8 m9 m10 m11 ml s0 s1 s2 hls p0 p1 p2 p3 hlp
  obtain ⟨m0, m1, m2, m3, m4, m5, m6, m7, m8, m9, m10, m11, ml⟩ := tw_cells ((hb05.block w.heap.size l0).trans Q0.out)
  obtain ⟨s0, s1, s2, fs0, fs1, fs2, hls⟩ := three_cells ((hb05.block (w.heap.size + 1) l1).trans Q1.out)
  obtain ⟨p0, p1, p2, p3, hlp⟩ := four_row ((hb05.block (w.heap.size + 1 + 1) l2).trans Q2.out)
  clear fs0 fs1 fs2
  have hbf5 : Below w.heap.size w w5 := hbW0.trans (hb05.mono hzW0)
  clear hbf3
  go_wp2_with fail
  refine (HN.out _).mono ?_
  rintro _ w4 ⟨rfl, hb4⟩
  have hb04 : Below W0.heap.size W0 w4 := hb05.trans (hb4.mono hb05.size)
  clear m0 m1 m2 m3 m4 m5 m6 m7 m8 m9 m10 m11 ml s0 s1 s2 hls p0 p1 p2 p3 hlp
  obtain ⟨m0, m1, m2, m3, m4, m5, m6, m7, m8, m9, m10, m11, ml⟩ := tw_cells ((hb04.block w.heap.size l0).trans Q0.out)
  obtain ⟨s0, s1, s2, fs0, fs1, fs2, hls⟩ := three_cells ((hb04.block (w.heap.size + 1) l1).trans Q1.out)
  obtain ⟨p0, p1, p2, p3, hlp⟩ := four_row ((hb04.block (w.heap.size + 1 + 1) l2).trans Q2.out)
  clear fs0 fs1 fs2
  have hbf4 : Below w.heap.size w w4 := hbW0.trans (hb04.mono hzW0)
  clear hbf5
  obtain ⟨X, hX⟩ : ∃ X, X = w4.alloc (.cells #[.int .i64 0, .int .i64 0] 37) := ⟨_, rfl⟩
  have hbX : Below w4.heap.size w4 X := by rw [hX]; (repeat (with_reducible first | exact Below.refl _ _ | assumption | refine Below.drewN _ ?_ | refine Below.drew ?_ | refine Below_alloc ?_ _ | refine Below.alloc ?_ (by first | (simp; done) | (simp; omega) | omega) _ | refine Below.setCell ?_ (by first | (simp; done) | (simp; omega) | omega) _ | refine Below_call ?_ (by assumption) | refine Below.trans ?_ (by assumption)))
  have RX := hid (show X.heap[w4.heap.size]? = some (.cells #[.int .i64 0, .int .i64 0] 37 (0, 0)) by rw [hX]; exact heap_alloc_new w4 _)
  have hb0X : Below W0.heap.size W0 X := hb04.trans (hbX.mono hb04.size)
  have hbfX : Below w.heap.size w X := hbW0.trans (hb0X.mono hzW0)
  have l0' : w.heap.size < w4.heap.size + 1 := Nat.lt_succ_of_lt ml
  go_wp2_with fail
  rw [← hX]
  clear hX l0'
  refine (RM.out _).mono ?_
  rintro _ w6 ⟨rfl, hb6⟩
  have hb06 : Below W0.heap.size W0 w6 := hb0X.trans (hb6.mono hb0X.size)
  clear m0 m1 m2 m3 m4 m5 m6 m7 m8 m9 m10 m11 ml s0 s1 s2 hls p0 p1 p2 p3 hlp
  have RX6 := hid ((hb6.block w4.heap.size (Array.getElem?_eq_some_iff.1 RX.out).1).trans RX.out)
  obtain ⟨n0, n1, fn0, fn1, hln⟩ := two_cells RX6.out
  clear fn0 fn1
  obtain ⟨m0, m1, m2, m3, m4, m5, m6, m7, m8, m9, m10, m11, ml⟩ := tw_cells ((hb06.block w.heap.size l0).trans Q0.out)
  obtain ⟨s0, s1, s2, fs0, fs1, fs2, hls⟩ := three_cells ((hb06.block (w.heap.size + 1) l1).trans Q1.out)
  obtain ⟨p0, p1, p2, p3, hlp⟩ := four_row ((hb06.block (w.heap.size + 1 + 1) l2).trans Q2.out)
  clear fs0 fs1 fs2
  have hbf6 : Below w.heap.size w w6 := hbW0.trans (hb06.mono hzW0)
  clear hbfX hbf4
  go_wp2_with fail
  refine (RB.out _).mono ?_
  rintro _ w7 ⟨rfl, hb7⟩
  have hb07 : Below W0.heap.size W0 w7 := hb06.trans (hb7.mono hb06.size)
  clear m0 m1 m2 m3 m4 m5 m6 m7 m8 m9 m10 m11 ml s0 s1 s2 hls p0 p1 p2 p3 hlp
  have RX7 := hid ((hb7.block w4.heap.size (Array.getElem?_eq_some_iff.1 RX6.out).1).trans RX6.out)
  clear n0 n1 hln
  obtain ⟨n0, n1, fn0, fn1, hln⟩ := two_cells RX7.out
  clear fn0 fn1
  obtain ⟨m0, m1, m2, m3, m4, m5, m6, m7, m8, m9, m10, m11, ml⟩ := tw_cells ((hb07.block w.heap.size l0).trans Q0.out)
  obtain ⟨s0, s1, s2, fs0, fs1, fs2, hls⟩ := three_cells ((hb07.block (w.heap.size + 1) l1).trans Q1.out)
  obtain ⟨p0, p1, p2, p3, hlp⟩ := four_row ((hb07.block (w.heap.size + 1 + 1) l2).trans Q2.out)
  clear fs0 fs1 fs2
  have hbf7 : Below w.heap.size w w7 := hbW0.trans (hb07.mono hzW0)
  clear hbf6
  go_wp2_with fail
  refine wp_mixC (fun wc => Below (w7.heap.size) w7 wc) 6 [.q [0, 2, 3], .f [1, 4], .q [5]] [.q [6]] (by kernel_rfl) (by kernel_rfl) ((Below.refl _ _).drew) ?_
  intro Q' hQ'
  (rw [wpMixC]; simp only [pick, List.drop_succ_cons, List.drop_zero, List.head?_cons, Option.toList_some, List.cons_append, List.nil_append])
  (repeat (first | go_big_quiet_skip | (go_big_quiet_want; refine quiet_simple rfl ?_; go_big_quiet_op; go_big_quiet_on) | (go_big_quiet_want; refine quiet_agg3B (ty := 22) rfl rfl (by kernel_rfl) (by assumption) (by assumption) (by assumption) (by first | omega | (simp; omega)) ?_; simp only [Act.put, List.setIfInBounds_toArray, List.set_cons_succ, List.set_cons_zero]; go_big_quiet_on) | (go_big_quiet_want; refine quiet_agg4B (ty := 28) rfl rfl (by kernel_rfl) (by assumption) (by assumption) (by assumption) (by assumption) (by first | omega | (simp; omega)) ?_; simp only [Act.put, List.setIfInBounds_toArray, List.set_cons_succ, List.set_cons_zero]; go_big_quiet_on)))
  (try refine wpQuiet_nil ?_)
  (rw [wpMixC]; simp only [pick, List.drop_succ_cons, List.drop_zero, List.head?_cons, Option.toList_some, List.cons_append, List.nil_append])
  (rw [wpSteps]; go_wp2_with ((go_at_call 20; ((with_reducible refine (RMo.out _).mono ?_); rintro _ w8 ⟨rfl, hb8⟩))); rw [contF]; refine ⟨?_, ?_⟩; (next => (repeat (with_reducible first | exact Below.refl _ _ | assumption | refine Below.drewN _ ?_ | refine Below.drew ?_ | refine Below_alloc ?_ _ | refine Below.alloc ?_ (by first | (simp; done) | (simp; omega) | omega) _ | refine Below.setCell ?_ (by first | (simp; done) | (simp; omega) | omega) _ | refine Below_call ?_ (by assumption) | refine Below.trans ?_ (by assumption)))))
  (rw [wpSteps]; go_wp2_with ((go_at_call 21; ((with_reducible refine (RP.out _).mono ?_); rintro _ w9 ⟨rfl, hb9⟩))); rw [contF]; refine ⟨?_, ?_⟩; (next => (repeat (with_reducible first | exact Below.refl _ _ | assumption | refine Below.drewN _ ?_ | refine Below.drew ?_ | refine Below_alloc ?_ _ | refine Below.alloc ?_ (by first | (simp; done) | (simp; omega) | omega) _ | refine Below.setCell ?_ (by first | (simp; done) | (simp; omega) | omega) _ | refine Below_call ?_ (by assumption) | refine Below.trans ?_ (by assumption)))))
  (rw [wpSteps])
  (rw [wpMixC]; simp only [pick, List.drop_succ_cons, List.drop_zero, List.head?_cons, Option.toList_some, List.cons_append, List.nil_append])
  (repeat (first | go_big_quiet_skip | (go_big_quiet_want; refine quiet_simple rfl ?_; go_big_quiet_op; go_big_quiet_on) | (go_big_quiet_want; refine quiet_agg3B (ty := 22) rfl rfl (by kernel_rfl) (by assumption) (by assumption) (by assumption) (by first | omega | (simp; omega)) ?_; simp only [Act.put, List.setIfInBounds_toArray, List.set_cons_succ, List.set_cons_zero]; go_big_quiet_on) | (go_big_quiet_want; refine quiet_agg4B (ty := 28) rfl rfl (by kernel_rfl) (by assumption) (by assumption) (by assumption) (by assumption) (by first | omega | (simp; omega)) ?_; simp only [Act.put, List.setIfInBounds_toArray, List.set_cons_succ, List.set_cons_zero]; go_big_quiet_on)))
  (try refine wpQuiet_nil ?_)
  (rw [wpMixC])
  (rw [wpMix]; simp only [pick, List.drop_succ_cons, List.drop_zero, List.head?_cons, Option.toList_some, List.cons_append, List.nil_append])
  (repeat (first | (go_big_quiet_step (fail)) | (quiet_step (fail))))
  (try refine wpQuiet_nil ?_)
  (rw [wpMix])
  (refine hQ' _ _ ?_)
  have hb79 : Below w7.heap.size w7 w9 := by (repeat (with_reducible first | exact Below.refl _ _ | assumption | refine Below.drewN _ ?_ | refine Below.drew ?_ | refine Below_alloc ?_ _ | refine Below.alloc ?_ (by first | (simp; done) | (simp; omega) | omega) _ | refine Below.setCell ?_ (by first | (simp; done) | (simp; omega) | omega) _ | refine Below_call ?_ (by assumption) | refine Below.trans ?_ (by assumption)))
  have hb09 : Below W0.heap.size W0 w9 := hb07.trans (hb79.mono hb07.size)
  clear m0 m1 m2 m3 m4 m5 m6 m7 m8 m9 m10 m11 ml s0 s1 s2 hls p0 p1 p2 p3 hlp
  have RX9 := hid ((hb79.block w4.heap.size (Array.getElem?_eq_some_iff.1 RX7.out).1).trans RX7.out)
  clear n0 n1 hln
  obtain ⟨n0, n1, fn0, fn1, hln⟩ := two_cells RX9.out
  clear fn0 fn1 hb8 hb9
  obtain ⟨m0, m1, m2, m3, m4, m5, m6, m7, m8, m9, m10, m11, ml⟩ := tw_cells ((hb09.block w.heap.size l0).trans Q0.out)
  obtain ⟨s0, s1, s2, fs0, fs1, fs2, hls⟩ := three_cells ((hb09.block (w.heap.size + 1) l1).trans Q1.out)
  obtain ⟨p0, p1, p2, p3, hlp⟩ := four_row ((hb09.block (w.heap.size + 1 + 1) l2).trans Q2.out)
  clear fs0 fs1 fs2
  have hbf9 : Below w.heap.size w w9 := hbW0.trans (hb09.mono hzW0)
  clear hbf7
  go_wp2_with fail
  refine (RF.out _).mono ?_
  rintro _ w11 ⟨rfl, hb11⟩
  have hb011 : Below W0.heap.size W0 w11 := hb09.trans (hb11.mono hb09.size)
  clear m0 m1 m2 m3 m4 m5 m6 m7 m8 m9 m10 m11 ml s0 s1 s2 hls p0 p1 p2 p3 hlp
  have RX11 := hid ((hb11.block w4.heap.size (Array.getElem?_eq_some_iff.1 RX9.out).1).trans RX9.out)
  clear n0 n1 hln
  obtain ⟨n0, n1, fn0, fn1, hln⟩ := two_cells RX11.out
  clear fn0 fn1
  obtain ⟨m0, m1, m2, m3, m4, m5, m6, m7, m8, m9, m10, m11, ml⟩ := tw_cells ((hb011.block w.heap.size l0).trans Q0.out)
  obtain ⟨s0, s1, s2, fs0, fs1, fs2, hls⟩ := three_cells ((hb011.block (w.heap.size + 1) l1).trans Q1.out)
  obtain ⟨p0, p1, p2, p3, hlp⟩ := four_row ((hb011.block (w.heap.size + 1 + 1) l2).trans Q2.out)
  clear fs0 fs1 fs2
  have hbf11 : Below w.heap.size w w11 := hbW0.trans (hb011.mono hzW0)
  clear hbf9
  go_wp2_with fail
  refine (RNE.out _).mono ?_
  rintro _ w12 ⟨rv, rfl, hrv, hb12⟩
  obtain ⟨ro, rn, rc, so, sn, sc, rfl, _, _⟩ := hrv.shape
  have HRV := hid hrv
  clear hrv
  have RX12 := hid ((hb12.block w4.heap.size (Array.getElem?_eq_some_iff.1 RX11.out).1).trans RX11.out)
  have hbf12 : Below w.heap.size w w12 := hbf11.trans (hb12.mono hbf11.size)
  clear m0 m1 m2 m3 m4 m5 m6 m7 m8 m9 m10 m11 ml s0 s1 s2 hls p0 p1 p2 p3 hlp n0 n1 hln
  go_wp2_with fail
  refine (RFR.out _ _ HRV.out).mono ?_
  rintro _ w13 ⟨rfl, hb13⟩
  have hbf13 : Below w.heap.size w w13 := hbf12.trans (hb13.mono hbf12.size)
  obtain ⟨n0, n1, fn0, fn1, hln⟩ := two_cells ((hb13.block w4.heap.size (Array.getElem?_eq_some_iff.1 RX12.out).1).trans RX12.out)
  have hln' : w4.heap.size < w13.heap.size + 1 := Nat.lt_succ_of_lt hln
  clear fn0 fn1 hb12 hb13
  go_wp2_with fail
  go_ret
  exact ⟨rfl, by (repeat (with_reducible first | exact Below.refl _ _ | assumption | refine Below.drewN _ ?_ | refine Below.drew ?_ | refine Below_alloc ?_ _ | refine Below.alloc ?_ (by first | (simp; done) | (simp; omega) | omega) _ | refine Below.setCell ?_ (by first | (simp; done) | (simp; omega) | omega) _ | refine Below_call ?_ (by assumption) | refine Below.trans ?_ (by assumption)))⟩

set_option maxRecDepth 100000 in
set_option maxHeartbeats 16000000 in
theorem law_Reached_E11 (px py pz tm tk lo hi li ea la no mi sx sy sz qx qy qz t EM XN XD RN RD FV : Int) (R : Bool) (w : World)
    (HC : Hid (∀ W, Calls Try.prog 14 #[.agg #[.int .i64 px, .int .i64 py, .int .i64 pz, .int .i64 tm, .int .i64 tk, .int .i64 lo, .int .i64 hi, .int .i64 li, .int .i64 ea, .int .i64 la, .int .i64 no, .int .i64 mi]] W fun e w' => e = .returned (.int .i64 EM) ∧ Below W.heap.size W w'))
    (RM : Hid (∀ W, Calls Try.prog 18 #[.agg #[.int .i64 px, .int .i64 py, .int .i64 pz, .int .i64 tm, .int .i64 tk, .int .i64 lo, .int .i64 hi, .int .i64 li, .int .i64 ea, .int .i64 la, .int .i64 no, .int .i64 mi]] W fun e w' => e = .returned (.int .i64 EM) ∧ Below W.heap.size W w'))
    (HR : Hid (∀ W, Calls Try.prog 15 #[.agg #[.int .i64 px, .int .i64 py, .int .i64 pz, .int .i64 tm, .int .i64 tk, .int .i64 lo, .int .i64 hi, .int .i64 li, .int .i64 ea, .int .i64 la, .int .i64 no, .int .i64 mi], .agg #[.int .i64 sx, .int .i64 sy, .int .i64 sz], .agg #[.int .i64 qx, .int .i64 qy, .int .i64 qz, .int .i64 t]] W fun e w' => e = .returned (.tuple #[.bool R, .int .i64 0]) ∧ Below W.heap.size W w'))
    (HF : Hid (∀ W, Calls Try.prog 16 #[.agg #[.int .i64 px, .int .i64 py, .int .i64 pz, .int .i64 tm, .int .i64 tk, .int .i64 lo, .int .i64 hi, .int .i64 li, .int .i64 ea, .int .i64 la, .int .i64 no, .int .i64 mi], .agg #[.int .i64 sx, .int .i64 sy, .int .i64 sz], .agg #[.int .i64 qx, .int .i64 qy, .int .i64 qz]] W fun e w' => e = .returned (.tuple #[.int .i64 FV, .int .i64 0]) ∧ Below W.heap.size W w'))
    (HN : Hid (∀ W, Calls Try.prog 17 #[.agg #[.int .i64 px, .int .i64 py, .int .i64 pz, .int .i64 tm, .int .i64 tk, .int .i64 lo, .int .i64 hi, .int .i64 li, .int .i64 ea, .int .i64 la, .int .i64 no, .int .i64 mi], .agg #[.int .i64 sx, .int .i64 sy, .int .i64 sz], .agg #[.int .i64 qx, .int .i64 qy, .int .i64 qz]] W fun e w' => e = .returned (.tuple #[.agg #[.int .i64 XN, .int .i64 XD], .int .i64 0]) ∧ Below W.heap.size W w'))
    (RB : Hid (∀ W, Calls Try.prog 19 #[.agg #[.int .i64 px, .int .i64 py, .int .i64 pz, .int .i64 tm, .int .i64 tk, .int .i64 lo, .int .i64 hi, .int .i64 li, .int .i64 ea, .int .i64 la, .int .i64 no, .int .i64 mi], .agg #[.int .i64 sx, .int .i64 sy, .int .i64 sz]] W fun e w' => e = .returned (.int .i64 0) ∧ Below W.heap.size W w'))
    (RMo : Hid (∀ W, Calls Try.prog 20 #[.agg #[.int .i64 qx, .int .i64 qy, .int .i64 qz, .int .i64 t]] W fun e w' => e = .returned (.int .i64 0) ∧ Below W.heap.size W w'))
    (RP : Hid (∀ W, Calls Try.prog 21 #[.agg #[.int .i64 qx, .int .i64 qy, .int .i64 qz]] W fun e w' => e = .returned (.int .i64 0) ∧ Below W.heap.size W w'))
    (RR : Hid (∀ W, Calls Try.prog 22 #[.agg #[.int .i64 px, .int .i64 py, .int .i64 pz, .int .i64 tm, .int .i64 tk, .int .i64 lo, .int .i64 hi, .int .i64 li, .int .i64 ea, .int .i64 la, .int .i64 no, .int .i64 mi], .agg #[.int .i64 sx, .int .i64 sy, .int .i64 sz], .agg #[.int .i64 qx, .int .i64 qy, .int .i64 qz], .int .i64 t] W fun e w' => e = .returned (.bool R) ∧ Below W.heap.size W w'))
    (RF : Hid (∀ W, Calls Try.prog 23 #[.agg #[.int .i64 px, .int .i64 py, .int .i64 pz, .int .i64 tm, .int .i64 tk, .int .i64 lo, .int .i64 hi, .int .i64 li, .int .i64 ea, .int .i64 la, .int .i64 no, .int .i64 mi], .agg #[.int .i64 sx, .int .i64 sy, .int .i64 sz], .agg #[.int .i64 qx, .int .i64 qy, .int .i64 qz]] W fun e w' => e = .returned (.tuple #[.int .i64 FV, .bool true]) ∧ Below W.heap.size W w'))
    (RNE : Hid (∀ W, Calls Try.prog 25 #[.agg #[.int .i64 px, .int .i64 py, .int .i64 pz, .int .i64 tm, .int .i64 tk, .int .i64 lo, .int .i64 hi, .int .i64 li, .int .i64 ea, .int .i64 la, .int .i64 no, .int .i64 mi], .agg #[.int .i64 sx, .int .i64 sy, .int .i64 sz], .agg #[.int .i64 qx, .int .i64 qy, .int .i64 qz]] W (RetRat W RN RD (fun _ => True))))
    (RFR : Hid (∀ W v, RatAt W v RN RD (fun _ => True) → Calls Try.prog 24 #[v] W fun e w' => e = .returned (.tuple #[.agg #[.int .i64 XN, .int .i64 XD], .bool true]) ∧ Below W.heap.size W w'))
    : Calls Try.prog 3 #[.agg #[.int .i64 px, .int .i64 py, .int .i64 pz, .int .i64 tm, .int .i64 tk, .int .i64 lo, .int .i64 hi, .int .i64 li, .int .i64 ea, .int .i64 la, .int .i64 no, .int .i64 mi], .agg #[.int .i64 sx, .int .i64 sy, .int .i64 sz], .agg #[.int .i64 qx, .int .i64 qy, .int .i64 qz, .int .i64 t]] w fun e w' => e = .returned (.bool true) ∧ Below w.heap.size w w' := by
  have HA := hid law_awake5
  obtain ⟨W0, hW0⟩ : ∃ W0, W0 = ((w.alloc (.cells #[.int .i64 px, .int .i64 py, .int .i64 pz, .int .i64 tm, .int .i64 tk, .int .i64 lo, .int .i64 hi, .int .i64 li, .int .i64 ea, .int .i64 la, .int .i64 no, .int .i64 mi] 26)).alloc (.cells #[.int .i64 sx, .int .i64 sy, .int .i64 sz] 22)).alloc (.cells #[.int .i64 qx, .int .i64 qy, .int .i64 qz, .int .i64 t] 28) := ⟨_, rfl⟩
  have hbW0 : Below w.heap.size w W0 := by rw [hW0]; (repeat (with_reducible first | exact Below.refl _ _ | assumption | refine Below.drewN _ ?_ | refine Below.drew ?_ | refine Below_alloc ?_ _ | refine Below.alloc ?_ (by first | (simp; done) | (simp; omega) | omega) _ | refine Below.setCell ?_ (by first | (simp; done) | (simp; omega) | omega) _ | refine Below_call ?_ (by assumption) | refine Below.trans ?_ (by assumption)))
  obtain ⟨q0, q1, q2⟩ := al3 w _ _ _ _ _ _ W0 hW0
  have l0 := (Array.getElem?_eq_some_iff.1 q0).1
  have l1 := (Array.getElem?_eq_some_iff.1 q1).1
  have l2 := (Array.getElem?_eq_some_iff.1 q2).1
  have Q0 := hid q0
  have Q1 := hid q1
  have Q2 := hid q2
  have hzW0 := hbW0.size
  clear q0 q1 q2
  go_enter Try.func3, Try.ntmps3
  go_wp2_with fail
  rw [← hW0]
  refine (HA.out _).mono ?_
  rintro _ w1 ⟨rfl, hb1⟩
  clear hW0
  have hb01 : Below W0.heap.size W0 w1 := hb1
  obtain ⟨m0, m1, m2, m3, m4, m5, m6, m7, m8, m9, m10, m11, ml⟩ := tw_cells ((hb01.block w.heap.size l0).trans Q0.out)
  obtain ⟨s0, s1, s2, fs0, fs1, fs2, hls⟩ := three_cells ((hb01.block (w.heap.size + 1) l1).trans Q1.out)
  obtain ⟨p0, p1, p2, p3, hlp⟩ := four_row ((hb01.block (w.heap.size + 1 + 1) l2).trans Q2.out)
  clear fs0 fs1 fs2
  have hbf1 : Below w.heap.size w w1 := hbW0.trans (hb01.mono hzW0)
  go_wp2_with fail
  refine (HC.out _).mono ?_
  rintro _ w2 ⟨rfl, hb2⟩
  have hb02 : Below W0.heap.size W0 w2 := hb01.trans (hb2.mono hb01.size)
  clear m0 m1 m2 m3 m4 m5 m6 m7 m8 m9 m10 m11 ml s0 s1 s2 hls p0 p1 p2 p3 hlp
  obtain ⟨m0, m1, m2, m3, m4, m5, m6, m7, m8, m9, m10, m11, ml⟩ := tw_cells ((hb02.block w.heap.size l0).trans Q0.out)
  obtain ⟨s0, s1, s2, fs0, fs1, fs2, hls⟩ := three_cells ((hb02.block (w.heap.size + 1) l1).trans Q1.out)
  obtain ⟨p0, p1, p2, p3, hlp⟩ := four_row ((hb02.block (w.heap.size + 1 + 1) l2).trans Q2.out)
  clear fs0 fs1 fs2
  have hbf2 : Below w.heap.size w w2 := hbW0.trans (hb02.mono hzW0)
  clear hbf1
  go_wp2_with fail
  refine (HR.out _).mono ?_
  rintro _ w3 ⟨rfl, hb3⟩
  have hb03 : Below W0.heap.size W0 w3 := hb02.trans (hb3.mono hb02.size)
  clear m0 m1 m2 m3 m4 m5 m6 m7 m8 m9 m10 m11 ml s0 s1 s2 hls p0 p1 p2 p3 hlp
  obtain ⟨m0, m1, m2, m3, m4, m5, m6, m7, m8, m9, m10, m11, ml⟩ := tw_cells ((hb03.block w.heap.size l0).trans Q0.out)
  obtain ⟨s0, s1, s2, fs0, fs1, fs2, hls⟩ := three_cells ((hb03.block (w.heap.size + 1) l1).trans Q1.out)
  obtain ⟨p0, p1, p2, p3, hlp⟩ := four_row ((hb03.block (w.heap.size + 1 + 1) l2).trans Q2.out)
  clear fs0 fs1 fs2
  have hbf3 : Below w.heap.size w w3 := hbW0.trans (hb03.mono hzW0)
  clear hbf2
  go_wp2_with fail
  refine (HF.out _).mono ?_
  rintro _ w5 ⟨rfl, hb5⟩
  have hb05 : Below W0.heap.size W0 w5 := hb03.trans (hb5.mono hb03.size)
  clear m0 m1 m2 m3 m4 m5 m6 m7 m8 m9 m10 m11 ml s0 s1 s2 hls p0 p1 p2 p3 hlp
  obtain ⟨m0, m1, m2, m3, m4, m5, m6, m7, m8, m9, m10, m11, ml⟩ := tw_cells ((hb05.block w.heap.size l0).trans Q0.out)
  obtain ⟨s0, s1, s2, fs0, fs1, fs2, hls⟩ := three_cells ((hb05.block (w.heap.size + 1) l1).trans Q1.out)
  obtain ⟨p0, p1, p2, p3, hlp⟩ := four_row ((hb05.block (w.heap.size + 1 + 1) l2).trans Q2.out)
  clear fs0 fs1 fs2
  have hbf5 : Below w.heap.size w w5 := hbW0.trans (hb05.mono hzW0)
  clear hbf3
  go_wp2_with fail
  refine (HN.out _).mono ?_
  rintro _ w4 ⟨rfl, hb4⟩
  have hb04 : Below W0.heap.size W0 w4 := hb05.trans (hb4.mono hb05.size)
  clear m0 m1 m2 m3 m4 m5 m6 m7 m8 m9 m10 m11 ml s0 s1 s2 hls p0 p1 p2 p3 hlp
  obtain ⟨m0, m1, m2, m3, m4, m5, m6, m7, m8, m9, m10, m11, ml⟩ := tw_cells ((hb04.block w.heap.size l0).trans Q0.out)
  obtain ⟨s0, s1, s2, fs0, fs1, fs2, hls⟩ := three_cells ((hb04.block (w.heap.size + 1) l1).trans Q1.out)
  obtain ⟨p0, p1, p2, p3, hlp⟩ := four_row ((hb04.block (w.heap.size + 1 + 1) l2).trans Q2.out)
  clear fs0 fs1 fs2
  have hbf4 : Below w.heap.size w w4 := hbW0.trans (hb04.mono hzW0)
  clear hbf5
  obtain ⟨X, hX⟩ : ∃ X, X = w4.alloc (.cells #[.int .i64 XN, .int .i64 XD] 37) := ⟨_, rfl⟩
  have hbX : Below w4.heap.size w4 X := by rw [hX]; (repeat (with_reducible first | exact Below.refl _ _ | assumption | refine Below.drewN _ ?_ | refine Below.drew ?_ | refine Below_alloc ?_ _ | refine Below.alloc ?_ (by first | (simp; done) | (simp; omega) | omega) _ | refine Below.setCell ?_ (by first | (simp; done) | (simp; omega) | omega) _ | refine Below_call ?_ (by assumption) | refine Below.trans ?_ (by assumption)))
  have RX := hid (show X.heap[w4.heap.size]? = some (.cells #[.int .i64 XN, .int .i64 XD] 37 (0, 0)) by rw [hX]; exact heap_alloc_new w4 _)
  have hb0X : Below W0.heap.size W0 X := hb04.trans (hbX.mono hb04.size)
  have hbfX : Below w.heap.size w X := hbW0.trans (hb0X.mono hzW0)
  have l0' : w.heap.size < w4.heap.size + 1 := Nat.lt_succ_of_lt ml
  go_wp2_with fail
  rw [← hX]
  clear hX l0'
  refine (RM.out _).mono ?_
  rintro _ w6 ⟨rfl, hb6⟩
  have hb06 : Below W0.heap.size W0 w6 := hb0X.trans (hb6.mono hb0X.size)
  clear m0 m1 m2 m3 m4 m5 m6 m7 m8 m9 m10 m11 ml s0 s1 s2 hls p0 p1 p2 p3 hlp
  have RX6 := hid ((hb6.block w4.heap.size (Array.getElem?_eq_some_iff.1 RX.out).1).trans RX.out)
  obtain ⟨n0, n1, fn0, fn1, hln⟩ := two_cells RX6.out
  clear fn0 fn1
  obtain ⟨m0, m1, m2, m3, m4, m5, m6, m7, m8, m9, m10, m11, ml⟩ := tw_cells ((hb06.block w.heap.size l0).trans Q0.out)
  obtain ⟨s0, s1, s2, fs0, fs1, fs2, hls⟩ := three_cells ((hb06.block (w.heap.size + 1) l1).trans Q1.out)
  obtain ⟨p0, p1, p2, p3, hlp⟩ := four_row ((hb06.block (w.heap.size + 1 + 1) l2).trans Q2.out)
  clear fs0 fs1 fs2
  have hbf6 : Below w.heap.size w w6 := hbW0.trans (hb06.mono hzW0)
  clear hbfX hbf4
  go_wp2_with fail
  refine (RB.out _).mono ?_
  rintro _ w7 ⟨rfl, hb7⟩
  have hb07 : Below W0.heap.size W0 w7 := hb06.trans (hb7.mono hb06.size)
  clear m0 m1 m2 m3 m4 m5 m6 m7 m8 m9 m10 m11 ml s0 s1 s2 hls p0 p1 p2 p3 hlp
  have RX7 := hid ((hb7.block w4.heap.size (Array.getElem?_eq_some_iff.1 RX6.out).1).trans RX6.out)
  clear n0 n1 hln
  obtain ⟨n0, n1, fn0, fn1, hln⟩ := two_cells RX7.out
  clear fn0 fn1
  obtain ⟨m0, m1, m2, m3, m4, m5, m6, m7, m8, m9, m10, m11, ml⟩ := tw_cells ((hb07.block w.heap.size l0).trans Q0.out)
  obtain ⟨s0, s1, s2, fs0, fs1, fs2, hls⟩ := three_cells ((hb07.block (w.heap.size + 1) l1).trans Q1.out)
  obtain ⟨p0, p1, p2, p3, hlp⟩ := four_row ((hb07.block (w.heap.size + 1 + 1) l2).trans Q2.out)
  clear fs0 fs1 fs2
  have hbf7 : Below w.heap.size w w7 := hbW0.trans (hb07.mono hzW0)
  clear hbf6
  go_wp2_with fail
  refine wp_mixC (fun wc => Below (w7.heap.size) w7 wc) 6 [.q [0, 2, 3], .f [1, 4], .q [5]] [.q [6]] (by kernel_rfl) (by kernel_rfl) ((Below.refl _ _).drew) ?_
  intro Q' hQ'
  (rw [wpMixC]; simp only [pick, List.drop_succ_cons, List.drop_zero, List.head?_cons, Option.toList_some, List.cons_append, List.nil_append])
  (repeat (first | go_big_quiet_skip | (go_big_quiet_want; refine quiet_simple rfl ?_; go_big_quiet_op; go_big_quiet_on) | (go_big_quiet_want; refine quiet_agg3B (ty := 22) rfl rfl (by kernel_rfl) (by assumption) (by assumption) (by assumption) (by first | omega | (simp; omega)) ?_; simp only [Act.put, List.setIfInBounds_toArray, List.set_cons_succ, List.set_cons_zero]; go_big_quiet_on) | (go_big_quiet_want; refine quiet_agg4B (ty := 28) rfl rfl (by kernel_rfl) (by assumption) (by assumption) (by assumption) (by assumption) (by first | omega | (simp; omega)) ?_; simp only [Act.put, List.setIfInBounds_toArray, List.set_cons_succ, List.set_cons_zero]; go_big_quiet_on)))
  (try refine wpQuiet_nil ?_)
  (rw [wpMixC]; simp only [pick, List.drop_succ_cons, List.drop_zero, List.head?_cons, Option.toList_some, List.cons_append, List.nil_append])
  (rw [wpSteps]; go_wp2_with ((go_at_call 20; ((with_reducible refine (RMo.out _).mono ?_); rintro _ w8 ⟨rfl, hb8⟩))); rw [contF]; refine ⟨?_, ?_⟩; (next => (repeat (with_reducible first | exact Below.refl _ _ | assumption | refine Below.drewN _ ?_ | refine Below.drew ?_ | refine Below_alloc ?_ _ | refine Below.alloc ?_ (by first | (simp; done) | (simp; omega) | omega) _ | refine Below.setCell ?_ (by first | (simp; done) | (simp; omega) | omega) _ | refine Below_call ?_ (by assumption) | refine Below.trans ?_ (by assumption)))))
  (rw [wpSteps]; go_wp2_with ((go_at_call 21; ((with_reducible refine (RP.out _).mono ?_); rintro _ w9 ⟨rfl, hb9⟩))); rw [contF]; refine ⟨?_, ?_⟩; (next => (repeat (with_reducible first | exact Below.refl _ _ | assumption | refine Below.drewN _ ?_ | refine Below.drew ?_ | refine Below_alloc ?_ _ | refine Below.alloc ?_ (by first | (simp; done) | (simp; omega) | omega) _ | refine Below.setCell ?_ (by first | (simp; done) | (simp; omega) | omega) _ | refine Below_call ?_ (by assumption) | refine Below.trans ?_ (by assumption)))))
  (rw [wpSteps])
  (rw [wpMixC]; simp only [pick, List.drop_succ_cons, List.drop_zero, List.head?_cons, Option.toList_some, List.cons_append, List.nil_append])
  (repeat (first | go_big_quiet_skip | (go_big_quiet_want; refine quiet_simple rfl ?_; go_big_quiet_op; go_big_quiet_on) | (go_big_quiet_want; refine quiet_agg3B (ty := 22) rfl rfl (by kernel_rfl) (by assumption) (by assumption) (by assumption) (by first | omega | (simp; omega)) ?_; simp only [Act.put, List.setIfInBounds_toArray, List.set_cons_succ, List.set_cons_zero]; go_big_quiet_on) | (go_big_quiet_want; refine quiet_agg4B (ty := 28) rfl rfl (by kernel_rfl) (by assumption) (by assumption) (by assumption) (by assumption) (by first | omega | (simp; omega)) ?_; simp only [Act.put, List.setIfInBounds_toArray, List.set_cons_succ, List.set_cons_zero]; go_big_quiet_on)))
  (try refine wpQuiet_nil ?_)
  (rw [wpMixC])
  (rw [wpMix]; simp only [pick, List.drop_succ_cons, List.drop_zero, List.head?_cons, Option.toList_some, List.cons_append, List.nil_append])
  (repeat (first | (go_big_quiet_step (fail)) | (quiet_step (fail))))
  (try refine wpQuiet_nil ?_)
  (rw [wpMix])
  (refine hQ' _ _ ?_)
  have hb79 : Below w7.heap.size w7 w9 := by (repeat (with_reducible first | exact Below.refl _ _ | assumption | refine Below.drewN _ ?_ | refine Below.drew ?_ | refine Below_alloc ?_ _ | refine Below.alloc ?_ (by first | (simp; done) | (simp; omega) | omega) _ | refine Below.setCell ?_ (by first | (simp; done) | (simp; omega) | omega) _ | refine Below_call ?_ (by assumption) | refine Below.trans ?_ (by assumption)))
  have hb09 : Below W0.heap.size W0 w9 := hb07.trans (hb79.mono hb07.size)
  clear m0 m1 m2 m3 m4 m5 m6 m7 m8 m9 m10 m11 ml s0 s1 s2 hls p0 p1 p2 p3 hlp
  have RX9 := hid ((hb79.block w4.heap.size (Array.getElem?_eq_some_iff.1 RX7.out).1).trans RX7.out)
  clear n0 n1 hln
  obtain ⟨n0, n1, fn0, fn1, hln⟩ := two_cells RX9.out
  clear fn0 fn1 hb8 hb9
  obtain ⟨m0, m1, m2, m3, m4, m5, m6, m7, m8, m9, m10, m11, ml⟩ := tw_cells ((hb09.block w.heap.size l0).trans Q0.out)
  obtain ⟨s0, s1, s2, fs0, fs1, fs2, hls⟩ := three_cells ((hb09.block (w.heap.size + 1) l1).trans Q1.out)
  obtain ⟨p0, p1, p2, p3, hlp⟩ := four_row ((hb09.block (w.heap.size + 1 + 1) l2).trans Q2.out)
  clear fs0 fs1 fs2
  have hbf9 : Below w.heap.size w w9 := hbW0.trans (hb09.mono hzW0)
  clear hbf7
  cases R
  all_goals
    go_wp2_with fail
    refine (RR.out _).mono ?_
    rintro _ w10 ⟨rfl, hb10⟩
    have hb010 : Below W0.heap.size W0 w10 := hb09.trans (hb10.mono hb09.size)
    clear m0 m1 m2 m3 m4 m5 m6 m7 m8 m9 m10 m11 ml s0 s1 s2 hls p0 p1 p2 p3 hlp
    have RX10 := hid ((hb10.block w4.heap.size (Array.getElem?_eq_some_iff.1 RX9.out).1).trans RX9.out)
    clear n0 n1 hln
    obtain ⟨n0, n1, fn0, fn1, hln⟩ := two_cells RX10.out
    clear fn0 fn1
    obtain ⟨m0, m1, m2, m3, m4, m5, m6, m7, m8, m9, m10, m11, ml⟩ := tw_cells ((hb010.block w.heap.size l0).trans Q0.out)
    obtain ⟨s0, s1, s2, fs0, fs1, fs2, hls⟩ := three_cells ((hb010.block (w.heap.size + 1) l1).trans Q1.out)
    obtain ⟨p0, p1, p2, p3, hlp⟩ := four_row ((hb010.block (w.heap.size + 1 + 1) l2).trans Q2.out)
    clear fs0 fs1 fs2
    have hbf10 : Below w.heap.size w w10 := hbW0.trans (hb010.mono hzW0)
    clear hbf9
    go_wp2_with fail
    refine (RF.out _).mono ?_
    rintro _ w11 ⟨rfl, hb11⟩
    have hb011 : Below W0.heap.size W0 w11 := hb010.trans (hb11.mono hb010.size)
    clear m0 m1 m2 m3 m4 m5 m6 m7 m8 m9 m10 m11 ml s0 s1 s2 hls p0 p1 p2 p3 hlp
    have RX11 := hid ((hb11.block w4.heap.size (Array.getElem?_eq_some_iff.1 RX10.out).1).trans RX10.out)
    clear n0 n1 hln
    obtain ⟨n0, n1, fn0, fn1, hln⟩ := two_cells RX11.out
    clear fn0 fn1
    obtain ⟨m0, m1, m2, m3, m4, m5, m6, m7, m8, m9, m10, m11, ml⟩ := tw_cells ((hb011.block w.heap.size l0).trans Q0.out)
    obtain ⟨s0, s1, s2, fs0, fs1, fs2, hls⟩ := three_cells ((hb011.block (w.heap.size + 1) l1).trans Q1.out)
    obtain ⟨p0, p1, p2, p3, hlp⟩ := four_row ((hb011.block (w.heap.size + 1 + 1) l2).trans Q2.out)
    clear fs0 fs1 fs2
    have hbf11 : Below w.heap.size w w11 := hbW0.trans (hb011.mono hzW0)
    clear hbf10
    go_wp2_with fail
    refine (RNE.out _).mono ?_
    rintro _ w12 ⟨rv, rfl, hrv, hb12⟩
    obtain ⟨ro, rn, rc, so, sn, sc, rfl, _, _⟩ := hrv.shape
    have HRV := hid hrv
    clear hrv
    have RX12 := hid ((hb12.block w4.heap.size (Array.getElem?_eq_some_iff.1 RX11.out).1).trans RX11.out)
    have hbf12 : Below w.heap.size w w12 := hbf11.trans (hb12.mono hbf11.size)
    clear m0 m1 m2 m3 m4 m5 m6 m7 m8 m9 m10 m11 ml s0 s1 s2 hls p0 p1 p2 p3 hlp n0 n1 hln
    go_wp2_with fail
    refine (RFR.out _ _ HRV.out).mono ?_
    rintro _ w13 ⟨rfl, hb13⟩
    have hbf13 : Below w.heap.size w w13 := hbf12.trans (hb13.mono hbf12.size)
    obtain ⟨n0, n1, fn0, fn1, hln⟩ := two_cells ((hb13.block w4.heap.size (Array.getElem?_eq_some_iff.1 RX12.out).1).trans RX12.out)
    have hln' : w4.heap.size < w13.heap.size + 1 := Nat.lt_succ_of_lt hln
    clear fn0 fn1 hb12 hb13
    go_wp2_with fail
    go_ret
    exact ⟨rfl, by (repeat (with_reducible first | exact Below.refl _ _ | assumption | refine Below.drewN _ ?_ | refine Below.drew ?_ | refine Below_alloc ?_ _ | refine Below.alloc ?_ (by first | (simp; done) | (simp; omega) | omega) _ | refine Below.setCell ?_ (by first | (simp; done) | (simp; omega) | omega) _ | refine Below_call ?_ (by assumption) | refine Below.trans ?_ (by assumption)))⟩

set_option maxRecDepth 100000 in
set_option maxHeartbeats 16000000 in
theorem law_Reached_E10 (px py pz tm tk lo hi li ea la no mi sx sy sz qx qy qz t EM XN XD RN RD FV : Int) (R : Bool) (hXN : XN = 0) (hXD : XD = 0) (w : World)
    (HC : Hid (∀ W, Calls Try.prog 14 #[.agg #[.int .i64 px, .int .i64 py, .int .i64 pz, .int .i64 tm, .int .i64 tk, .int .i64 lo, .int .i64 hi, .int .i64 li, .int .i64 ea, .int .i64 la, .int .i64 no, .int .i64 mi]] W fun e w' => e = .returned (.int .i64 EM) ∧ Below W.heap.size W w'))
    (RM : Hid (∀ W, Calls Try.prog 18 #[.agg #[.int .i64 px, .int .i64 py, .int .i64 pz, .int .i64 tm, .int .i64 tk, .int .i64 lo, .int .i64 hi, .int .i64 li, .int .i64 ea, .int .i64 la, .int .i64 no, .int .i64 mi]] W fun e w' => e = .returned (.int .i64 EM) ∧ Below W.heap.size W w'))
    (HR : Hid (∀ W, Calls Try.prog 15 #[.agg #[.int .i64 px, .int .i64 py, .int .i64 pz, .int .i64 tm, .int .i64 tk, .int .i64 lo, .int .i64 hi, .int .i64 li, .int .i64 ea, .int .i64 la, .int .i64 no, .int .i64 mi], .agg #[.int .i64 sx, .int .i64 sy, .int .i64 sz], .agg #[.int .i64 qx, .int .i64 qy, .int .i64 qz, .int .i64 t]] W fun e w' => e = .returned (.tuple #[.bool R, .int .i64 0]) ∧ Below W.heap.size W w'))
    (HF : Hid (∀ W, Calls Try.prog 16 #[.agg #[.int .i64 px, .int .i64 py, .int .i64 pz, .int .i64 tm, .int .i64 tk, .int .i64 lo, .int .i64 hi, .int .i64 li, .int .i64 ea, .int .i64 la, .int .i64 no, .int .i64 mi], .agg #[.int .i64 sx, .int .i64 sy, .int .i64 sz], .agg #[.int .i64 qx, .int .i64 qy, .int .i64 qz]] W fun e w' => e = .returned (.tuple #[.int .i64 FV, .int .i64 0]) ∧ Below W.heap.size W w'))
    (HN : Hid (∀ W, Calls Try.prog 17 #[.agg #[.int .i64 px, .int .i64 py, .int .i64 pz, .int .i64 tm, .int .i64 tk, .int .i64 lo, .int .i64 hi, .int .i64 li, .int .i64 ea, .int .i64 la, .int .i64 no, .int .i64 mi], .agg #[.int .i64 sx, .int .i64 sy, .int .i64 sz], .agg #[.int .i64 qx, .int .i64 qy, .int .i64 qz]] W fun e w' => e = .returned (.tuple #[.agg #[.int .i64 XN, .int .i64 XD], .int .i64 8]) ∧ Below W.heap.size W w'))
    (RB : Hid (∀ W, Calls Try.prog 19 #[.agg #[.int .i64 px, .int .i64 py, .int .i64 pz, .int .i64 tm, .int .i64 tk, .int .i64 lo, .int .i64 hi, .int .i64 li, .int .i64 ea, .int .i64 la, .int .i64 no, .int .i64 mi], .agg #[.int .i64 sx, .int .i64 sy, .int .i64 sz]] W fun e w' => e = .returned (.int .i64 0) ∧ Below W.heap.size W w'))
    (RMo : Hid (∀ W, Calls Try.prog 20 #[.agg #[.int .i64 qx, .int .i64 qy, .int .i64 qz, .int .i64 t]] W fun e w' => e = .returned (.int .i64 0) ∧ Below W.heap.size W w'))
    (RP : Hid (∀ W, Calls Try.prog 21 #[.agg #[.int .i64 qx, .int .i64 qy, .int .i64 qz]] W fun e w' => e = .returned (.int .i64 0) ∧ Below W.heap.size W w'))
    (RR : Hid (∀ W, Calls Try.prog 22 #[.agg #[.int .i64 px, .int .i64 py, .int .i64 pz, .int .i64 tm, .int .i64 tk, .int .i64 lo, .int .i64 hi, .int .i64 li, .int .i64 ea, .int .i64 la, .int .i64 no, .int .i64 mi], .agg #[.int .i64 sx, .int .i64 sy, .int .i64 sz], .agg #[.int .i64 qx, .int .i64 qy, .int .i64 qz], .int .i64 t] W fun e w' => e = .returned (.bool R) ∧ Below W.heap.size W w'))
    (RF : Hid (∀ W, Calls Try.prog 23 #[.agg #[.int .i64 px, .int .i64 py, .int .i64 pz, .int .i64 tm, .int .i64 tk, .int .i64 lo, .int .i64 hi, .int .i64 li, .int .i64 ea, .int .i64 la, .int .i64 no, .int .i64 mi], .agg #[.int .i64 sx, .int .i64 sy, .int .i64 sz], .agg #[.int .i64 qx, .int .i64 qy, .int .i64 qz]] W fun e w' => e = .returned (.tuple #[.int .i64 FV, .bool true]) ∧ Below W.heap.size W w'))
    (RNE : Hid (∀ W, Calls Try.prog 25 #[.agg #[.int .i64 px, .int .i64 py, .int .i64 pz, .int .i64 tm, .int .i64 tk, .int .i64 lo, .int .i64 hi, .int .i64 li, .int .i64 ea, .int .i64 la, .int .i64 no, .int .i64 mi], .agg #[.int .i64 sx, .int .i64 sy, .int .i64 sz], .agg #[.int .i64 qx, .int .i64 qy, .int .i64 qz]] W (RetRat W RN RD (fun _ => True))))
    (RFR : Hid (∀ W v, RatAt W v RN RD (fun _ => True) → Calls Try.prog 24 #[v] W fun e w' => e = .returned (.tuple #[.agg #[.int .i64 0, .int .i64 0], .bool false]) ∧ Below W.heap.size W w'))
    : Calls Try.prog 3 #[.agg #[.int .i64 px, .int .i64 py, .int .i64 pz, .int .i64 tm, .int .i64 tk, .int .i64 lo, .int .i64 hi, .int .i64 li, .int .i64 ea, .int .i64 la, .int .i64 no, .int .i64 mi], .agg #[.int .i64 sx, .int .i64 sy, .int .i64 sz], .agg #[.int .i64 qx, .int .i64 qy, .int .i64 qz, .int .i64 t]] w fun e w' => e = .returned (.bool true) ∧ Below w.heap.size w w' := by
  have HA := hid law_awake5
  obtain ⟨W0, hW0⟩ : ∃ W0, W0 = ((w.alloc (.cells #[.int .i64 px, .int .i64 py, .int .i64 pz, .int .i64 tm, .int .i64 tk, .int .i64 lo, .int .i64 hi, .int .i64 li, .int .i64 ea, .int .i64 la, .int .i64 no, .int .i64 mi] 26)).alloc (.cells #[.int .i64 sx, .int .i64 sy, .int .i64 sz] 22)).alloc (.cells #[.int .i64 qx, .int .i64 qy, .int .i64 qz, .int .i64 t] 28) := ⟨_, rfl⟩
  have hbW0 : Below w.heap.size w W0 := by rw [hW0]; (repeat (with_reducible first | exact Below.refl _ _ | assumption | refine Below.drewN _ ?_ | refine Below.drew ?_ | refine Below_alloc ?_ _ | refine Below.alloc ?_ (by first | (simp; done) | (simp; omega) | omega) _ | refine Below.setCell ?_ (by first | (simp; done) | (simp; omega) | omega) _ | refine Below_call ?_ (by assumption) | refine Below.trans ?_ (by assumption)))
  obtain ⟨q0, q1, q2⟩ := al3 w _ _ _ _ _ _ W0 hW0
  have l0 := (Array.getElem?_eq_some_iff.1 q0).1
  have l1 := (Array.getElem?_eq_some_iff.1 q1).1
  have l2 := (Array.getElem?_eq_some_iff.1 q2).1
  have Q0 := hid q0
  have Q1 := hid q1
  have Q2 := hid q2
  have hzW0 := hbW0.size
  clear q0 q1 q2
  subst hXN
  subst hXD
  go_enter Try.func3, Try.ntmps3
  go_wp2_with fail
  rw [← hW0]
  refine (HA.out _).mono ?_
  rintro _ w1 ⟨rfl, hb1⟩
  clear hW0
  have hb01 : Below W0.heap.size W0 w1 := hb1
  obtain ⟨m0, m1, m2, m3, m4, m5, m6, m7, m8, m9, m10, m11, ml⟩ := tw_cells ((hb01.block w.heap.size l0).trans Q0.out)
  obtain ⟨s0, s1, s2, fs0, fs1, fs2, hls⟩ := three_cells ((hb01.block (w.heap.size + 1) l1).trans Q1.out)
  obtain ⟨p0, p1, p2, p3, hlp⟩ := four_row ((hb01.block (w.heap.size + 1 + 1) l2).trans Q2.out)
  clear fs0 fs1 fs2
  have hbf1 : Below w.heap.size w w1 := hbW0.trans (hb01.mono hzW0)
  go_wp2_with fail
  refine (HC.out _).mono ?_
  rintro _ w2 ⟨rfl, hb2⟩
  have hb02 : Below W0.heap.size W0 w2 := hb01.trans (hb2.mono hb01.size)
  clear m0 m1 m2 m3 m4 m5 m6 m7 m8 m9 m10 m11 ml s0 s1 s2 hls p0 p1 p2 p3 hlp
  obtain ⟨m0, m1, m2, m3, m4, m5, m6, m7, m8, m9, m10, m11, ml⟩ := tw_cells ((hb02.block w.heap.size l0).trans Q0.out)
  obtain ⟨s0, s1, s2, fs0, fs1, fs2, hls⟩ := three_cells ((hb02.block (w.heap.size + 1) l1).trans Q1.out)
  obtain ⟨p0, p1, p2, p3, hlp⟩ := four_row ((hb02.block (w.heap.size + 1 + 1) l2).trans Q2.out)
  clear fs0 fs1 fs2
  have hbf2 : Below w.heap.size w w2 := hbW0.trans (hb02.mono hzW0)
  clear hbf1
  go_wp2_with fail
  refine (HR.out _).mono ?_
  rintro _ w3 ⟨rfl, hb3⟩
  have hb03 : Below W0.heap.size W0 w3 := hb02.trans (hb3.mono hb02.size)
  clear m0 m1 m2 m3 m4 m5 m6 m7 m8 m9 m10 m11 ml s0 s1 s2 hls p0 p1 p2 p3 hlp
  obtain ⟨m0, m1, m2, m3, m4, m5, m6, m7, m8, m9, m10, m11, ml⟩ := tw_cells ((hb03.block w.heap.size l0).trans Q0.out)
  obtain ⟨s0, s1, s2, fs0, fs1, fs2, hls⟩ := three_cells ((hb03.block (w.heap.size + 1) l1).trans Q1.out)
  obtain ⟨p0, p1, p2, p3, hlp⟩ := four_row ((hb03.block (w.heap.size + 1 + 1) l2).trans Q2.out)
  clear fs0 fs1 fs2
  have hbf3 : Below w.heap.size w w3 := hbW0.trans (hb03.mono hzW0)
  clear hbf2
  go_wp2_with fail
  refine (HF.out _).mono ?_
  rintro _ w5 ⟨rfl, hb5⟩
  have hb05 : Below W0.heap.size W0 w5 := hb03.trans (hb5.mono hb03.size)
  clear m0 m1 m2 m3 m4 m5 m6 m7 m8 m9 m10 m11 ml s0 s1 s2 hls p0 p1 p2 p3 hlp
  obtain ⟨m0, m1, m2, m3, m4, m5, m6, m7, m8, m9, m10, m11, ml⟩ := tw_cells ((hb05.block w.heap.size l0).trans Q0.out)
  obtain ⟨s0, s1, s2, fs0, fs1, fs2, hls⟩ := three_cells ((hb05.block (w.heap.size + 1) l1).trans Q1.out)
  obtain ⟨p0, p1, p2, p3, hlp⟩ := four_row ((hb05.block (w.heap.size + 1 + 1) l2).trans Q2.out)
  clear fs0 fs1 fs2
  have hbf5 : Below w.heap.size w w5 := hbW0.trans (hb05.mono hzW0)
  clear hbf3
  go_wp2_with fail
  refine (HN.out _).mono ?_
  rintro _ w4 ⟨rfl, hb4⟩
  have hb04 : Below W0.heap.size W0 w4 := hb05.trans (hb4.mono hb05.size)
  clear m0 m1 m2 m3 m4 m5 m6 m7 m8 m9 m10 m11 ml s0 s1 s2 hls p0 p1 p2 p3 hlp
  obtain ⟨m0, m1, m2, m3, m4, m5, m6, m7, m8, m9, m10, m11, ml⟩ := tw_cells ((hb04.block w.heap.size l0).trans Q0.out)
  obtain ⟨s0, s1, s2, fs0, fs1, fs2, hls⟩ := three_cells ((hb04.block (w.heap.size + 1) l1).trans Q1.out)
  obtain ⟨p0, p1, p2, p3, hlp⟩ := four_row ((hb04.block (w.heap.size + 1 + 1) l2).trans Q2.out)
  clear fs0 fs1 fs2
  have hbf4 : Below w.heap.size w w4 := hbW0.trans (hb04.mono hzW0)
  clear hbf5
  obtain ⟨X, hX⟩ : ∃ X, X = w4.alloc (.cells #[.int .i64 0, .int .i64 0] 37) := ⟨_, rfl⟩
  have hbX : Below w4.heap.size w4 X := by rw [hX]; (repeat (with_reducible first | exact Below.refl _ _ | assumption | refine Below.drewN _ ?_ | refine Below.drew ?_ | refine Below_alloc ?_ _ | refine Below.alloc ?_ (by first | (simp; done) | (simp; omega) | omega) _ | refine Below.setCell ?_ (by first | (simp; done) | (simp; omega) | omega) _ | refine Below_call ?_ (by assumption) | refine Below.trans ?_ (by assumption)))
  have RX := hid (show X.heap[w4.heap.size]? = some (.cells #[.int .i64 0, .int .i64 0] 37 (0, 0)) by rw [hX]; exact heap_alloc_new w4 _)
  have hb0X : Below W0.heap.size W0 X := hb04.trans (hbX.mono hb04.size)
  have hbfX : Below w.heap.size w X := hbW0.trans (hb0X.mono hzW0)
  have l0' : w.heap.size < w4.heap.size + 1 := Nat.lt_succ_of_lt ml
  go_wp2_with fail
  rw [← hX]
  clear hX l0'
  refine (RM.out _).mono ?_
  rintro _ w6 ⟨rfl, hb6⟩
  have hb06 : Below W0.heap.size W0 w6 := hb0X.trans (hb6.mono hb0X.size)
  clear m0 m1 m2 m3 m4 m5 m6 m7 m8 m9 m10 m11 ml s0 s1 s2 hls p0 p1 p2 p3 hlp
  have RX6 := hid ((hb6.block w4.heap.size (Array.getElem?_eq_some_iff.1 RX.out).1).trans RX.out)
  obtain ⟨n0, n1, fn0, fn1, hln⟩ := two_cells RX6.out
  clear fn0 fn1
  obtain ⟨m0, m1, m2, m3, m4, m5, m6, m7, m8, m9, m10, m11, ml⟩ := tw_cells ((hb06.block w.heap.size l0).trans Q0.out)
  obtain ⟨s0, s1, s2, fs0, fs1, fs2, hls⟩ := three_cells ((hb06.block (w.heap.size + 1) l1).trans Q1.out)
  obtain ⟨p0, p1, p2, p3, hlp⟩ := four_row ((hb06.block (w.heap.size + 1 + 1) l2).trans Q2.out)
  clear fs0 fs1 fs2
  have hbf6 : Below w.heap.size w w6 := hbW0.trans (hb06.mono hzW0)
  clear hbfX hbf4
  go_wp2_with fail
  refine (RB.out _).mono ?_
  rintro _ w7 ⟨rfl, hb7⟩
  have hb07 : Below W0.heap.size W0 w7 := hb06.trans (hb7.mono hb06.size)
  clear m0 m1 m2 m3 m4 m5 m6 m7 m8 m9 m10 m11 ml s0 s1 s2 hls p0 p1 p2 p3 hlp
  have RX7 := hid ((hb7.block w4.heap.size (Array.getElem?_eq_some_iff.1 RX6.out).1).trans RX6.out)
  clear n0 n1 hln
  obtain ⟨n0, n1, fn0, fn1, hln⟩ := two_cells RX7.out
  clear fn0 fn1
  obtain ⟨m0, m1, m2, m3, m4, m5, m6, m7, m8, m9, m10, m11, ml⟩ := tw_cells ((hb07.block w.heap.size l0).trans Q0.out)
  obtain ⟨s0, s1, s2, fs0, fs1, fs2, hls⟩ := three_cells ((hb07.block (w.heap.size + 1) l1).trans Q1.out)
  obtain ⟨p0, p1, p2, p3, hlp⟩ := four_row ((hb07.block (w.heap.size + 1 + 1) l2).trans Q2.out)
  clear fs0 fs1 fs2
  have hbf7 : Below w.heap.size w w7 := hbW0.trans (hb07.mono hzW0)
  clear hbf6
  go_wp2_with fail
  refine wp_mixC (fun wc => Below (w7.heap.size) w7 wc) 6 [.q [0, 2, 3], .f [1, 4], .q [5]] [.q [6]] (by kernel_rfl) (by kernel_rfl) ((Below.refl _ _).drew) ?_
  intro Q' hQ'
  (rw [wpMixC]; simp only [pick, List.drop_succ_cons, List.drop_zero, List.head?_cons, Option.toList_some, List.cons_append, List.nil_append])
  (repeat (first | go_big_quiet_skip | (go_big_quiet_want; refine quiet_simple rfl ?_; go_big_quiet_op; go_big_quiet_on) | (go_big_quiet_want; refine quiet_agg3B (ty := 22) rfl rfl (by kernel_rfl) (by assumption) (by assumption) (by assumption) (by first | omega | (simp; omega)) ?_; simp only [Act.put, List.setIfInBounds_toArray, List.set_cons_succ, List.set_cons_zero]; go_big_quiet_on) | (go_big_quiet_want; refine quiet_agg4B (ty := 28) rfl rfl (by kernel_rfl) (by assumption) (by assumption) (by assumption) (by assumption) (by first | omega | (simp; omega)) ?_; simp only [Act.put, List.setIfInBounds_toArray, List.set_cons_succ, List.set_cons_zero]; go_big_quiet_on)))
  (try refine wpQuiet_nil ?_)
  (rw [wpMixC]; simp only [pick, List.drop_succ_cons, List.drop_zero, List.head?_cons, Option.toList_some, List.cons_append, List.nil_append])
  (rw [wpSteps]; go_wp2_with ((go_at_call 20; ((with_reducible refine (RMo.out _).mono ?_); rintro _ w8 ⟨rfl, hb8⟩))); rw [contF]; refine ⟨?_, ?_⟩; (next => (repeat (with_reducible first | exact Below.refl _ _ | assumption | refine Below.drewN _ ?_ | refine Below.drew ?_ | refine Below_alloc ?_ _ | refine Below.alloc ?_ (by first | (simp; done) | (simp; omega) | omega) _ | refine Below.setCell ?_ (by first | (simp; done) | (simp; omega) | omega) _ | refine Below_call ?_ (by assumption) | refine Below.trans ?_ (by assumption)))))
  (rw [wpSteps]; go_wp2_with ((go_at_call 21; ((with_reducible refine (RP.out _).mono ?_); rintro _ w9 ⟨rfl, hb9⟩))); rw [contF]; refine ⟨?_, ?_⟩; (next => (repeat (with_reducible first | exact Below.refl _ _ | assumption | refine Below.drewN _ ?_ | refine Below.drew ?_ | refine Below_alloc ?_ _ | refine Below.alloc ?_ (by first | (simp; done) | (simp; omega) | omega) _ | refine Below.setCell ?_ (by first | (simp; done) | (simp; omega) | omega) _ | refine Below_call ?_ (by assumption) | refine Below.trans ?_ (by assumption)))))
  (rw [wpSteps])
  (rw [wpMixC]; simp only [pick, List.drop_succ_cons, List.drop_zero, List.head?_cons, Option.toList_some, List.cons_append, List.nil_append])
  (repeat (first | go_big_quiet_skip | (go_big_quiet_want; refine quiet_simple rfl ?_; go_big_quiet_op; go_big_quiet_on) | (go_big_quiet_want; refine quiet_agg3B (ty := 22) rfl rfl (by kernel_rfl) (by assumption) (by assumption) (by assumption) (by first | omega | (simp; omega)) ?_; simp only [Act.put, List.setIfInBounds_toArray, List.set_cons_succ, List.set_cons_zero]; go_big_quiet_on) | (go_big_quiet_want; refine quiet_agg4B (ty := 28) rfl rfl (by kernel_rfl) (by assumption) (by assumption) (by assumption) (by assumption) (by first | omega | (simp; omega)) ?_; simp only [Act.put, List.setIfInBounds_toArray, List.set_cons_succ, List.set_cons_zero]; go_big_quiet_on)))
  (try refine wpQuiet_nil ?_)
  (rw [wpMixC])
  (rw [wpMix]; simp only [pick, List.drop_succ_cons, List.drop_zero, List.head?_cons, Option.toList_some, List.cons_append, List.nil_append])
  (repeat (first | (go_big_quiet_step (fail)) | (quiet_step (fail))))
  (try refine wpQuiet_nil ?_)
  (rw [wpMix])
  (refine hQ' _ _ ?_)
  have hb79 : Below w7.heap.size w7 w9 := by (repeat (with_reducible first | exact Below.refl _ _ | assumption | refine Below.drewN _ ?_ | refine Below.drew ?_ | refine Below_alloc ?_ _ | refine Below.alloc ?_ (by first | (simp; done) | (simp; omega) | omega) _ | refine Below.setCell ?_ (by first | (simp; done) | (simp; omega) | omega) _ | refine Below_call ?_ (by assumption) | refine Below.trans ?_ (by assumption)))
  have hb09 : Below W0.heap.size W0 w9 := hb07.trans (hb79.mono hb07.size)
  clear m0 m1 m2 m3 m4 m5 m6 m7 m8 m9 m10 m11 ml s0 s1 s2 hls p0 p1 p2 p3 hlp
  have RX9 := hid ((hb79.block w4.heap.size (Array.getElem?_eq_some_iff.1 RX7.out).1).trans RX7.out)
  clear n0 n1 hln
  obtain ⟨n0, n1, fn0, fn1, hln⟩ := two_cells RX9.out
  clear fn0 fn1 hb8 hb9
  obtain ⟨m0, m1, m2, m3, m4, m5, m6, m7, m8, m9, m10, m11, ml⟩ := tw_cells ((hb09.block w.heap.size l0).trans Q0.out)
  obtain ⟨s0, s1, s2, fs0, fs1, fs2, hls⟩ := three_cells ((hb09.block (w.heap.size + 1) l1).trans Q1.out)
  obtain ⟨p0, p1, p2, p3, hlp⟩ := four_row ((hb09.block (w.heap.size + 1 + 1) l2).trans Q2.out)
  clear fs0 fs1 fs2
  have hbf9 : Below w.heap.size w w9 := hbW0.trans (hb09.mono hzW0)
  clear hbf7
  cases R
  all_goals
    go_wp2_with fail
    refine (RR.out _).mono ?_
    rintro _ w10 ⟨rfl, hb10⟩
    have hb010 : Below W0.heap.size W0 w10 := hb09.trans (hb10.mono hb09.size)
    clear m0 m1 m2 m3 m4 m5 m6 m7 m8 m9 m10 m11 ml s0 s1 s2 hls p0 p1 p2 p3 hlp
    have RX10 := hid ((hb10.block w4.heap.size (Array.getElem?_eq_some_iff.1 RX9.out).1).trans RX9.out)
    clear n0 n1 hln
    obtain ⟨n0, n1, fn0, fn1, hln⟩ := two_cells RX10.out
    clear fn0 fn1
    obtain ⟨m0, m1, m2, m3, m4, m5, m6, m7, m8, m9, m10, m11, ml⟩ := tw_cells ((hb010.block w.heap.size l0).trans Q0.out)
    obtain ⟨s0, s1, s2, fs0, fs1, fs2, hls⟩ := three_cells ((hb010.block (w.heap.size + 1) l1).trans Q1.out)
    obtain ⟨p0, p1, p2, p3, hlp⟩ := four_row ((hb010.block (w.heap.size + 1 + 1) l2).trans Q2.out)
    clear fs0 fs1 fs2
    have hbf10 : Below w.heap.size w w10 := hbW0.trans (hb010.mono hzW0)
    clear hbf9
    go_wp2_with fail
    refine (RF.out _).mono ?_
    rintro _ w11 ⟨rfl, hb11⟩
    have hb011 : Below W0.heap.size W0 w11 := hb010.trans (hb11.mono hb010.size)
    clear m0 m1 m2 m3 m4 m5 m6 m7 m8 m9 m10 m11 ml s0 s1 s2 hls p0 p1 p2 p3 hlp
    have RX11 := hid ((hb11.block w4.heap.size (Array.getElem?_eq_some_iff.1 RX10.out).1).trans RX10.out)
    clear n0 n1 hln
    obtain ⟨n0, n1, fn0, fn1, hln⟩ := two_cells RX11.out
    clear fn0 fn1
    obtain ⟨m0, m1, m2, m3, m4, m5, m6, m7, m8, m9, m10, m11, ml⟩ := tw_cells ((hb011.block w.heap.size l0).trans Q0.out)
    obtain ⟨s0, s1, s2, fs0, fs1, fs2, hls⟩ := three_cells ((hb011.block (w.heap.size + 1) l1).trans Q1.out)
    obtain ⟨p0, p1, p2, p3, hlp⟩ := four_row ((hb011.block (w.heap.size + 1 + 1) l2).trans Q2.out)
    clear fs0 fs1 fs2
    have hbf11 : Below w.heap.size w w11 := hbW0.trans (hb011.mono hzW0)
    clear hbf10
    go_wp2_with fail
    refine (RNE.out _).mono ?_
    rintro _ w12 ⟨rv, rfl, hrv, hb12⟩
    obtain ⟨ro, rn, rc, so, sn, sc, rfl, _, _⟩ := hrv.shape
    have HRV := hid hrv
    clear hrv
    have RX12 := hid ((hb12.block w4.heap.size (Array.getElem?_eq_some_iff.1 RX11.out).1).trans RX11.out)
    have hbf12 : Below w.heap.size w w12 := hbf11.trans (hb12.mono hbf11.size)
    clear m0 m1 m2 m3 m4 m5 m6 m7 m8 m9 m10 m11 ml s0 s1 s2 hls p0 p1 p2 p3 hlp n0 n1 hln
    go_wp2_with fail
    refine (RFR.out _ _ HRV.out).mono ?_
    rintro _ w13 ⟨rfl, hb13⟩
    have hbf13 : Below w.heap.size w w13 := hbf12.trans (hb13.mono hbf12.size)
    obtain ⟨n0, n1, fn0, fn1, hln⟩ := two_cells ((hb13.block w4.heap.size (Array.getElem?_eq_some_iff.1 RX12.out).1).trans RX12.out)
    have hln' : w4.heap.size < w13.heap.size + 1 := Nat.lt_succ_of_lt hln
    clear fn0 fn1 hb12 hb13
    go_wp2_with fail
    go_ret
    exact ⟨rfl, by (repeat (with_reducible first | exact Below.refl _ _ | assumption | refine Below.drewN _ ?_ | refine Below.drew ?_ | refine Below_alloc ?_ _ | refine Below.alloc ?_ (by first | (simp; done) | (simp; omega) | omega) _ | refine Below.setCell ?_ (by first | (simp; done) | (simp; omega) | omega) _ | refine Below_call ?_ (by assumption) | refine Below.trans ?_ (by assumption)))⟩

set_option maxRecDepth 100000 in
set_option maxHeartbeats 16000000 in
theorem law_Reached_E01 (px py pz tm tk lo hi li ea la no mi sx sy sz qx qy qz t EM XN XD RN RD : Int) (R : Bool) (w : World)
    (HC : Hid (∀ W, Calls Try.prog 14 #[.agg #[.int .i64 px, .int .i64 py, .int .i64 pz, .int .i64 tm, .int .i64 tk, .int .i64 lo, .int .i64 hi, .int .i64 li, .int .i64 ea, .int .i64 la, .int .i64 no, .int .i64 mi]] W fun e w' => e = .returned (.int .i64 EM) ∧ Below W.heap.size W w'))
    (RM : Hid (∀ W, Calls Try.prog 18 #[.agg #[.int .i64 px, .int .i64 py, .int .i64 pz, .int .i64 tm, .int .i64 tk, .int .i64 lo, .int .i64 hi, .int .i64 li, .int .i64 ea, .int .i64 la, .int .i64 no, .int .i64 mi]] W fun e w' => e = .returned (.int .i64 EM) ∧ Below W.heap.size W w'))
    (HR : Hid (∀ W, Calls Try.prog 15 #[.agg #[.int .i64 px, .int .i64 py, .int .i64 pz, .int .i64 tm, .int .i64 tk, .int .i64 lo, .int .i64 hi, .int .i64 li, .int .i64 ea, .int .i64 la, .int .i64 no, .int .i64 mi], .agg #[.int .i64 sx, .int .i64 sy, .int .i64 sz], .agg #[.int .i64 qx, .int .i64 qy, .int .i64 qz, .int .i64 t]] W fun e w' => e = .returned (.tuple #[.bool R, .int .i64 0]) ∧ Below W.heap.size W w'))
    (HF : Hid (∀ W, Calls Try.prog 16 #[.agg #[.int .i64 px, .int .i64 py, .int .i64 pz, .int .i64 tm, .int .i64 tk, .int .i64 lo, .int .i64 hi, .int .i64 li, .int .i64 ea, .int .i64 la, .int .i64 no, .int .i64 mi], .agg #[.int .i64 sx, .int .i64 sy, .int .i64 sz], .agg #[.int .i64 qx, .int .i64 qy, .int .i64 qz]] W fun e w' => e = .returned (.tuple #[.int .i64 0, .int .i64 8]) ∧ Below W.heap.size W w'))
    (HN : Hid (∀ W, Calls Try.prog 17 #[.agg #[.int .i64 px, .int .i64 py, .int .i64 pz, .int .i64 tm, .int .i64 tk, .int .i64 lo, .int .i64 hi, .int .i64 li, .int .i64 ea, .int .i64 la, .int .i64 no, .int .i64 mi], .agg #[.int .i64 sx, .int .i64 sy, .int .i64 sz], .agg #[.int .i64 qx, .int .i64 qy, .int .i64 qz]] W fun e w' => e = .returned (.tuple #[.agg #[.int .i64 XN, .int .i64 XD], .int .i64 0]) ∧ Below W.heap.size W w'))
    (RB : Hid (∀ W, Calls Try.prog 19 #[.agg #[.int .i64 px, .int .i64 py, .int .i64 pz, .int .i64 tm, .int .i64 tk, .int .i64 lo, .int .i64 hi, .int .i64 li, .int .i64 ea, .int .i64 la, .int .i64 no, .int .i64 mi], .agg #[.int .i64 sx, .int .i64 sy, .int .i64 sz]] W fun e w' => e = .returned (.int .i64 0) ∧ Below W.heap.size W w'))
    (RMo : Hid (∀ W, Calls Try.prog 20 #[.agg #[.int .i64 qx, .int .i64 qy, .int .i64 qz, .int .i64 t]] W fun e w' => e = .returned (.int .i64 0) ∧ Below W.heap.size W w'))
    (RP : Hid (∀ W, Calls Try.prog 21 #[.agg #[.int .i64 qx, .int .i64 qy, .int .i64 qz]] W fun e w' => e = .returned (.int .i64 0) ∧ Below W.heap.size W w'))
    (RR : Hid (∀ W, Calls Try.prog 22 #[.agg #[.int .i64 px, .int .i64 py, .int .i64 pz, .int .i64 tm, .int .i64 tk, .int .i64 lo, .int .i64 hi, .int .i64 li, .int .i64 ea, .int .i64 la, .int .i64 no, .int .i64 mi], .agg #[.int .i64 sx, .int .i64 sy, .int .i64 sz], .agg #[.int .i64 qx, .int .i64 qy, .int .i64 qz], .int .i64 t] W fun e w' => e = .returned (.bool R) ∧ Below W.heap.size W w'))
    (RF : Hid (∀ W, Calls Try.prog 23 #[.agg #[.int .i64 px, .int .i64 py, .int .i64 pz, .int .i64 tm, .int .i64 tk, .int .i64 lo, .int .i64 hi, .int .i64 li, .int .i64 ea, .int .i64 la, .int .i64 no, .int .i64 mi], .agg #[.int .i64 sx, .int .i64 sy, .int .i64 sz], .agg #[.int .i64 qx, .int .i64 qy, .int .i64 qz]] W fun e w' => e = .returned (.tuple #[.int .i64 0, .bool false]) ∧ Below W.heap.size W w'))
    (RNE : Hid (∀ W, Calls Try.prog 25 #[.agg #[.int .i64 px, .int .i64 py, .int .i64 pz, .int .i64 tm, .int .i64 tk, .int .i64 lo, .int .i64 hi, .int .i64 li, .int .i64 ea, .int .i64 la, .int .i64 no, .int .i64 mi], .agg #[.int .i64 sx, .int .i64 sy, .int .i64 sz], .agg #[.int .i64 qx, .int .i64 qy, .int .i64 qz]] W (RetRat W RN RD (fun _ => True))))
    (RFR : Hid (∀ W v, RatAt W v RN RD (fun _ => True) → Calls Try.prog 24 #[v] W fun e w' => e = .returned (.tuple #[.agg #[.int .i64 XN, .int .i64 XD], .bool true]) ∧ Below W.heap.size W w'))
    : Calls Try.prog 3 #[.agg #[.int .i64 px, .int .i64 py, .int .i64 pz, .int .i64 tm, .int .i64 tk, .int .i64 lo, .int .i64 hi, .int .i64 li, .int .i64 ea, .int .i64 la, .int .i64 no, .int .i64 mi], .agg #[.int .i64 sx, .int .i64 sy, .int .i64 sz], .agg #[.int .i64 qx, .int .i64 qy, .int .i64 qz, .int .i64 t]] w fun e w' => e = .returned (.bool true) ∧ Below w.heap.size w w' := by
  have HA := hid law_awake5
  obtain ⟨W0, hW0⟩ : ∃ W0, W0 = ((w.alloc (.cells #[.int .i64 px, .int .i64 py, .int .i64 pz, .int .i64 tm, .int .i64 tk, .int .i64 lo, .int .i64 hi, .int .i64 li, .int .i64 ea, .int .i64 la, .int .i64 no, .int .i64 mi] 26)).alloc (.cells #[.int .i64 sx, .int .i64 sy, .int .i64 sz] 22)).alloc (.cells #[.int .i64 qx, .int .i64 qy, .int .i64 qz, .int .i64 t] 28) := ⟨_, rfl⟩
  have hbW0 : Below w.heap.size w W0 := by rw [hW0]; (repeat (with_reducible first | exact Below.refl _ _ | assumption | refine Below.drewN _ ?_ | refine Below.drew ?_ | refine Below_alloc ?_ _ | refine Below.alloc ?_ (by first | (simp; done) | (simp; omega) | omega) _ | refine Below.setCell ?_ (by first | (simp; done) | (simp; omega) | omega) _ | refine Below_call ?_ (by assumption) | refine Below.trans ?_ (by assumption)))
  obtain ⟨q0, q1, q2⟩ := al3 w _ _ _ _ _ _ W0 hW0
  have l0 := (Array.getElem?_eq_some_iff.1 q0).1
  have l1 := (Array.getElem?_eq_some_iff.1 q1).1
  have l2 := (Array.getElem?_eq_some_iff.1 q2).1
  have Q0 := hid q0
  have Q1 := hid q1
  have Q2 := hid q2
  have hzW0 := hbW0.size
  clear q0 q1 q2
  go_enter Try.func3, Try.ntmps3
  go_wp2_with fail
  rw [← hW0]
  refine (HA.out _).mono ?_
  rintro _ w1 ⟨rfl, hb1⟩
  clear hW0
  have hb01 : Below W0.heap.size W0 w1 := hb1
  obtain ⟨m0, m1, m2, m3, m4, m5, m6, m7, m8, m9, m10, m11, ml⟩ := tw_cells ((hb01.block w.heap.size l0).trans Q0.out)
  obtain ⟨s0, s1, s2, fs0, fs1, fs2, hls⟩ := three_cells ((hb01.block (w.heap.size + 1) l1).trans Q1.out)
  obtain ⟨p0, p1, p2, p3, hlp⟩ := four_row ((hb01.block (w.heap.size + 1 + 1) l2).trans Q2.out)
  clear fs0 fs1 fs2
  have hbf1 : Below w.heap.size w w1 := hbW0.trans (hb01.mono hzW0)
  go_wp2_with fail
  refine (HC.out _).mono ?_
  rintro _ w2 ⟨rfl, hb2⟩
  have hb02 : Below W0.heap.size W0 w2 := hb01.trans (hb2.mono hb01.size)
  clear m0 m1 m2 m3 m4 m5 m6 m7 m8 m9 m10 m11 ml s0 s1 s2 hls p0 p1 p2 p3 hlp
  obtain ⟨m0, m1, m2, m3, m4, m5, m6, m7, m8, m9, m10, m11, ml⟩ := tw_cells ((hb02.block w.heap.size l0).trans Q0.out)
  obtain ⟨s0, s1, s2, fs0, fs1, fs2, hls⟩ := three_cells ((hb02.block (w.heap.size + 1) l1).trans Q1.out)
  obtain ⟨p0, p1, p2, p3, hlp⟩ := four_row ((hb02.block (w.heap.size + 1 + 1) l2).trans Q2.out)
  clear fs0 fs1 fs2
  have hbf2 : Below w.heap.size w w2 := hbW0.trans (hb02.mono hzW0)
  clear hbf1
  go_wp2_with fail
  refine (HR.out _).mono ?_
  rintro _ w3 ⟨rfl, hb3⟩
  have hb03 : Below W0.heap.size W0 w3 := hb02.trans (hb3.mono hb02.size)
  clear m0 m1 m2 m3 m4 m5 m6 m7 m8 m9 m10 m11 ml s0 s1 s2 hls p0 p1 p2 p3 hlp
  obtain ⟨m0, m1, m2, m3, m4, m5, m6, m7, m8, m9, m10, m11, ml⟩ := tw_cells ((hb03.block w.heap.size l0).trans Q0.out)
  obtain ⟨s0, s1, s2, fs0, fs1, fs2, hls⟩ := three_cells ((hb03.block (w.heap.size + 1) l1).trans Q1.out)
  obtain ⟨p0, p1, p2, p3, hlp⟩ := four_row ((hb03.block (w.heap.size + 1 + 1) l2).trans Q2.out)
  clear fs0 fs1 fs2
  have hbf3 : Below w.heap.size w w3 := hbW0.trans (hb03.mono hzW0)
  clear hbf2
  go_wp2_with fail
  refine (HF.out _).mono ?_
  rintro _ w5 ⟨rfl, hb5⟩
  have hb05 : Below W0.heap.size W0 w5 := hb03.trans (hb5.mono hb03.size)
  clear m0 m1 m2 m3 m4 m5 m6 m7 m8 m9 m10 m11 ml s0 s1 s2 hls p0 p1 p2 p3 hlp
  obtain ⟨m0, m1, m2, m3, m4, m5, m6, m7, m8, m9, m10, m11, ml⟩ := tw_cells ((hb05.block w.heap.size l0).trans Q0.out)
  obtain ⟨s0, s1, s2, fs0, fs1, fs2, hls⟩ := three_cells ((hb05.block (w.heap.size + 1) l1).trans Q1.out)
  obtain ⟨p0, p1, p2, p3, hlp⟩ := four_row ((hb05.block (w.heap.size + 1 + 1) l2).trans Q2.out)
  clear fs0 fs1 fs2
  have hbf5 : Below w.heap.size w w5 := hbW0.trans (hb05.mono hzW0)
  clear hbf3
  go_wp2_with fail
  refine (HN.out _).mono ?_
  rintro _ w4 ⟨rfl, hb4⟩
  have hb04 : Below W0.heap.size W0 w4 := hb05.trans (hb4.mono hb05.size)
  clear m0 m1 m2 m3 m4 m5 m6 m7 m8 m9 m10 m11 ml s0 s1 s2 hls p0 p1 p2 p3 hlp
  obtain ⟨m0, m1, m2, m3, m4, m5, m6, m7, m8, m9, m10, m11, ml⟩ := tw_cells ((hb04.block w.heap.size l0).trans Q0.out)
  obtain ⟨s0, s1, s2, fs0, fs1, fs2, hls⟩ := three_cells ((hb04.block (w.heap.size + 1) l1).trans Q1.out)
  obtain ⟨p0, p1, p2, p3, hlp⟩ := four_row ((hb04.block (w.heap.size + 1 + 1) l2).trans Q2.out)
  clear fs0 fs1 fs2
  have hbf4 : Below w.heap.size w w4 := hbW0.trans (hb04.mono hzW0)
  clear hbf5
  obtain ⟨X, hX⟩ : ∃ X, X = w4.alloc (.cells #[.int .i64 XN, .int .i64 XD] 37) := ⟨_, rfl⟩
  have hbX : Below w4.heap.size w4 X := by rw [hX]; (repeat (with_reducible first | exact Below.refl _ _ | assumption | refine Below.drewN _ ?_ | refine Below.drew ?_ | refine Below_alloc ?_ _ | refine Below.alloc ?_ (by first | (simp; done) | (simp; omega) | omega) _ | refine Below.setCell ?_ (by first | (simp; done) | (simp; omega) | omega) _ | refine Below_call ?_ (by assumption) | refine Below.trans ?_ (by assumption)))
  have RX := hid (show X.heap[w4.heap.size]? = some (.cells #[.int .i64 XN, .int .i64 XD] 37 (0, 0)) by rw [hX]; exact heap_alloc_new w4 _)
  have hb0X : Below W0.heap.size W0 X := hb04.trans (hbX.mono hb04.size)
  have hbfX : Below w.heap.size w X := hbW0.trans (hb0X.mono hzW0)
  have l0' : w.heap.size < w4.heap.size + 1 := Nat.lt_succ_of_lt ml
  go_wp2_with fail
  rw [← hX]
  clear hX l0'
  refine (RM.out _).mono ?_
  rintro _ w6 ⟨rfl, hb6⟩
  have hb06 : Below W0.heap.size W0 w6 := hb0X.trans (hb6.mono hb0X.size)
  clear m0 m1 m2 m3 m4 m5 m6 m7 m8 m9 m10 m11 ml s0 s1 s2 hls p0 p1 p2 p3 hlp
  have RX6 := hid ((hb6.block w4.heap.size (Array.getElem?_eq_some_iff.1 RX.out).1).trans RX.out)
  obtain ⟨n0, n1, fn0, fn1, hln⟩ := two_cells RX6.out
  clear fn0 fn1
  obtain ⟨m0, m1, m2, m3, m4, m5, m6, m7, m8, m9, m10, m11, ml⟩ := tw_cells ((hb06.block w.heap.size l0).trans Q0.out)
  obtain ⟨s0, s1, s2, fs0, fs1, fs2, hls⟩ := three_cells ((hb06.block (w.heap.size + 1) l1).trans Q1.out)
  obtain ⟨p0, p1, p2, p3, hlp⟩ := four_row ((hb06.block (w.heap.size + 1 + 1) l2).trans Q2.out)
  clear fs0 fs1 fs2
  have hbf6 : Below w.heap.size w w6 := hbW0.trans (hb06.mono hzW0)
  clear hbfX hbf4
  go_wp2_with fail
  refine (RB.out _).mono ?_
  rintro _ w7 ⟨rfl, hb7⟩
  have hb07 : Below W0.heap.size W0 w7 := hb06.trans (hb7.mono hb06.size)
  clear m0 m1 m2 m3 m4 m5 m6 m7 m8 m9 m10 m11 ml s0 s1 s2 hls p0 p1 p2 p3 hlp
  have RX7 := hid ((hb7.block w4.heap.size (Array.getElem?_eq_some_iff.1 RX6.out).1).trans RX6.out)
  clear n0 n1 hln
  obtain ⟨n0, n1, fn0, fn1, hln⟩ := two_cells RX7.out
  clear fn0 fn1
  obtain ⟨m0, m1, m2, m3, m4, m5, m6, m7, m8, m9, m10, m11, ml⟩ := tw_cells ((hb07.block w.heap.size l0).trans Q0.out)
  obtain ⟨s0, s1, s2, fs0, fs1, fs2, hls⟩ := three_cells ((hb07.block (w.heap.size + 1) l1).trans Q1.out)
  obtain ⟨p0, p1, p2, p3, hlp⟩ := four_row ((hb07.block (w.heap.size + 1 + 1) l2).trans Q2.out)
  clear fs0 fs1 fs2
  have hbf7 : Below w.heap.size w w7 := hbW0.trans (hb07.mono hzW0)
  clear hbf6
  go_wp2_with fail
  refine wp_mixC (fun wc => Below (w7.heap.size) w7 wc) 6 [.q [0, 2, 3], .f [1, 4], .q [5]] [.q [6]] (by kernel_rfl) (by kernel_rfl) ((Below.refl _ _).drew) ?_
  intro Q' hQ'
  (rw [wpMixC]; simp only [pick, List.drop_succ_cons, List.drop_zero, List.head?_cons, Option.toList_some, List.cons_append, List.nil_append])
  (repeat (first | go_big_quiet_skip | (go_big_quiet_want; refine quiet_simple rfl ?_; go_big_quiet_op; go_big_quiet_on) | (go_big_quiet_want; refine quiet_agg3B (ty := 22) rfl rfl (by kernel_rfl) (by assumption) (by assumption) (by assumption) (by first | omega | (simp; omega)) ?_; simp only [Act.put, List.setIfInBounds_toArray, List.set_cons_succ, List.set_cons_zero]; go_big_quiet_on) | (go_big_quiet_want; refine quiet_agg4B (ty := 28) rfl rfl (by kernel_rfl) (by assumption) (by assumption) (by assumption) (by assumption) (by first | omega | (simp; omega)) ?_; simp only [Act.put, List.setIfInBounds_toArray, List.set_cons_succ, List.set_cons_zero]; go_big_quiet_on)))
  (try refine wpQuiet_nil ?_)
  (rw [wpMixC]; simp only [pick, List.drop_succ_cons, List.drop_zero, List.head?_cons, Option.toList_some, List.cons_append, List.nil_append])
  (rw [wpSteps]; go_wp2_with ((go_at_call 20; ((with_reducible refine (RMo.out _).mono ?_); rintro _ w8 ⟨rfl, hb8⟩))); rw [contF]; refine ⟨?_, ?_⟩; (next => (repeat (with_reducible first | exact Below.refl _ _ | assumption | refine Below.drewN _ ?_ | refine Below.drew ?_ | refine Below_alloc ?_ _ | refine Below.alloc ?_ (by first | (simp; done) | (simp; omega) | omega) _ | refine Below.setCell ?_ (by first | (simp; done) | (simp; omega) | omega) _ | refine Below_call ?_ (by assumption) | refine Below.trans ?_ (by assumption)))))
  (rw [wpSteps]; go_wp2_with ((go_at_call 21; ((with_reducible refine (RP.out _).mono ?_); rintro _ w9 ⟨rfl, hb9⟩))); rw [contF]; refine ⟨?_, ?_⟩; (next => (repeat (with_reducible first | exact Below.refl _ _ | assumption | refine Below.drewN _ ?_ | refine Below.drew ?_ | refine Below_alloc ?_ _ | refine Below.alloc ?_ (by first | (simp; done) | (simp; omega) | omega) _ | refine Below.setCell ?_ (by first | (simp; done) | (simp; omega) | omega) _ | refine Below_call ?_ (by assumption) | refine Below.trans ?_ (by assumption)))))
  (rw [wpSteps])
  (rw [wpMixC]; simp only [pick, List.drop_succ_cons, List.drop_zero, List.head?_cons, Option.toList_some, List.cons_append, List.nil_append])
  (repeat (first | go_big_quiet_skip | (go_big_quiet_want; refine quiet_simple rfl ?_; go_big_quiet_op; go_big_quiet_on) | (go_big_quiet_want; refine quiet_agg3B (ty := 22) rfl rfl (by kernel_rfl) (by assumption) (by assumption) (by assumption) (by first | omega | (simp; omega)) ?_; simp only [Act.put, List.setIfInBounds_toArray, List.set_cons_succ, List.set_cons_zero]; go_big_quiet_on) | (go_big_quiet_want; refine quiet_agg4B (ty := 28) rfl rfl (by kernel_rfl) (by assumption) (by assumption) (by assumption) (by assumption) (by first | omega | (simp; omega)) ?_; simp only [Act.put, List.setIfInBounds_toArray, List.set_cons_succ, List.set_cons_zero]; go_big_quiet_on)))
  (try refine wpQuiet_nil ?_)
  (rw [wpMixC])
  (rw [wpMix]; simp only [pick, List.drop_succ_cons, List.drop_zero, List.head?_cons, Option.toList_some, List.cons_append, List.nil_append])
  (repeat (first | (go_big_quiet_step (fail)) | (quiet_step (fail))))
  (try refine wpQuiet_nil ?_)
  (rw [wpMix])
  (refine hQ' _ _ ?_)
  have hb79 : Below w7.heap.size w7 w9 := by (repeat (with_reducible first | exact Below.refl _ _ | assumption | refine Below.drewN _ ?_ | refine Below.drew ?_ | refine Below_alloc ?_ _ | refine Below.alloc ?_ (by first | (simp; done) | (simp; omega) | omega) _ | refine Below.setCell ?_ (by first | (simp; done) | (simp; omega) | omega) _ | refine Below_call ?_ (by assumption) | refine Below.trans ?_ (by assumption)))
  have hb09 : Below W0.heap.size W0 w9 := hb07.trans (hb79.mono hb07.size)
  clear m0 m1 m2 m3 m4 m5 m6 m7 m8 m9 m10 m11 ml s0 s1 s2 hls p0 p1 p2 p3 hlp
  have RX9 := hid ((hb79.block w4.heap.size (Array.getElem?_eq_some_iff.1 RX7.out).1).trans RX7.out)
  clear n0 n1 hln
  obtain ⟨n0, n1, fn0, fn1, hln⟩ := two_cells RX9.out
  clear fn0 fn1 hb8 hb9
  obtain ⟨m0, m1, m2, m3, m4, m5, m6, m7, m8, m9, m10, m11, ml⟩ := tw_cells ((hb09.block w.heap.size l0).trans Q0.out)
  obtain ⟨s0, s1, s2, fs0, fs1, fs2, hls⟩ := three_cells ((hb09.block (w.heap.size + 1) l1).trans Q1.out)
  obtain ⟨p0, p1, p2, p3, hlp⟩ := four_row ((hb09.block (w.heap.size + 1 + 1) l2).trans Q2.out)
  clear fs0 fs1 fs2
  have hbf9 : Below w.heap.size w w9 := hbW0.trans (hb09.mono hzW0)
  clear hbf7
  cases R
  all_goals
    go_wp2_with fail
    refine (RR.out _).mono ?_
    rintro _ w10 ⟨rfl, hb10⟩
    have hb010 : Below W0.heap.size W0 w10 := hb09.trans (hb10.mono hb09.size)
    clear m0 m1 m2 m3 m4 m5 m6 m7 m8 m9 m10 m11 ml s0 s1 s2 hls p0 p1 p2 p3 hlp
    have RX10 := hid ((hb10.block w4.heap.size (Array.getElem?_eq_some_iff.1 RX9.out).1).trans RX9.out)
    clear n0 n1 hln
    obtain ⟨n0, n1, fn0, fn1, hln⟩ := two_cells RX10.out
    clear fn0 fn1
    obtain ⟨m0, m1, m2, m3, m4, m5, m6, m7, m8, m9, m10, m11, ml⟩ := tw_cells ((hb010.block w.heap.size l0).trans Q0.out)
    obtain ⟨s0, s1, s2, fs0, fs1, fs2, hls⟩ := three_cells ((hb010.block (w.heap.size + 1) l1).trans Q1.out)
    obtain ⟨p0, p1, p2, p3, hlp⟩ := four_row ((hb010.block (w.heap.size + 1 + 1) l2).trans Q2.out)
    clear fs0 fs1 fs2
    have hbf10 : Below w.heap.size w w10 := hbW0.trans (hb010.mono hzW0)
    clear hbf9
    go_wp2_with fail
    refine (RF.out _).mono ?_
    rintro _ w11 ⟨rfl, hb11⟩
    have hb011 : Below W0.heap.size W0 w11 := hb010.trans (hb11.mono hb010.size)
    clear m0 m1 m2 m3 m4 m5 m6 m7 m8 m9 m10 m11 ml s0 s1 s2 hls p0 p1 p2 p3 hlp
    have RX11 := hid ((hb11.block w4.heap.size (Array.getElem?_eq_some_iff.1 RX10.out).1).trans RX10.out)
    clear n0 n1 hln
    obtain ⟨n0, n1, fn0, fn1, hln⟩ := two_cells RX11.out
    clear fn0 fn1
    obtain ⟨m0, m1, m2, m3, m4, m5, m6, m7, m8, m9, m10, m11, ml⟩ := tw_cells ((hb011.block w.heap.size l0).trans Q0.out)
    obtain ⟨s0, s1, s2, fs0, fs1, fs2, hls⟩ := three_cells ((hb011.block (w.heap.size + 1) l1).trans Q1.out)
    obtain ⟨p0, p1, p2, p3, hlp⟩ := four_row ((hb011.block (w.heap.size + 1 + 1) l2).trans Q2.out)
    clear fs0 fs1 fs2
    have hbf11 : Below w.heap.size w w11 := hbW0.trans (hb011.mono hzW0)
    clear hbf10
    go_wp2_with fail
    refine (RNE.out _).mono ?_
    rintro _ w12 ⟨rv, rfl, hrv, hb12⟩
    obtain ⟨ro, rn, rc, so, sn, sc, rfl, _, _⟩ := hrv.shape
    have HRV := hid hrv
    clear hrv
    have RX12 := hid ((hb12.block w4.heap.size (Array.getElem?_eq_some_iff.1 RX11.out).1).trans RX11.out)
    have hbf12 : Below w.heap.size w w12 := hbf11.trans (hb12.mono hbf11.size)
    clear m0 m1 m2 m3 m4 m5 m6 m7 m8 m9 m10 m11 ml s0 s1 s2 hls p0 p1 p2 p3 hlp n0 n1 hln
    go_wp2_with fail
    refine (RFR.out _ _ HRV.out).mono ?_
    rintro _ w13 ⟨rfl, hb13⟩
    have hbf13 : Below w.heap.size w w13 := hbf12.trans (hb13.mono hbf12.size)
    obtain ⟨n0, n1, fn0, fn1, hln⟩ := two_cells ((hb13.block w4.heap.size (Array.getElem?_eq_some_iff.1 RX12.out).1).trans RX12.out)
    have hln' : w4.heap.size < w13.heap.size + 1 := Nat.lt_succ_of_lt hln
    clear fn0 fn1 hb12 hb13
    go_wp2_with fail
    go_ret
    exact ⟨rfl, by (repeat (with_reducible first | exact Below.refl _ _ | assumption | refine Below.drewN _ ?_ | refine Below.drew ?_ | refine Below_alloc ?_ _ | refine Below.alloc ?_ (by first | (simp; done) | (simp; omega) | omega) _ | refine Below.setCell ?_ (by first | (simp; done) | (simp; omega) | omega) _ | refine Below_call ?_ (by assumption) | refine Below.trans ?_ (by assumption)))⟩

set_option maxRecDepth 100000 in
set_option maxHeartbeats 16000000 in
theorem law_Reached_E00 (px py pz tm tk lo hi li ea la no mi sx sy sz qx qy qz t EM XN XD RN RD : Int) (R : Bool) (hXN : XN = 0) (hXD : XD = 0) (w : World)
    (HC : Hid (∀ W, Calls Try.prog 14 #[.agg #[.int .i64 px, .int .i64 py, .int .i64 pz, .int .i64 tm, .int .i64 tk, .int .i64 lo, .int .i64 hi, .int .i64 li, .int .i64 ea, .int .i64 la, .int .i64 no, .int .i64 mi]] W fun e w' => e = .returned (.int .i64 EM) ∧ Below W.heap.size W w'))
    (RM : Hid (∀ W, Calls Try.prog 18 #[.agg #[.int .i64 px, .int .i64 py, .int .i64 pz, .int .i64 tm, .int .i64 tk, .int .i64 lo, .int .i64 hi, .int .i64 li, .int .i64 ea, .int .i64 la, .int .i64 no, .int .i64 mi]] W fun e w' => e = .returned (.int .i64 EM) ∧ Below W.heap.size W w'))
    (HR : Hid (∀ W, Calls Try.prog 15 #[.agg #[.int .i64 px, .int .i64 py, .int .i64 pz, .int .i64 tm, .int .i64 tk, .int .i64 lo, .int .i64 hi, .int .i64 li, .int .i64 ea, .int .i64 la, .int .i64 no, .int .i64 mi], .agg #[.int .i64 sx, .int .i64 sy, .int .i64 sz], .agg #[.int .i64 qx, .int .i64 qy, .int .i64 qz, .int .i64 t]] W fun e w' => e = .returned (.tuple #[.bool R, .int .i64 0]) ∧ Below W.heap.size W w'))
    (HF : Hid (∀ W, Calls Try.prog 16 #[.agg #[.int .i64 px, .int .i64 py, .int .i64 pz, .int .i64 tm, .int .i64 tk, .int .i64 lo, .int .i64 hi, .int .i64 li, .int .i64 ea, .int .i64 la, .int .i64 no, .int .i64 mi], .agg #[.int .i64 sx, .int .i64 sy, .int .i64 sz], .agg #[.int .i64 qx, .int .i64 qy, .int .i64 qz]] W fun e w' => e = .returned (.tuple #[.int .i64 0, .int .i64 8]) ∧ Below W.heap.size W w'))
    (HN : Hid (∀ W, Calls Try.prog 17 #[.agg #[.int .i64 px, .int .i64 py, .int .i64 pz, .int .i64 tm, .int .i64 tk, .int .i64 lo, .int .i64 hi, .int .i64 li, .int .i64 ea, .int .i64 la, .int .i64 no, .int .i64 mi], .agg #[.int .i64 sx, .int .i64 sy, .int .i64 sz], .agg #[.int .i64 qx, .int .i64 qy, .int .i64 qz]] W fun e w' => e = .returned (.tuple #[.agg #[.int .i64 XN, .int .i64 XD], .int .i64 8]) ∧ Below W.heap.size W w'))
    (RB : Hid (∀ W, Calls Try.prog 19 #[.agg #[.int .i64 px, .int .i64 py, .int .i64 pz, .int .i64 tm, .int .i64 tk, .int .i64 lo, .int .i64 hi, .int .i64 li, .int .i64 ea, .int .i64 la, .int .i64 no, .int .i64 mi], .agg #[.int .i64 sx, .int .i64 sy, .int .i64 sz]] W fun e w' => e = .returned (.int .i64 0) ∧ Below W.heap.size W w'))
    (RMo : Hid (∀ W, Calls Try.prog 20 #[.agg #[.int .i64 qx, .int .i64 qy, .int .i64 qz, .int .i64 t]] W fun e w' => e = .returned (.int .i64 0) ∧ Below W.heap.size W w'))
    (RP : Hid (∀ W, Calls Try.prog 21 #[.agg #[.int .i64 qx, .int .i64 qy, .int .i64 qz]] W fun e w' => e = .returned (.int .i64 0) ∧ Below W.heap.size W w'))
    (RR : Hid (∀ W, Calls Try.prog 22 #[.agg #[.int .i64 px, .int .i64 py, .int .i64 pz, .int .i64 tm, .int .i64 tk, .int .i64 lo, .int .i64 hi, .int .i64 li, .int .i64 ea, .int .i64 la, .int .i64 no, .int .i64 mi], .agg #[.int .i64 sx, .int .i64 sy, .int .i64 sz], .agg #[.int .i64 qx, .int .i64 qy, .int .i64 qz], .int .i64 t] W fun e w' => e = .returned (.bool R) ∧ Below W.heap.size W w'))
    (RF : Hid (∀ W, Calls Try.prog 23 #[.agg #[.int .i64 px, .int .i64 py, .int .i64 pz, .int .i64 tm, .int .i64 tk, .int .i64 lo, .int .i64 hi, .int .i64 li, .int .i64 ea, .int .i64 la, .int .i64 no, .int .i64 mi], .agg #[.int .i64 sx, .int .i64 sy, .int .i64 sz], .agg #[.int .i64 qx, .int .i64 qy, .int .i64 qz]] W fun e w' => e = .returned (.tuple #[.int .i64 0, .bool false]) ∧ Below W.heap.size W w'))
    (RNE : Hid (∀ W, Calls Try.prog 25 #[.agg #[.int .i64 px, .int .i64 py, .int .i64 pz, .int .i64 tm, .int .i64 tk, .int .i64 lo, .int .i64 hi, .int .i64 li, .int .i64 ea, .int .i64 la, .int .i64 no, .int .i64 mi], .agg #[.int .i64 sx, .int .i64 sy, .int .i64 sz], .agg #[.int .i64 qx, .int .i64 qy, .int .i64 qz]] W (RetRat W RN RD (fun _ => True))))
    (RFR : Hid (∀ W v, RatAt W v RN RD (fun _ => True) → Calls Try.prog 24 #[v] W fun e w' => e = .returned (.tuple #[.agg #[.int .i64 0, .int .i64 0], .bool false]) ∧ Below W.heap.size W w'))
    : Calls Try.prog 3 #[.agg #[.int .i64 px, .int .i64 py, .int .i64 pz, .int .i64 tm, .int .i64 tk, .int .i64 lo, .int .i64 hi, .int .i64 li, .int .i64 ea, .int .i64 la, .int .i64 no, .int .i64 mi], .agg #[.int .i64 sx, .int .i64 sy, .int .i64 sz], .agg #[.int .i64 qx, .int .i64 qy, .int .i64 qz, .int .i64 t]] w fun e w' => e = .returned (.bool true) ∧ Below w.heap.size w w' := by
  have HA := hid law_awake5
  obtain ⟨W0, hW0⟩ : ∃ W0, W0 = ((w.alloc (.cells #[.int .i64 px, .int .i64 py, .int .i64 pz, .int .i64 tm, .int .i64 tk, .int .i64 lo, .int .i64 hi, .int .i64 li, .int .i64 ea, .int .i64 la, .int .i64 no, .int .i64 mi] 26)).alloc (.cells #[.int .i64 sx, .int .i64 sy, .int .i64 sz] 22)).alloc (.cells #[.int .i64 qx, .int .i64 qy, .int .i64 qz, .int .i64 t] 28) := ⟨_, rfl⟩
  have hbW0 : Below w.heap.size w W0 := by rw [hW0]; (repeat (with_reducible first | exact Below.refl _ _ | assumption | refine Below.drewN _ ?_ | refine Below.drew ?_ | refine Below_alloc ?_ _ | refine Below.alloc ?_ (by first | (simp; done) | (simp; omega) | omega) _ | refine Below.setCell ?_ (by first | (simp; done) | (simp; omega) | omega) _ | refine Below_call ?_ (by assumption) | refine Below.trans ?_ (by assumption)))
  obtain ⟨q0, q1, q2⟩ := al3 w _ _ _ _ _ _ W0 hW0
  have l0 := (Array.getElem?_eq_some_iff.1 q0).1
  have l1 := (Array.getElem?_eq_some_iff.1 q1).1
  have l2 := (Array.getElem?_eq_some_iff.1 q2).1
  have Q0 := hid q0
  have Q1 := hid q1
  have Q2 := hid q2
  have hzW0 := hbW0.size
  clear q0 q1 q2
  subst hXN
  subst hXD
  go_enter Try.func3, Try.ntmps3
  go_wp2_with fail
  rw [← hW0]
  refine (HA.out _).mono ?_
  rintro _ w1 ⟨rfl, hb1⟩
  clear hW0
  have hb01 : Below W0.heap.size W0 w1 := hb1
  obtain ⟨m0, m1, m2, m3, m4, m5, m6, m7, m8, m9, m10, m11, ml⟩ := tw_cells ((hb01.block w.heap.size l0).trans Q0.out)
  obtain ⟨s0, s1, s2, fs0, fs1, fs2, hls⟩ := three_cells ((hb01.block (w.heap.size + 1) l1).trans Q1.out)
  obtain ⟨p0, p1, p2, p3, hlp⟩ := four_row ((hb01.block (w.heap.size + 1 + 1) l2).trans Q2.out)
  clear fs0 fs1 fs2
  have hbf1 : Below w.heap.size w w1 := hbW0.trans (hb01.mono hzW0)
  go_wp2_with fail
  refine (HC.out _).mono ?_
  rintro _ w2 ⟨rfl, hb2⟩
  have hb02 : Below W0.heap.size W0 w2 := hb01.trans (hb2.mono hb01.size)
  clear m0 m1 m2 m3 m4 m5 m6 m7 m8 m9 m10 m11 ml s0 s1 s2 hls p0 p1 p2 p3 hlp
  obtain ⟨m0, m1, m2, m3, m4, m5, m6, m7, m8, m9, m10, m11, ml⟩ := tw_cells ((hb02.block w.heap.size l0).trans Q0.out)
  obtain ⟨s0, s1, s2, fs0, fs1, fs2, hls⟩ := three_cells ((hb02.block (w.heap.size + 1) l1).trans Q1.out)
  obtain ⟨p0, p1, p2, p3, hlp⟩ := four_row ((hb02.block (w.heap.size + 1 + 1) l2).trans Q2.out)
  clear fs0 fs1 fs2
  have hbf2 : Below w.heap.size w w2 := hbW0.trans (hb02.mono hzW0)
  clear hbf1
  go_wp2_with fail
  refine (HR.out _).mono ?_
  rintro _ w3 ⟨rfl, hb3⟩
  have hb03 : Below W0.heap.size W0 w3 := hb02.trans (hb3.mono hb02.size)
  clear m0 m1 m2 m3 m4 m5 m6 m7 m8 m9 m10 m11 ml s0 s1 s2 hls p0 p1 p2 p3 hlp
  obtain ⟨m0, m1, m2, m3, m4, m5, m6, m7, m8, m9, m10, m11, ml⟩ := tw_cells ((hb03.block w.heap.size l0).trans Q0.out)
  obtain ⟨s0, s1, s2, fs0, fs1, fs2, hls⟩ := three_cells ((hb03.block (w.heap.size + 1) l1).trans Q1.out)
  obtain ⟨p0, p1, p2, p3, hlp⟩ := four_row ((hb03.block (w.heap.size + 1 + 1) l2).trans Q2.out)
  clear fs0 fs1 fs2
  have hbf3 : Below w.heap.size w w3 := hbW0.trans (hb03.mono hzW0)
  clear hbf2
  go_wp2_with fail
  refine (HF.out _).mono ?_
  rintro _ w5 ⟨rfl, hb5⟩
  have hb05 : Below W0.heap.size W0 w5 := hb03.trans (hb5.mono hb03.size)
  clear m0 m1 m2 m3 m4 m5 m6 m7 m8 m9 m10 m11 ml s0 s1 s2 hls p0 p1 p2 p3 hlp
  obtain ⟨m0, m1, m2, m3, m4, m5, m6, m7, m8, m9, m10, m11, ml⟩ := tw_cells ((hb05.block w.heap.size l0).trans Q0.out)
  obtain ⟨s0, s1, s2, fs0, fs1, fs2, hls⟩ := three_cells ((hb05.block (w.heap.size + 1) l1).trans Q1.out)
  obtain ⟨p0, p1, p2, p3, hlp⟩ := four_row ((hb05.block (w.heap.size + 1 + 1) l2).trans Q2.out)
  clear fs0 fs1 fs2
  have hbf5 : Below w.heap.size w w5 := hbW0.trans (hb05.mono hzW0)
  clear hbf3
  go_wp2_with fail
  refine (HN.out _).mono ?_
  rintro _ w4 ⟨rfl, hb4⟩
  have hb04 : Below W0.heap.size W0 w4 := hb05.trans (hb4.mono hb05.size)
  clear m0 m1 m2 m3 m4 m5 m6 m7 m8 m9 m10 m11 ml s0 s1 s2 hls p0 p1 p2 p3 hlp
  obtain ⟨m0, m1, m2, m3, m4, m5, m6, m7, m8, m9, m10, m11, ml⟩ := tw_cells ((hb04.block w.heap.size l0).trans Q0.out)
  obtain ⟨s0, s1, s2, fs0, fs1, fs2, hls⟩ := three_cells ((hb04.block (w.heap.size + 1) l1).trans Q1.out)
  obtain ⟨p0, p1, p2, p3, hlp⟩ := four_row ((hb04.block (w.heap.size + 1 + 1) l2).trans Q2.out)
  clear fs0 fs1 fs2
  have hbf4 : Below w.heap.size w w4 := hbW0.trans (hb04.mono hzW0)
  clear hbf5
  obtain ⟨X, hX⟩ : ∃ X, X = w4.alloc (.cells #[.int .i64 0, .int .i64 0] 37) := ⟨_, rfl⟩
  have hbX : Below w4.heap.size w4 X := by rw [hX]; (repeat (with_reducible first | exact Below.refl _ _ | assumption | refine Below.drewN _ ?_ | refine Below.drew ?_ | refine Below_alloc ?_ _ | refine Below.alloc ?_ (by first | (simp; done) | (simp; omega) | omega) _ | refine Below.setCell ?_ (by first | (simp; done) | (simp; omega) | omega) _ | refine Below_call ?_ (by assumption) | refine Below.trans ?_ (by assumption)))
  have RX := hid (show X.heap[w4.heap.size]? = some (.cells #[.int .i64 0, .int .i64 0] 37 (0, 0)) by rw [hX]; exact heap_alloc_new w4 _)
  have hb0X : Below W0.heap.size W0 X := hb04.trans (hbX.mono hb04.size)
  have hbfX : Below w.heap.size w X := hbW0.trans (hb0X.mono hzW0)
  have l0' : w.heap.size < w4.heap.size + 1 := Nat.lt_succ_of_lt ml
  go_wp2_with fail
  rw [← hX]
  clear hX l0'
  refine (RM.out _).mono ?_
  rintro _ w6 ⟨rfl, hb6⟩
  have hb06 : Below W0.heap.size W0 w6 := hb0X.trans (hb6.mono hb0X.size)
  clear m0 m1 m2 m3 m4 m5 m6 m7 m8 m9 m10 m11 ml s0 s1 s2 hls p0 p1 p2 p3 hlp
  have RX6 := hid ((hb6.block w4.heap.size (Array.getElem?_eq_some_iff.1 RX.out).1).trans RX.out)
  obtain ⟨n0, n1, fn0, fn1, hln⟩ := two_cells RX6.out
  clear fn0 fn1
  obtain ⟨m0, m1, m2, m3, m4, m5, m6, m7, m8, m9, m10, m11, ml⟩ := tw_cells ((hb06.block w.heap.size l0).trans Q0.out)
  obtain ⟨s0, s1, s2, fs0, fs1, fs2, hls⟩ := three_cells ((hb06.block (w.heap.size + 1) l1).trans Q1.out)
  obtain ⟨p0, p1, p2, p3, hlp⟩ := four_row ((hb06.block (w.heap.size + 1 + 1) l2).trans Q2.out)
  clear fs0 fs1 fs2
  have hbf6 : Below w.heap.size w w6 := hbW0.trans (hb06.mono hzW0)
  clear hbfX hbf4
  go_wp2_with fail
  refine (RB.out _).mono ?_
  rintro _ w7 ⟨rfl, hb7⟩
  have hb07 : Below W0.heap.size W0 w7 := hb06.trans (hb7.mono hb06.size)
  clear m0 m1 m2 m3 m4 m5 m6 m7 m8 m9 m10 m11 ml s0 s1 s2 hls p0 p1 p2 p3 hlp
  have RX7 := hid ((hb7.block w4.heap.size (Array.getElem?_eq_some_iff.1 RX6.out).1).trans RX6.out)
  clear n0 n1 hln
  obtain ⟨n0, n1, fn0, fn1, hln⟩ := two_cells RX7.out
  clear fn0 fn1
  obtain ⟨m0, m1, m2, m3, m4, m5, m6, m7, m8, m9, m10, m11, ml⟩ := tw_cells ((hb07.block w.heap.size l0).trans Q0.out)
  obtain ⟨s0, s1, s2, fs0, fs1, fs2, hls⟩ := three_cells ((hb07.block (w.heap.size + 1) l1).trans Q1.out)
  obtain ⟨p0, p1, p2, p3, hlp⟩ := four_row ((hb07.block (w.heap.size + 1 + 1) l2).trans Q2.out)
  clear fs0 fs1 fs2
  have hbf7 : Below w.heap.size w w7 := hbW0.trans (hb07.mono hzW0)
  clear hbf6
  go_wp2_with fail
  refine wp_mixC (fun wc => Below (w7.heap.size) w7 wc) 6 [.q [0, 2, 3], .f [1, 4], .q [5]] [.q [6]] (by kernel_rfl) (by kernel_rfl) ((Below.refl _ _).drew) ?_
  intro Q' hQ'
  (rw [wpMixC]; simp only [pick, List.drop_succ_cons, List.drop_zero, List.head?_cons, Option.toList_some, List.cons_append, List.nil_append])
  (repeat (first | go_big_quiet_skip | (go_big_quiet_want; refine quiet_simple rfl ?_; go_big_quiet_op; go_big_quiet_on) | (go_big_quiet_want; refine quiet_agg3B (ty := 22) rfl rfl (by kernel_rfl) (by assumption) (by assumption) (by assumption) (by first | omega | (simp; omega)) ?_; simp only [Act.put, List.setIfInBounds_toArray, List.set_cons_succ, List.set_cons_zero]; go_big_quiet_on) | (go_big_quiet_want; refine quiet_agg4B (ty := 28) rfl rfl (by kernel_rfl) (by assumption) (by assumption) (by assumption) (by assumption) (by first | omega | (simp; omega)) ?_; simp only [Act.put, List.setIfInBounds_toArray, List.set_cons_succ, List.set_cons_zero]; go_big_quiet_on)))
  (try refine wpQuiet_nil ?_)
  (rw [wpMixC]; simp only [pick, List.drop_succ_cons, List.drop_zero, List.head?_cons, Option.toList_some, List.cons_append, List.nil_append])
  (rw [wpSteps]; go_wp2_with ((go_at_call 20; ((with_reducible refine (RMo.out _).mono ?_); rintro _ w8 ⟨rfl, hb8⟩))); rw [contF]; refine ⟨?_, ?_⟩; (next => (repeat (with_reducible first | exact Below.refl _ _ | assumption | refine Below.drewN _ ?_ | refine Below.drew ?_ | refine Below_alloc ?_ _ | refine Below.alloc ?_ (by first | (simp; done) | (simp; omega) | omega) _ | refine Below.setCell ?_ (by first | (simp; done) | (simp; omega) | omega) _ | refine Below_call ?_ (by assumption) | refine Below.trans ?_ (by assumption)))))
  (rw [wpSteps]; go_wp2_with ((go_at_call 21; ((with_reducible refine (RP.out _).mono ?_); rintro _ w9 ⟨rfl, hb9⟩))); rw [contF]; refine ⟨?_, ?_⟩; (next => (repeat (with_reducible first | exact Below.refl _ _ | assumption | refine Below.drewN _ ?_ | refine Below.drew ?_ | refine Below_alloc ?_ _ | refine Below.alloc ?_ (by first | (simp; done) | (simp; omega) | omega) _ | refine Below.setCell ?_ (by first | (simp; done) | (simp; omega) | omega) _ | refine Below_call ?_ (by assumption) | refine Below.trans ?_ (by assumption)))))
  (rw [wpSteps])
  (rw [wpMixC]; simp only [pick, List.drop_succ_cons, List.drop_zero, List.head?_cons, Option.toList_some, List.cons_append, List.nil_append])
  (repeat (first | go_big_quiet_skip | (go_big_quiet_want; refine quiet_simple rfl ?_; go_big_quiet_op; go_big_quiet_on) | (go_big_quiet_want; refine quiet_agg3B (ty := 22) rfl rfl (by kernel_rfl) (by assumption) (by assumption) (by assumption) (by first | omega | (simp; omega)) ?_; simp only [Act.put, List.setIfInBounds_toArray, List.set_cons_succ, List.set_cons_zero]; go_big_quiet_on) | (go_big_quiet_want; refine quiet_agg4B (ty := 28) rfl rfl (by kernel_rfl) (by assumption) (by assumption) (by assumption) (by assumption) (by first | omega | (simp; omega)) ?_; simp only [Act.put, List.setIfInBounds_toArray, List.set_cons_succ, List.set_cons_zero]; go_big_quiet_on)))
  (try refine wpQuiet_nil ?_)
  (rw [wpMixC])
  (rw [wpMix]; simp only [pick, List.drop_succ_cons, List.drop_zero, List.head?_cons, Option.toList_some, List.cons_append, List.nil_append])
  (repeat (first | (go_big_quiet_step (fail)) | (quiet_step (fail))))
  (try refine wpQuiet_nil ?_)
  (rw [wpMix])
  (refine hQ' _ _ ?_)
  have hb79 : Below w7.heap.size w7 w9 := by (repeat (with_reducible first | exact Below.refl _ _ | assumption | refine Below.drewN _ ?_ | refine Below.drew ?_ | refine Below_alloc ?_ _ | refine Below.alloc ?_ (by first | (simp; done) | (simp; omega) | omega) _ | refine Below.setCell ?_ (by first | (simp; done) | (simp; omega) | omega) _ | refine Below_call ?_ (by assumption) | refine Below.trans ?_ (by assumption)))
  have hb09 : Below W0.heap.size W0 w9 := hb07.trans (hb79.mono hb07.size)
  clear m0 m1 m2 m3 m4 m5 m6 m7 m8 m9 m10 m11 ml s0 s1 s2 hls p0 p1 p2 p3 hlp
  have RX9 := hid ((hb79.block w4.heap.size (Array.getElem?_eq_some_iff.1 RX7.out).1).trans RX7.out)
  clear n0 n1 hln
  obtain ⟨n0, n1, fn0, fn1, hln⟩ := two_cells RX9.out
  clear fn0 fn1 hb8 hb9
  obtain ⟨m0, m1, m2, m3, m4, m5, m6, m7, m8, m9, m10, m11, ml⟩ := tw_cells ((hb09.block w.heap.size l0).trans Q0.out)
  obtain ⟨s0, s1, s2, fs0, fs1, fs2, hls⟩ := three_cells ((hb09.block (w.heap.size + 1) l1).trans Q1.out)
  obtain ⟨p0, p1, p2, p3, hlp⟩ := four_row ((hb09.block (w.heap.size + 1 + 1) l2).trans Q2.out)
  clear fs0 fs1 fs2
  have hbf9 : Below w.heap.size w w9 := hbW0.trans (hb09.mono hzW0)
  clear hbf7
  cases R
  all_goals
    go_wp2_with fail
    refine (RR.out _).mono ?_
    rintro _ w10 ⟨rfl, hb10⟩
    have hb010 : Below W0.heap.size W0 w10 := hb09.trans (hb10.mono hb09.size)
    clear m0 m1 m2 m3 m4 m5 m6 m7 m8 m9 m10 m11 ml s0 s1 s2 hls p0 p1 p2 p3 hlp
    have RX10 := hid ((hb10.block w4.heap.size (Array.getElem?_eq_some_iff.1 RX9.out).1).trans RX9.out)
    clear n0 n1 hln
    obtain ⟨n0, n1, fn0, fn1, hln⟩ := two_cells RX10.out
    clear fn0 fn1
    obtain ⟨m0, m1, m2, m3, m4, m5, m6, m7, m8, m9, m10, m11, ml⟩ := tw_cells ((hb010.block w.heap.size l0).trans Q0.out)
    obtain ⟨s0, s1, s2, fs0, fs1, fs2, hls⟩ := three_cells ((hb010.block (w.heap.size + 1) l1).trans Q1.out)
    obtain ⟨p0, p1, p2, p3, hlp⟩ := four_row ((hb010.block (w.heap.size + 1 + 1) l2).trans Q2.out)
    clear fs0 fs1 fs2
    have hbf10 : Below w.heap.size w w10 := hbW0.trans (hb010.mono hzW0)
    clear hbf9
    go_wp2_with fail
    refine (RF.out _).mono ?_
    rintro _ w11 ⟨rfl, hb11⟩
    have hb011 : Below W0.heap.size W0 w11 := hb010.trans (hb11.mono hb010.size)
    clear m0 m1 m2 m3 m4 m5 m6 m7 m8 m9 m10 m11 ml s0 s1 s2 hls p0 p1 p2 p3 hlp
    have RX11 := hid ((hb11.block w4.heap.size (Array.getElem?_eq_some_iff.1 RX10.out).1).trans RX10.out)
    clear n0 n1 hln
    obtain ⟨n0, n1, fn0, fn1, hln⟩ := two_cells RX11.out
    clear fn0 fn1
    obtain ⟨m0, m1, m2, m3, m4, m5, m6, m7, m8, m9, m10, m11, ml⟩ := tw_cells ((hb011.block w.heap.size l0).trans Q0.out)
    obtain ⟨s0, s1, s2, fs0, fs1, fs2, hls⟩ := three_cells ((hb011.block (w.heap.size + 1) l1).trans Q1.out)
    obtain ⟨p0, p1, p2, p3, hlp⟩ := four_row ((hb011.block (w.heap.size + 1 + 1) l2).trans Q2.out)
    clear fs0 fs1 fs2
    have hbf11 : Below w.heap.size w w11 := hbW0.trans (hb011.mono hzW0)
    clear hbf10
    go_wp2_with fail
    refine (RNE.out _).mono ?_
    rintro _ w12 ⟨rv, rfl, hrv, hb12⟩
    obtain ⟨ro, rn, rc, so, sn, sc, rfl, _, _⟩ := hrv.shape
    have HRV := hid hrv
    clear hrv
    have RX12 := hid ((hb12.block w4.heap.size (Array.getElem?_eq_some_iff.1 RX11.out).1).trans RX11.out)
    have hbf12 : Below w.heap.size w w12 := hbf11.trans (hb12.mono hbf11.size)
    clear m0 m1 m2 m3 m4 m5 m6 m7 m8 m9 m10 m11 ml s0 s1 s2 hls p0 p1 p2 p3 hlp n0 n1 hln
    go_wp2_with fail
    refine (RFR.out _ _ HRV.out).mono ?_
    rintro _ w13 ⟨rfl, hb13⟩
    have hbf13 : Below w.heap.size w w13 := hbf12.trans (hb13.mono hbf12.size)
    obtain ⟨n0, n1, fn0, fn1, hln⟩ := two_cells ((hb13.block w4.heap.size (Array.getElem?_eq_some_iff.1 RX12.out).1).trans RX12.out)
    have hln' : w4.heap.size < w13.heap.size + 1 := Nat.lt_succ_of_lt hln
    clear fn0 fn1 hb12 hb13
    go_wp2_with fail
    go_ret
    exact ⟨rfl, by (repeat (with_reducible first | exact Below.refl _ _ | assumption | refine Below.drewN _ ?_ | refine Below.drew ?_ | refine Below_alloc ?_ _ | refine Below.alloc ?_ (by first | (simp; done) | (simp; omega) | omega) _ | refine Below.setCell ?_ (by first | (simp; done) | (simp; omega) | omega) _ | refine Below_call ?_ (by assumption) | refine Below.trans ?_ (by assumption)))⟩
end Go.Proofs.Ytlmdmpjfehpjeaa

