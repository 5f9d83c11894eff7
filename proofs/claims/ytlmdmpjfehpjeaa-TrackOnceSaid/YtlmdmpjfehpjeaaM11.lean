/- Tracks: the law of first times, the main way. -/
import Derived.Test.YtlmdmpjfehpjeaaM10
import Derived.Test.YtlmdmpjfehpjeaaM5
set_option linter.unusedVariables false
set_option linter.unusedSimpArgs false
namespace Go.Proofs.Ytlmdmpjfehpjeaa
open Go.RowKit

set_option maxRecDepth 100000 in
set_option maxHeartbeats 16000000 in
theorem once_M1 (px py pz tm tk lo hi li ea la no mi sx sy sz qx qy qz bx vy bz dt lt n n1 n2 r X1 at_ Yx Yy Yz ax ay az ux uy uz ut ex ey ez nk C EM EP : Int) (k1 : IntKind.i64.wrap (n - 1) = n1) (k2 : IntKind.i64.wrap (n + lt) = n2) (k3 : IntKind.i64.wrap (tk * r) = X1) (k4 : IntKind.i64.wrap (tm + X1) = at_) (kAx : Hid (IntKind.i64.wrap (sx * r) = Yx ∧ IntKind.i64.wrap (px + Yx) = ax)) (kAy : Hid (IntKind.i64.wrap (sy * r) = Yy ∧ IntKind.i64.wrap (py + Yy) = ay)) (kAz : Hid (IntKind.i64.wrap (sz * r) = Yz ∧ IntKind.i64.wrap (pz + Yz) = az)) (kT : IntKind.i64.wrap (tm + dt) = ut) (kBx : Hid (IntKind.i64.wrap (px + bx) = ux ∧ IntKind.i64.wrap (qx + bx) = ex)) (kBy : Hid (IntKind.i64.wrap (py + vy) = uy ∧ IntKind.i64.wrap (qy + vy) = ey)) (kBz : Hid (IntKind.i64.wrap (pz + bz) = uz ∧ IntKind.i64.wrap (qz + bz) = ez)) (kN : IntKind.i64.wrap (n + dt) = nk) (qC : (C == 0) = true) (w : World)
    (RB : Hid (∀ W, Calls Try.prog 19 #[.agg #[.int .i64 px, .int .i64 py, .int .i64 pz, .int .i64 tm, .int .i64 tk, .int .i64 lo, .int .i64 hi, .int .i64 li, .int .i64 ea, .int .i64 la, .int .i64 no, .int .i64 mi], .agg #[.int .i64 sx, .int .i64 sy, .int .i64 sz]] W fun e w' => e = .returned (.int .i64 0) ∧ Below W.heap.size W w'))
    (RP : Hid (∀ W, Calls Try.prog 21 #[.agg #[.int .i64 qx, .int .i64 qy, .int .i64 qz]] W fun e w' => e = .returned (.int .i64 0) ∧ Below W.heap.size W w'))
    (HL : Hid (∀ W, Calls Try.prog 26 #[.int .i64 lt, .int .i64 0, .int .i64 1000] W fun e w' => e = .returned (.bool true) ∧ W = w'))
    (HT : Hid (∀ W, Calls Try.prog 26 #[.int .i64 dt, .int .i64 (-1000), .int .i64 1000] W fun e w' => e = .returned (.bool true) ∧ W = w'))
    (Hbx : Hid (∀ W, Calls Try.prog 26 #[.int .i64 bx, .int .i64 (-1000), .int .i64 1000] W fun e w' => e = .returned (.bool true) ∧ W = w'))
    (Hvy : Hid (∀ W, Calls Try.prog 26 #[.int .i64 vy, .int .i64 (-1000), .int .i64 1000] W fun e w' => e = .returned (.bool true) ∧ W = w'))
    (Hbz : Hid (∀ W, Calls Try.prog 26 #[.int .i64 bz, .int .i64 (-1000), .int .i64 1000] W fun e w' => e = .returned (.bool true) ∧ W = w'))
    (HF : Hid (∀ W, Calls Try.prog 16 #[.agg #[.int .i64 px, .int .i64 py, .int .i64 pz, .int .i64 tm, .int .i64 tk, .int .i64 lo, .int .i64 hi, .int .i64 li, .int .i64 ea, .int .i64 la, .int .i64 no, .int .i64 mi], .agg #[.int .i64 sx, .int .i64 sy, .int .i64 sz], .agg #[.int .i64 qx, .int .i64 qy, .int .i64 qz]] W fun e w' => e = .returned (.tuple #[.int .i64 n, .int .i64 0]) ∧ Below W.heap.size W w'))
    (HN : Hid (∀ W, Calls Try.prog 26 #[.int .i64 n, .int .i64 (-900000), .int .i64 900000] W fun e w' => e = .returned (.bool true) ∧ W = w'))
    (HR1 : Hid (∀ W, Calls Try.prog 15 #[.agg #[.int .i64 px, .int .i64 py, .int .i64 pz, .int .i64 tm, .int .i64 tk, .int .i64 lo, .int .i64 hi, .int .i64 li, .int .i64 ea, .int .i64 la, .int .i64 no, .int .i64 mi], .agg #[.int .i64 sx, .int .i64 sy, .int .i64 sz], .agg #[.int .i64 qx, .int .i64 qy, .int .i64 qz, .int .i64 n]] W fun e w' => e = .returned (.tuple #[.bool true, .int .i64 0]) ∧ Below W.heap.size W w'))
    (HR2 : Hid (∀ W, Calls Try.prog 15 #[.agg #[.int .i64 px, .int .i64 py, .int .i64 pz, .int .i64 tm, .int .i64 tk, .int .i64 lo, .int .i64 hi, .int .i64 li, .int .i64 ea, .int .i64 la, .int .i64 no, .int .i64 mi], .agg #[.int .i64 sx, .int .i64 sy, .int .i64 sz], .agg #[.int .i64 qx, .int .i64 qy, .int .i64 qz, .int .i64 n1]] W fun e w' => e = .returned (.tuple #[.bool false, .int .i64 0]) ∧ Below W.heap.size W w'))
    (HR3 : Hid (∀ W, Calls Try.prog 15 #[.agg #[.int .i64 px, .int .i64 py, .int .i64 pz, .int .i64 tm, .int .i64 tk, .int .i64 lo, .int .i64 hi, .int .i64 li, .int .i64 ea, .int .i64 la, .int .i64 no, .int .i64 mi], .agg #[.int .i64 sx, .int .i64 sy, .int .i64 sz], .agg #[.int .i64 qx, .int .i64 qy, .int .i64 qz, .int .i64 n2]] W fun e w' => e = .returned (.tuple #[.bool true, .int .i64 0]) ∧ Below W.heap.size W w'))
    (HM : Hid (∀ W, Calls Try.prog 27 #[.int .i64 lt, .int .i64 20] W fun e w' => e = .returned (.int .i64 r) ∧ W = w'))
    (RM : Hid (∀ W, Calls Try.prog 20 #[.agg #[.int .i64 ax, .int .i64 ay, .int .i64 az, .int .i64 at_]] W fun e w' => e = .returned (.int .i64 C) ∧ Below W.heap.size W w'))
    (HR4 : Hid (∀ W, Calls Try.prog 15 #[.agg #[.int .i64 px, .int .i64 py, .int .i64 pz, .int .i64 tm, .int .i64 tk, .int .i64 lo, .int .i64 hi, .int .i64 li, .int .i64 ea, .int .i64 la, .int .i64 no, .int .i64 mi], .agg #[.int .i64 sx, .int .i64 sy, .int .i64 sz], .agg #[.int .i64 ax, .int .i64 ay, .int .i64 az, .int .i64 at_]] W fun e w' => e = .returned (.tuple #[.bool true, .int .i64 0]) ∧ Below W.heap.size W w'))
    (RE : Hid (∀ W, Calls Try.prog 18 #[.agg #[.int .i64 ux, .int .i64 uy, .int .i64 uz, .int .i64 ut, .int .i64 tk, .int .i64 lo, .int .i64 hi, .int .i64 li, .int .i64 ea, .int .i64 la, .int .i64 no, .int .i64 mi]] W fun e w' => e = .returned (.int .i64 EM) ∧ Below W.heap.size W w'))
    (RQ : Hid (∀ W, Calls Try.prog 21 #[.agg #[.int .i64 ex, .int .i64 ey, .int .i64 ez]] W fun e w' => e = .returned (.int .i64 EP) ∧ Below W.heap.size W w'))
    (HD : Hid ((EM == 0) = false ∨ ((EM == 0) = true ∧ (EP == 0) = false) ∨ ((EM == 0) = true ∧ (EP == 0) = true ∧ Hid (∀ W, Calls Try.prog 16 #[.agg #[.int .i64 ux, .int .i64 uy, .int .i64 uz, .int .i64 ut, .int .i64 tk, .int .i64 lo, .int .i64 hi, .int .i64 li, .int .i64 ea, .int .i64 la, .int .i64 no, .int .i64 mi], .agg #[.int .i64 sx, .int .i64 sy, .int .i64 sz], .agg #[.int .i64 ex, .int .i64 ey, .int .i64 ez]] W fun e w' => e = .returned (.tuple #[.int .i64 nk, .int .i64 0]) ∧ Below W.heap.size W w'))))
    (HF3 : Hid (∀ W, Calls Try.prog 16 #[.agg #[.int .i64 py, .int .i64 px, .int .i64 pz, .int .i64 tm, .int .i64 tk, .int .i64 lo, .int .i64 hi, .int .i64 li, .int .i64 ea, .int .i64 la, .int .i64 no, .int .i64 mi], .agg #[.int .i64 sy, .int .i64 sx, .int .i64 sz], .agg #[.int .i64 qy, .int .i64 qx, .int .i64 qz]] W fun e w' => e = .returned (.tuple #[.int .i64 n, .int .i64 0]) ∧ Below W.heap.size W w'))
    : Calls Try.prog 4 #[.agg #[.int .i64 px, .int .i64 py, .int .i64 pz, .int .i64 tm, .int .i64 tk, .int .i64 lo, .int .i64 hi, .int .i64 li, .int .i64 ea, .int .i64 la, .int .i64 no, .int .i64 mi], .agg #[.int .i64 sx, .int .i64 sy, .int .i64 sz], .agg #[.int .i64 qx, .int .i64 qy, .int .i64 qz, .int .i64 bx, .int .i64 vy, .int .i64 bz, .int .i64 dt, .int .i64 lt]] w fun e w' => e = .returned (.bool true) ∧ Below w.heap.size w w' := by
  have HA := hid law_awake5
  obtain ⟨W0, hW0⟩ : ∃ W0, W0 = ((w.alloc (.cells #[.int .i64 px, .int .i64 py, .int .i64 pz, .int .i64 tm, .int .i64 tk, .int .i64 lo, .int .i64 hi, .int .i64 li, .int .i64 ea, .int .i64 la, .int .i64 no, .int .i64 mi] 26)).alloc (.cells #[.int .i64 sx, .int .i64 sy, .int .i64 sz] 22)).alloc (.cells #[.int .i64 qx, .int .i64 qy, .int .i64 qz, .int .i64 bx, .int .i64 vy, .int .i64 bz, .int .i64 dt, .int .i64 lt] 57) := ⟨_, rfl⟩
  have hbW0 : Below w.heap.size w W0 := by rw [hW0]; (repeat (with_reducible first | exact Below.refl _ _ | assumption | refine Below.drewN _ ?_ | refine Below.drew ?_ | refine Below_alloc ?_ _ | refine Below.alloc ?_ (by first | (simp; done) | (simp; omega) | omega) _ | refine Below.setCell ?_ (by first | (simp; done) | (simp; omega) | omega) _ | refine Below_call ?_ (by assumption) | refine Below.trans ?_ (by assumption)))
  obtain ⟨q0, q1, q2⟩ := al3 w _ _ _ _ _ _ W0 hW0
  have l0 := (Array.getElem?_eq_some_iff.1 q0).1
  have l1 := (Array.getElem?_eq_some_iff.1 q1).1
  have l2 := (Array.getElem?_eq_some_iff.1 q2).1
  have Q0 := hid q0
  have Q1 := hid q1
  have Q2 := hid q2
  have hzW0 := hbW0.size
  clear q0 q1 q2
  go_enter Try.func4, Try.ntmps4
  go_wp2_with fail
  rw [← hW0]
  refine (HA.out _).mono ?_
  rintro _ w1 ⟨rfl, hb1⟩
  clear hW0
  have hb01 : Below W0.heap.size W0 w1 := hb1
  obtain ⟨m0, m1, m2, m3, m4, m5, m6, m7, m8, m9, m10, m11, ml⟩ := tw_cells ((hb01.block w.heap.size l0).trans Q0.out)
  obtain ⟨s0, s1, s2, fs0, fs1, fs2, hls⟩ := three_cells ((hb01.block (w.heap.size + 1) l1).trans Q1.out)
  clear fs0 fs1 fs2
  obtain ⟨x0, x1, x2, x3, x4, x5, x6, x7, hlx⟩ := eight_row ((hb01.block (w.heap.size + 1 + 1) l2).trans Q2.out)
  have hbf1 : Below w.heap.size w w1 := hbW0.trans (hb01.mono hzW0)
  go_wp2_with fail
  refine (RB.out _).mono ?_
  rintro _ w2 ⟨rfl, hb2⟩
  have hb02 : Below W0.heap.size W0 w2 := hb01.trans (hb2.mono hb01.size)
  clear m0 m1 m2 m3 m4 m5 m6 m7 m8 m9 m10 m11 ml s0 s1 s2 hls x0 x1 x2 x3 x4 x5 x6 x7 hlx
  obtain ⟨m0, m1, m2, m3, m4, m5, m6, m7, m8, m9, m10, m11, ml⟩ := tw_cells ((hb02.block w.heap.size l0).trans Q0.out)
  obtain ⟨s0, s1, s2, fs0, fs1, fs2, hls⟩ := three_cells ((hb02.block (w.heap.size + 1) l1).trans Q1.out)
  clear fs0 fs1 fs2
  obtain ⟨x0, x1, x2, x3, x4, x5, x6, x7, hlx⟩ := eight_row ((hb02.block (w.heap.size + 1 + 1) l2).trans Q2.out)
  have hbf2 : Below w.heap.size w w2 := hbW0.trans (hb02.mono hzW0)
  clear hbf1
  go_wp2_with fail
  refine (RP.out _).mono ?_
  rintro _ w3 ⟨rfl, hb3⟩
  have hb03 : Below W0.heap.size W0 w3 := hb02.trans (hb3.mono hb02.size)
  clear m0 m1 m2 m3 m4 m5 m6 m7 m8 m9 m10 m11 ml s0 s1 s2 hls x0 x1 x2 x3 x4 x5 x6 x7 hlx
  obtain ⟨m0, m1, m2, m3, m4, m5, m6, m7, m8, m9, m10, m11, ml⟩ := tw_cells ((hb03.block w.heap.size l0).trans Q0.out)
  obtain ⟨s0, s1, s2, fs0, fs1, fs2, hls⟩ := three_cells ((hb03.block (w.heap.size + 1) l1).trans Q1.out)
  clear fs0 fs1 fs2
  obtain ⟨x0, x1, x2, x3, x4, x5, x6, x7, hlx⟩ := eight_row ((hb03.block (w.heap.size + 1 + 1) l2).trans Q2.out)
  have hbf3 : Below w.heap.size w w3 := hbW0.trans (hb03.mono hzW0)
  clear hbf2
  go_wp2_with fail
  refine (HL.out _).mono ?_
  rintro _ _ ⟨rfl, rfl⟩
  go_wp2_with fail
  refine (HT.out _).mono ?_
  rintro _ _ ⟨rfl, rfl⟩
  go_wp2_with fail
  refine wp_loop_rounds 4 ?_
  rw [rounds_succ]
  go_wp2_with fail
  refine (Hbx.out _).mono ?_
  rintro _ _ ⟨rfl, rfl⟩
  go_wp2_with fail
  rw [rounds_succ]
  go_wp2_with fail
  refine (Hvy.out _).mono ?_
  rintro _ _ ⟨rfl, rfl⟩
  go_wp2_with fail
  rw [rounds_succ]
  go_wp2_with fail
  refine (Hbz.out _).mono ?_
  rintro _ _ ⟨rfl, rfl⟩
  go_wp2_with fail
  rw [rounds_succ]
  go_wp2_with fail
  refine (HF.out _).mono ?_
  rintro _ w4 ⟨rfl, hb4⟩
  have hb04 : Below W0.heap.size W0 w4 := hb03.trans (hb4.mono hb03.size)
  clear m0 m1 m2 m3 m4 m5 m6 m7 m8 m9 m10 m11 ml s0 s1 s2 hls x0 x1 x2 x3 x4 x5 x6 x7 hlx
  obtain ⟨m0, m1, m2, m3, m4, m5, m6, m7, m8, m9, m10, m11, ml⟩ := tw_cells ((hb04.block w.heap.size l0).trans Q0.out)
  obtain ⟨s0, s1, s2, fs0, fs1, fs2, hls⟩ := three_cells ((hb04.block (w.heap.size + 1) l1).trans Q1.out)
  clear fs0 fs1 fs2
  obtain ⟨x0, x1, x2, x3, x4, x5, x6, x7, hlx⟩ := eight_row ((hb04.block (w.heap.size + 1 + 1) l2).trans Q2.out)
  have hbf4 : Below w.heap.size w w4 := hbW0.trans (hb04.mono hzW0)
  clear hbf3
  go_wp2_with fail
  refine (HN.out _).mono ?_
  rintro _ _ ⟨rfl, rfl⟩
  go_wp2_with fail
  refine (HR1.out _).mono ?_
  rintro _ w5 ⟨rfl, hb5⟩
  have hb05 : Below W0.heap.size W0 w5 := hb04.trans (hb5.mono hb04.size)
  clear m0 m1 m2 m3 m4 m5 m6 m7 m8 m9 m10 m11 ml s0 s1 s2 hls x0 x1 x2 x3 x4 x5 x6 x7 hlx
  obtain ⟨m0, m1, m2, m3, m4, m5, m6, m7, m8, m9, m10, m11, ml⟩ := tw_cells ((hb05.block w.heap.size l0).trans Q0.out)
  obtain ⟨s0, s1, s2, fs0, fs1, fs2, hls⟩ := three_cells ((hb05.block (w.heap.size + 1) l1).trans Q1.out)
  clear fs0 fs1 fs2
  obtain ⟨x0, x1, x2, x3, x4, x5, x6, x7, hlx⟩ := eight_row ((hb05.block (w.heap.size + 1 + 1) l2).trans Q2.out)
  have hbf5 : Below w.heap.size w w5 := hbW0.trans (hb05.mono hzW0)
  clear hbf4
  go_wp2_with fail
  refine (HR2.out _).mono ?_
  rintro _ w6 ⟨rfl, hb6⟩
  have hb06 : Below W0.heap.size W0 w6 := hb05.trans (hb6.mono hb05.size)
  clear m0 m1 m2 m3 m4 m5 m6 m7 m8 m9 m10 m11 ml s0 s1 s2 hls x0 x1 x2 x3 x4 x5 x6 x7 hlx
  obtain ⟨m0, m1, m2, m3, m4, m5, m6, m7, m8, m9, m10, m11, ml⟩ := tw_cells ((hb06.block w.heap.size l0).trans Q0.out)
  obtain ⟨s0, s1, s2, fs0, fs1, fs2, hls⟩ := three_cells ((hb06.block (w.heap.size + 1) l1).trans Q1.out)
  clear fs0 fs1 fs2
  obtain ⟨x0, x1, x2, x3, x4, x5, x6, x7, hlx⟩ := eight_row ((hb06.block (w.heap.size + 1 + 1) l2).trans Q2.out)
  have hbf6 : Below w.heap.size w w6 := hbW0.trans (hb06.mono hzW0)
  clear hbf5
  go_wp2_with fail
  refine (HR3.out _).mono ?_
  rintro _ w7 ⟨rfl, hb7⟩
  have hb07 : Below W0.heap.size W0 w7 := hb06.trans (hb7.mono hb06.size)
  clear m0 m1 m2 m3 m4 m5 m6 m7 m8 m9 m10 m11 ml s0 s1 s2 hls x0 x1 x2 x3 x4 x5 x6 x7 hlx
  obtain ⟨m0, m1, m2, m3, m4, m5, m6, m7, m8, m9, m10, m11, ml⟩ := tw_cells ((hb07.block w.heap.size l0).trans Q0.out)
  obtain ⟨s0, s1, s2, fs0, fs1, fs2, hls⟩ := three_cells ((hb07.block (w.heap.size + 1) l1).trans Q1.out)
  clear fs0 fs1 fs2
  obtain ⟨x0, x1, x2, x3, x4, x5, x6, x7, hlx⟩ := eight_row ((hb07.block (w.heap.size + 1 + 1) l2).trans Q2.out)
  have hbf7 : Below w.heap.size w w7 := hbW0.trans (hb07.mono hzW0)
  clear hbf6
  go_wp2_with fail
  refine wp_mixH (fun wc => Below (w7.heap.size) w7 wc) 11 [0, 1, 2, 3, 4, 5] [(6, [7, 8, 9])] 10 [] [.f [11]] (by kernel_rfl) (by kernel_rfl) ((Below.refl _ _).drew) ?_
  intro Q' hQ'
  simp only [pick, List.drop_succ_cons, List.drop_zero, List.head?_cons, Option.toList_some, List.cons_append, List.nil_append]
  (repeat (first | go_big_quiet_skip | (go_big_quiet_want; refine quiet_simple rfl ?_; go_big_quiet_op; go_big_quiet_on) | (go_big_quiet_want; refine quiet_cellB (ty := 3) rfl rfl (by kernel_rfl) (by assumption) (by first | omega | (simp; omega)) ?_; simp only [Act.put, List.setIfInBounds_toArray, List.set_cons_succ, List.set_cons_zero]; go_big_quiet_on)))
  (try refine wpQuiet_nil ?_)
  (rw [wpFl])
  (refine ⟨?_, ?_⟩)
  ((try simp only [pick, List.drop_succ_cons, List.drop_zero, List.head?_cons, Option.toList_some, List.cons_append, List.nil_append]); rw [wpSteps]; (go_wp2_with ((go_at_call 27; refine (HM.out _).mono ?_; rintro _ _ ⟨rfl, rfl⟩)); rw [contF]; refine ⟨?_, ?_⟩; (next => (repeat (with_reducible first | exact Below.refl _ _ | assumption | refine Below.drewN _ ?_ | refine Below.drew ?_ | refine Below_alloc ?_ _ | refine Below.alloc ?_ (by first | (simp; done) | (simp; omega) | omega) _ | refine Below.setCell ?_ (by first | (simp; done) | (simp; omega) | omega) _ | refine Below_call ?_ (by assumption) | refine Below.trans ?_ (by assumption))))); rw [wpSteps])
  (try simp only [pick, List.drop_succ_cons, List.drop_zero, List.head?_cons, Option.toList_some, List.cons_append, List.nil_append])
  (repeat (first | go_big_quiet_skip | (go_big_quiet_want; refine quiet_simple rfl ?_; go_big_quiet_op; go_big_quiet_on) | (go_big_quiet_want; refine quiet_cellB (ty := 3) rfl rfl (by kernel_rfl) (by assumption) (by first | omega | (simp; omega)) ?_; simp only [Act.put, List.setIfInBounds_toArray, List.set_cons_succ, List.set_cons_zero]; go_big_quiet_on)))
  (try refine wpQuiet_nil ?_)
  rotate_left
  ((try simp only [pick, List.drop_succ_cons, List.drop_zero, List.head?_cons, Option.toList_some, List.cons_append, List.nil_append]); rw [wpSteps]; (go_wp2_with (fail); rw [contF]; refine ⟨?_, ?_⟩; (next => (repeat (with_reducible first | exact Below.refl _ _ | assumption | refine Below.drewN _ ?_ | refine Below.drew ?_ | refine Below_alloc ?_ _ | refine Below.alloc ?_ (by first | (simp; done) | (simp; omega) | omega) _ | refine Below.setCell ?_ (by first | (simp; done) | (simp; omega) | omega) _ | refine Below_call ?_ (by assumption) | refine Below.trans ?_ (by assumption))))); rw [wpSteps])
  (simp only [flat7, List.cons_append, List.nil_append])
  (rw [wpMixC])
  ((try simp only [pick, List.drop_succ_cons, List.drop_zero, List.head?_cons, Option.toList_some, List.cons_append, List.nil_append]); rw [wpSteps]; (go_wp2_with ((go_at_call 27; refine (HM.out _).mono ?_; rintro _ _ ⟨rfl, rfl⟩)); rw [contF]; refine ⟨?_, ?_⟩; (next => (repeat (with_reducible first | exact Below.refl _ _ | assumption | refine Below.drewN _ ?_ | refine Below.drew ?_ | refine Below_alloc ?_ _ | refine Below.alloc ?_ (by first | (simp; done) | (simp; omega) | omega) _ | refine Below.setCell ?_ (by first | (simp; done) | (simp; omega) | omega) _ | refine Below_call ?_ (by assumption) | refine Below.trans ?_ (by assumption))))); rw [wpSteps])
  (rw [wpMixC])
  (try simp only [pick, List.drop_succ_cons, List.drop_zero, List.head?_cons, Option.toList_some, List.cons_append, List.nil_append])
  (repeat (first | go_big_quiet_skip | (go_big_quiet_want; refine quiet_simple rfl ?_; go_big_quiet_op; go_big_quiet_on) | (go_big_quiet_want; refine quiet_cellB (ty := 3) rfl rfl (by kernel_rfl) (by assumption) (by first | omega | (simp; omega)) ?_; simp only [Act.put, List.setIfInBounds_toArray, List.set_cons_succ, List.set_cons_zero]; go_big_quiet_on)))
  (try refine wpQuiet_nil ?_)
  rotate_right
  (rw [wpFl])
  ((try simp only [pick, List.drop_succ_cons, List.drop_zero, List.head?_cons, Option.toList_some, List.cons_append, List.nil_append]); rw [wpSteps]; (go_wp2_with (fail); rw [contF]; refine ⟨?_, ?_⟩; (next => (repeat (with_reducible first | exact Below.refl _ _ | assumption | refine Below.drewN _ ?_ | refine Below.drew ?_ | refine Below_alloc ?_ _ | refine Below.alloc ?_ (by first | (simp; done) | (simp; omega) | omega) _ | refine Below.setCell ?_ (by first | (simp; done) | (simp; omega) | omega) _ | refine Below_call ?_ (by assumption) | refine Below.trans ?_ (by assumption))))); rw [wpSteps])
  all_goals (rw [wpMixC])
  all_goals (rw [wpMix]; simp only [pick, List.drop_succ_cons, List.drop_zero, List.head?_cons, Option.toList_some, List.cons_append, List.nil_append])
  all_goals (go_wp2_with (fail); rw [contF])
  all_goals (rw [wpMix])
  all_goals (refine hQ' _ _ ?_)
  all_goals
    obtain ⟨W8, hW8⟩ : ∃ W8, W8 = (w7.alloc (.cells #[.int .i64 0, .int .i64 0, .int .i64 0, .int .i64 at_] 28)).drew := ⟨_, rfl⟩
    have hbX8 : Below w7.heap.size w7 W8 := by rw [hW8]; (repeat (with_reducible first | exact Below.refl _ _ | assumption | refine Below.drewN _ ?_ | refine Below.drew ?_ | refine Below_alloc ?_ _ | refine Below.alloc ?_ (by first | (simp; done) | (simp; omega) | omega) _ | refine Below.setCell ?_ (by first | (simp; done) | (simp; omega) | omega) _ | refine Below_call ?_ (by assumption) | refine Below.trans ?_ (by assumption)))
    have HR8 := hid (show W8.heap[w7.heap.size]? = some (.cells #[.int .i64 0, .int .i64 0, .int .i64 0, .int .i64 at_] 28 (0, 0)) by rw [hW8]; exact heap_alloc_new w7 _)
    clear m0 m1 m2 m3 m4 m5 m6 m7 m8 m9 m10 m11 ml s0 s1 s2 hls x0 x1 x2 x3 x4 x5 x6 x7 hlx
    go_wp2_with fail
    rw [← hW8]
    clear hW8
    have hz07 := hb07.size
    go_loopw [17] (fun i wr => ∃ (k : Nat) (o0 o1 o2 : Int), k ≤ 3 ∧ i = .int .i64 k ∧ Hid (wr.heap[w7.heap.size]? = some (.cells #[.int .i64 o0, .int .i64 o1, .int .i64 o2, .int .i64 at_] 28 (0, 0))) ∧ Hid ((0 < k → o0 = ax) ∧ (1 < k → o1 = ay) ∧ (2 < k → o2 = az)) ∧ Below w7.heap.size w7 wr) (fun i _ => 3 - (intOf i).toNat)
    case atStart => exact ⟨0, 0, 0, 0, by omega, rfl, HR8, hid ⟨by omega, by omega, by omega⟩, hbX8⟩
    case round =>
      obtain ⟨k, o0, o1, o2, hk, rfl, HR, HO, hbel⟩ := hrel
      have hb0r : Below W0.heap.size W0 wr := hb07.trans (hbel.mono hb07.size)
      have hzr := hbel.size
      obtain ⟨m0, m1, m2, m3, m4, m5, m6, m7, m8, m9, m10, m11, ml⟩ := tw_cells ((hb0r.block w.heap.size l0).trans Q0.out)
      obtain ⟨s0, s1, s2, fs0, fs1, fs2, hls⟩ := three_cells ((hb0r.block (w.heap.size + 1) l1).trans Q1.out)
      clear fs0 fs1 fs2
      obtain ⟨x0, x1, x2, x3, x4, x5, x6, x7, hlx⟩ := eight_row ((hb0r.block (w.heap.size + 1 + 1) l2).trans Q2.out)
      have hrow := HR.out
      obtain ⟨f0, f1, f2, f3, hlf⟩ := four_row hrow
      have ff0 := frozen_of_row wr _ 0 _ _ hrow
      have ff1 := frozen_of_row wr _ 1 _ _ hrow
      have ff2 := frozen_of_row wr _ 2 _ _ hrow
      clear hrow
      rcases (by omega : k = 0 ∨ k = 1 ∨ k = 2 ∨ k = 3) with rfl | rfl | rfl | rfl
      · obtain ⟨k5, k6⟩ := kAx.out
        go_wp2_with fail
        refine wp_mixC (fun wc => Below (w7.heap.size) wr wc) 16 [.q [0, 1, 2, 3, 4, 5, 6, 7, 8, 9, 13], .f [10], .q [11, 12, 14], .f [15]] [] (by kernel_rfl) (by kernel_rfl) ((Below.refl _ _).drew) ?_
        intro Q' hQ'
        (rw [wpMixC]; simp only [pick, List.drop_succ_cons, List.drop_zero, List.head?_cons, Option.toList_some, List.cons_append, List.nil_append])
        (repeat (first | go_big_quiet_skip | (go_big_quiet_want; refine quiet_simple rfl ?_; go_big_quiet_op; go_big_quiet_on) | (go_big_quiet_want; refine quiet_cellB (ty := 3) rfl rfl (by kernel_rfl) (by assumption) (by first | omega | (simp; omega)) ?_; simp only [Act.put, List.setIfInBounds_toArray, List.set_cons_succ, List.set_cons_zero]; go_big_quiet_on)))
        (try refine wpQuiet_nil ?_)
        (rw [wpMixC]; simp only [pick, List.drop_succ_cons, List.drop_zero, List.head?_cons, Option.toList_some, List.cons_append, List.nil_append])
        (rw [wpSteps]; go_wp2_with ((go_at_call 27; refine (HM.out _).mono ?_; rintro _ _ ⟨rfl, rfl⟩)); rw [contF]; refine ⟨?_, ?_⟩; (next => (repeat (with_reducible first | exact Below.refl _ _ | assumption | refine Below.drewN _ ?_ | refine Below.drew ?_ | refine Below_alloc ?_ _ | refine Below.alloc ?_ (by first | (simp; done) | (simp; omega) | omega) _ | refine Below.setCell ?_ (by first | (simp; done) | (simp; omega) | omega) _ | refine Below_call ?_ (by assumption) | refine Below.trans ?_ (by assumption)))))
        (rw [wpSteps])
        (rw [wpMixC]; simp only [pick, List.drop_succ_cons, List.drop_zero, List.head?_cons, Option.toList_some, List.cons_append, List.nil_append])
        (repeat (first | go_big_quiet_skip | (go_big_quiet_want; refine quiet_simple rfl ?_; go_big_quiet_op; go_big_quiet_on) | (go_big_quiet_want; refine quiet_cellB (ty := 3) rfl rfl (by kernel_rfl) (by assumption) (by first | omega | (simp; omega)) ?_; simp only [Act.put, List.setIfInBounds_toArray, List.set_cons_succ, List.set_cons_zero]; go_big_quiet_on)))
        (try refine wpQuiet_nil ?_)
        (rw [wpMixC]; simp only [pick, List.drop_succ_cons, List.drop_zero, List.head?_cons, Option.toList_some, List.cons_append, List.nil_append])
        (rw [wpSteps]; go_wp2_with (fail); rw [contF]; refine ⟨?_, ?_⟩; (next => (repeat (with_reducible first | exact Below.refl _ _ | assumption | refine Below.drewN _ ?_ | refine Below.drew ?_ | refine Below_alloc ?_ _ | refine Below.alloc ?_ (by first | (simp; done) | (simp; omega) | omega) _ | refine Below.setCell ?_ (by first | (simp; done) | (simp; omega) | omega) _ | refine Below_call ?_ (by assumption) | refine Below.trans ?_ (by assumption)))))
        (rw [wpSteps])
        (rw [wpMixC])
        (rw [wpMix])
        (refine hQ' _ _ ?_)
        go_wp2_with fail
        go_roundw
        case rel => exact ⟨1, ax, o1, o2, by omega, by go_num, hid (heap_setCell_same _ _ 0 _ _ _ HR.out), hid ⟨fun _ => rfl, fun h => absurd h (by omega), fun h => absurd h (by omega)⟩, by (repeat (with_reducible first | exact Below.refl _ _ | assumption | refine Below.drewN _ ?_ | refine Below.drew ?_ | refine Below_alloc ?_ _ | refine Below.alloc ?_ (by first | (simp; done) | (simp; omega) | omega) _ | refine Below.setCell ?_ (by first | (simp; done) | (simp; omega) | omega) _ | refine Below_call ?_ (by assumption) | refine Below.trans ?_ (by assumption)))⟩
        case measure => simp [intOf]
      · obtain ⟨k5, k6⟩ := kAy.out
        go_wp2_with fail
        refine wp_mixC (fun wc => Below (w7.heap.size) wr wc) 16 [.q [0, 1, 2, 3, 4, 5, 6, 7, 8, 9, 13], .f [10], .q [11, 12, 14], .f [15]] [] (by kernel_rfl) (by kernel_rfl) ((Below.refl _ _).drew) ?_
        intro Q' hQ'
        (rw [wpMixC]; simp only [pick, List.drop_succ_cons, List.drop_zero, List.head?_cons, Option.toList_some, List.cons_append, List.nil_append])
        (repeat (first | go_big_quiet_skip | (go_big_quiet_want; refine quiet_simple rfl ?_; go_big_quiet_op; go_big_quiet_on) | (go_big_quiet_want; refine quiet_cellB (ty := 3) rfl rfl (by kernel_rfl) (by assumption) (by first | omega | (simp; omega)) ?_; simp only [Act.put, List.setIfInBounds_toArray, List.set_cons_succ, List.set_cons_zero]; go_big_quiet_on)))
        (try refine wpQuiet_nil ?_)
        (rw [wpMixC]; simp only [pick, List.drop_succ_cons, List.drop_zero, List.head?_cons, Option.toList_some, List.cons_append, List.nil_append])
        (rw [wpSteps]; go_wp2_with ((go_at_call 27; refine (HM.out _).mono ?_; rintro _ _ ⟨rfl, rfl⟩)); rw [contF]; refine ⟨?_, ?_⟩; (next => (repeat (with_reducible first | exact Below.refl _ _ | assumption | refine Below.drewN _ ?_ | refine Below.drew ?_ | refine Below_alloc ?_ _ | refine Below.alloc ?_ (by first | (simp; done) | (simp; omega) | omega) _ | refine Below.setCell ?_ (by first | (simp; done) | (simp; omega) | omega) _ | refine Below_call ?_ (by assumption) | refine Below.trans ?_ (by assumption)))))
        (rw [wpSteps])
        (rw [wpMixC]; simp only [pick, List.drop_succ_cons, List.drop_zero, List.head?_cons, Option.toList_some, List.cons_append, List.nil_append])
        (repeat (first | go_big_quiet_skip | (go_big_quiet_want; refine quiet_simple rfl ?_; go_big_quiet_op; go_big_quiet_on) | (go_big_quiet_want; refine quiet_cellB (ty := 3) rfl rfl (by kernel_rfl) (by assumption) (by first | omega | (simp; omega)) ?_; simp only [Act.put, List.setIfInBounds_toArray, List.set_cons_succ, List.set_cons_zero]; go_big_quiet_on)))
        (try refine wpQuiet_nil ?_)
        (rw [wpMixC]; simp only [pick, List.drop_succ_cons, List.drop_zero, List.head?_cons, Option.toList_some, List.cons_append, List.nil_append])
        (rw [wpSteps]; go_wp2_with (fail); rw [contF]; refine ⟨?_, ?_⟩; (next => (repeat (with_reducible first | exact Below.refl _ _ | assumption | refine Below.drewN _ ?_ | refine Below.drew ?_ | refine Below_alloc ?_ _ | refine Below.alloc ?_ (by first | (simp; done) | (simp; omega) | omega) _ | refine Below.setCell ?_ (by first | (simp; done) | (simp; omega) | omega) _ | refine Below_call ?_ (by assumption) | refine Below.trans ?_ (by assumption)))))
        (rw [wpSteps])
        (rw [wpMixC])
        (rw [wpMix])
        (refine hQ' _ _ ?_)
        go_wp2_with fail
        go_roundw
        case rel => exact ⟨2, o0, ay, o2, by omega, by go_num, hid (heap_setCell_same _ _ 1 _ _ _ HR.out), hid ⟨fun _ => HO.out.1 (by omega), fun _ => rfl, fun h => absurd h (by omega)⟩, by (repeat (with_reducible first | exact Below.refl _ _ | assumption | refine Below.drewN _ ?_ | refine Below.drew ?_ | refine Below_alloc ?_ _ | refine Below.alloc ?_ (by first | (simp; done) | (simp; omega) | omega) _ | refine Below.setCell ?_ (by first | (simp; done) | (simp; omega) | omega) _ | refine Below_call ?_ (by assumption) | refine Below.trans ?_ (by assumption)))⟩
        case measure => simp [intOf]
      · obtain ⟨k5, k6⟩ := kAz.out
        go_wp2_with fail
        refine wp_mixC (fun wc => Below (w7.heap.size) wr wc) 16 [.q [0, 1, 2, 3, 4, 5, 6, 7, 8, 9, 13], .f [10], .q [11, 12, 14], .f [15]] [] (by kernel_rfl) (by kernel_rfl) ((Below.refl _ _).drew) ?_
        intro Q' hQ'
        (rw [wpMixC]; simp only [pick, List.drop_succ_cons, List.drop_zero, List.head?_cons, Option.toList_some, List.cons_append, List.nil_append])
        (repeat (first | go_big_quiet_skip | (go_big_quiet_want; refine quiet_simple rfl ?_; go_big_quiet_op; go_big_quiet_on) | (go_big_quiet_want; refine quiet_cellB (ty := 3) rfl rfl (by kernel_rfl) (by assumption) (by first | omega | (simp; omega)) ?_; simp only [Act.put, List.setIfInBounds_toArray, List.set_cons_succ, List.set_cons_zero]; go_big_quiet_on)))
        (try refine wpQuiet_nil ?_)
        (rw [wpMixC]; simp only [pick, List.drop_succ_cons, List.drop_zero, List.head?_cons, Option.toList_some, List.cons_append, List.nil_append])
        (rw [wpSteps]; go_wp2_with ((go_at_call 27; refine (HM.out _).mono ?_; rintro _ _ ⟨rfl, rfl⟩)); rw [contF]; refine ⟨?_, ?_⟩; (next => (repeat (with_reducible first | exact Below.refl _ _ | assumption | refine Below.drewN _ ?_ | refine Below.drew ?_ | refine Below_alloc ?_ _ | refine Below.alloc ?_ (by first | (simp; done) | (simp; omega) | omega) _ | refine Below.setCell ?_ (by first | (simp; done) | (simp; omega) | omega) _ | refine Below_call ?_ (by assumption) | refine Below.trans ?_ (by assumption)))))
        (rw [wpSteps])
        (rw [wpMixC]; simp only [pick, List.drop_succ_cons, List.drop_zero, List.head?_cons, Option.toList_some, List.cons_append, List.nil_append])
        (repeat (first | go_big_quiet_skip | (go_big_quiet_want; refine quiet_simple rfl ?_; go_big_quiet_op; go_big_quiet_on) | (go_big_quiet_want; refine quiet_cellB (ty := 3) rfl rfl (by kernel_rfl) (by assumption) (by first | omega | (simp; omega)) ?_; simp only [Act.put, List.setIfInBounds_toArray, List.set_cons_succ, List.set_cons_zero]; go_big_quiet_on)))
        (try refine wpQuiet_nil ?_)
        (rw [wpMixC]; simp only [pick, List.drop_succ_cons, List.drop_zero, List.head?_cons, Option.toList_some, List.cons_append, List.nil_append])
        (rw [wpSteps]; go_wp2_with (fail); rw [contF]; refine ⟨?_, ?_⟩; (next => (repeat (with_reducible first | exact Below.refl _ _ | assumption | refine Below.drewN _ ?_ | refine Below.drew ?_ | refine Below_alloc ?_ _ | refine Below.alloc ?_ (by first | (simp; done) | (simp; omega) | omega) _ | refine Below.setCell ?_ (by first | (simp; done) | (simp; omega) | omega) _ | refine Below_call ?_ (by assumption) | refine Below.trans ?_ (by assumption)))))
        (rw [wpSteps])
        (rw [wpMixC])
        (rw [wpMix])
        (refine hQ' _ _ ?_)
        go_wp2_with fail
        go_roundw
        case rel => exact ⟨3, o0, o1, az, by omega, by go_num, hid (heap_setCell_same _ _ 2 _ _ _ HR.out), hid ⟨fun _ => HO.out.1 (by omega), fun _ => HO.out.2.1 (by omega), fun _ => rfl⟩, by (repeat (with_reducible first | exact Below.refl _ _ | assumption | refine Below.drewN _ ?_ | refine Below.drew ?_ | refine Below_alloc ?_ _ | refine Below.alloc ?_ (by first | (simp; done) | (simp; omega) | omega) _ | refine Below.setCell ?_ (by first | (simp; done) | (simp; omega) | omega) _ | refine Below_call ?_ (by assumption) | refine Below.trans ?_ (by assumption)))⟩
        case measure => simp [intOf]
      · have e0 := HO.out.1 (by omega)
        have e1 := HO.out.2.1 (by omega)
        have e2 := HO.out.2.2 (by omega)
        have HR9 : Hid (wr.heap[w7.heap.size]? = some (.cells #[.int .i64 ax, .int .i64 ay, .int .i64 az, .int .i64 at_] 28 (0, 0))) := hid (by have := HR.out; rw [e0, e1, e2] at this; exact this)
        clear HR HO e0 e1 e2 f0 f1 f2 f3 hlf ff0 ff1 ff2
        obtain ⟨f0, f1, f2, f3, hlf⟩ := four_row HR9.out
        go_wp2_with fail
        refine (RM.out _).mono ?_
        rintro _ w9 ⟨rfl, hb9⟩
        have HR10 := hid ((hb9.block w7.heap.size hlf).trans HR9.out)
        have hb09 : Below W0.heap.size W0 w9 := hb0r.trans (hb9.mono hb0r.size)
        clear m0 m1 m2 m3 m4 m5 m6 m7 m8 m9 m10 m11 ml s0 s1 s2 hls x0 x1 x2 x3 x4 x5 x6 x7 hlx f0 f1 f2 f3 hlf
        obtain ⟨m0, m1, m2, m3, m4, m5, m6, m7, m8, m9, m10, m11, ml⟩ := tw_cells ((hb09.block w.heap.size l0).trans Q0.out)
        obtain ⟨s0, s1, s2, fs0, fs1, fs2, hls⟩ := three_cells ((hb09.block (w.heap.size + 1) l1).trans Q1.out)
        clear fs0 fs1 fs2
        obtain ⟨x0, x1, x2, x3, x4, x5, x6, x7, hlx⟩ := eight_row ((hb09.block (w.heap.size + 1 + 1) l2).trans Q2.out)
        obtain ⟨f0, f1, f2, f3, hlf⟩ := four_row HR10.out
        go_wp2_with fail
        refine (HR4.out _).mono ?_
        rintro _ w10 ⟨rfl, hb10⟩
        have hb010 : Below W0.heap.size W0 w10 := hb09.trans (hb10.mono hb09.size)
        clear m0 m1 m2 m3 m4 m5 m6 m7 m8 m9 m10 m11 ml s0 s1 s2 hls x0 x1 x2 x3 x4 x5 x6 x7 hlx f0 f1 f2 f3 hlf
        obtain ⟨m0, m1, m2, m3, m4, m5, m6, m7, m8, m9, m10, m11, ml⟩ := tw_cells ((hb010.block w.heap.size l0).trans Q0.out)
        obtain ⟨s0, s1, s2, fs0, fs1, fs2, hls⟩ := three_cells ((hb010.block (w.heap.size + 1) l1).trans Q1.out)
        clear fs0 fs1 fs2
        obtain ⟨x0, x1, x2, x3, x4, x5, x6, x7, hlx⟩ := eight_row ((hb010.block (w.heap.size + 1 + 1) l2).trans Q2.out)
        clear HR8 HR9 HR10 hbX8 hbel hz07 hzr
        go_wp2_with fail
        refine wp_mixC (fun wc => Below (w10.heap.size) w10 wc) 6 [.q [0, 1, 2], .p 3 4, .f [5]] [.f [6]] (by kernel_rfl) (by kernel_rfl) ((Below.refl _ _).drew) ?_
        intro Q' hQ'
        (rw [wpMixC]; simp only [pick, List.drop_succ_cons, List.drop_zero, List.head?_cons, Option.toList_some, List.cons_append, List.nil_append])
        (repeat (first | go_big_quiet_skip | (go_big_quiet_want; refine quiet_simple rfl ?_; go_big_quiet_op; go_big_quiet_on) | (go_big_quiet_want; refine quiet_agg3B (ty := 22) rfl rfl (by kernel_rfl) (by assumption) (by assumption) (by assumption) (by first | omega | (simp; omega)) ?_; simp only [Act.put, List.setIfInBounds_toArray, List.set_cons_succ, List.set_cons_zero]; go_big_quiet_on) | (go_big_quiet_want; refine quiet_agg12B (ty := 26) rfl rfl (by kernel_rfl) (by assumption) (by assumption) (by assumption) (by assumption) (by assumption) (by assumption) (by assumption) (by assumption) (by assumption) (by assumption) (by assumption) (by assumption) (by first | omega | (simp; omega)) ?_; simp only [Act.put, List.setIfInBounds_toArray, List.set_cons_succ, List.set_cons_zero]; go_big_quiet_on)))
        (try refine wpQuiet_nil ?_)
        (rw [wpMixC]; simp only [pick, List.drop_succ_cons, List.drop_zero, List.head?_cons, Option.toList_some, List.cons_append, List.nil_append])
        (refine ⟨?_, ?_⟩)
        all_goals (rw [wpSteps]; go_wp2_with (fail); rw [contF]; refine ⟨?_, ?_⟩; (next => (repeat (with_reducible first | exact Below.refl _ _ | assumption | refine Below.drewN _ ?_ | refine Below.drew ?_ | refine Below_alloc ?_ _ | refine Below.alloc ?_ (by first | (simp; done) | (simp; omega) | omega) _ | refine Below.setCell ?_ (by first | (simp; done) | (simp; omega) | omega) _ | refine Below_call ?_ (by assumption) | refine Below.trans ?_ (by assumption)))))
        all_goals (rw [wpSteps]; go_wp2_with (fail); rw [contF]; refine ⟨?_, ?_⟩; (next => (repeat (with_reducible first | exact Below.refl _ _ | assumption | refine Below.drewN _ ?_ | refine Below.drew ?_ | refine Below_alloc ?_ _ | refine Below.alloc ?_ (by first | (simp; done) | (simp; omega) | omega) _ | refine Below.setCell ?_ (by first | (simp; done) | (simp; omega) | omega) _ | refine Below_call ?_ (by assumption) | refine Below.trans ?_ (by assumption)))))
        all_goals (rw [wpSteps])
        all_goals (rw [wpMixC]; simp only [pick, List.drop_succ_cons, List.drop_zero, List.head?_cons, Option.toList_some, List.cons_append, List.nil_append])
        all_goals (rw [wpSteps]; go_wp2_with (fail); rw [contF]; refine ⟨?_, ?_⟩; (next => (repeat (with_reducible first | exact Below.refl _ _ | assumption | refine Below.drewN _ ?_ | refine Below.drew ?_ | refine Below_alloc ?_ _ | refine Below.alloc ?_ (by first | (simp; done) | (simp; omega) | omega) _ | refine Below.setCell ?_ (by first | (simp; done) | (simp; omega) | omega) _ | refine Below_call ?_ (by assumption) | refine Below.trans ?_ (by assumption)))))
        all_goals (rw [wpSteps])
        all_goals (rw [wpMixC])
        all_goals (rw [wpMix]; simp only [pick, List.drop_succ_cons, List.drop_zero, List.head?_cons, Option.toList_some, List.cons_append, List.nil_append])
        all_goals (go_wp2_with ((first | fail)); rw [contF])
        all_goals (rw [wpMix])
        all_goals (refine hQ' _ _ ?_)
        · obtain ⟨W11, hW11⟩ : ∃ W11, W11 = ((w10.alloc (.cells #[.int .i64 px, .int .i64 py, .int .i64 pz, .int .i64 tm, .int .i64 tk, .int .i64 lo, .int .i64 hi, .int .i64 li, .int .i64 ea, .int .i64 la, .int .i64 no, .int .i64 mi] 26)).alloc (.cells #[.int .i64 qx, .int .i64 qy, .int .i64 qz] 22)).drew := ⟨_, rfl⟩
          have hbX11 : Below W0.heap.size W0 W11 := by rw [hW11]; (repeat (with_reducible first | exact Below.refl _ _ | assumption | refine Below.drewN _ ?_ | refine Below.drew ?_ | refine Below_alloc ?_ _ | refine Below.alloc ?_ (by first | (simp; done) | (simp; omega) | omega) _ | refine Below.setCell ?_ (by first | (simp; done) | (simp; omega) | omega) _ | refine Below_call ?_ (by assumption) | refine Below.trans ?_ (by assumption)))
          obtain ⟨y0, y1, ly0, ly1⟩ := al2 w10 _ _ _ _ _ rfl
          have YM := hid (show W11.heap[w10.heap.size]? = some (.cells #[.int .i64 px, .int .i64 py, .int .i64 pz, .int .i64 tm, .int .i64 tk, .int .i64 lo, .int .i64 hi, .int .i64 li, .int .i64 ea, .int .i64 la, .int .i64 no, .int .i64 mi] 26 (0, 0)) by rw [hW11]; exact y0)
          have YP := hid (show W11.heap[(w10.heap.size + 1)]? = some (.cells #[.int .i64 qx, .int .i64 qy, .int .i64 qz] 22 (0, 0)) by rw [hW11]; exact y1)
          clear y0 y1 ly0 ly1
          clear m0 m1 m2 m3 m4 m5 m6 m7 m8 m9 m10 m11 ml s0 s1 s2 hls x0 x1 x2 x3 x4 x5 x6 x7 hlx
          obtain ⟨m0, m1, m2, m3, m4, m5, m6, m7, m8, m9, m10, m11, ml⟩ := tw_cells ((hbX11.block w.heap.size l0).trans Q0.out)
          obtain ⟨s0, s1, s2, fs0, fs1, fs2, hls⟩ := three_cells ((hbX11.block (w.heap.size + 1) l1).trans Q1.out)
          clear fs0 fs1 fs2
          obtain ⟨x0, x1, x2, x3, x4, x5, x6, x7, hlx⟩ := eight_row ((hbX11.block (w.heap.size + 1 + 1) l2).trans Q2.out)
          have fm3 := frozen_of_row W11 w10.heap.size 3 _ _ YM.out
          have g3 : W11.cell? ⟨w10.heap.size, 3, none⟩ = some (.int .i64 tm) := by rw [cell_of_row W11 _ 3 _ _ (0, 0) YM.out]; rfl
          have hlm : w10.heap.size < W11.heap.size := (Array.getElem?_eq_some_iff.1 YM.out).1
          have hzq := hb010.size
          rw [← hW11]
          clear hW11
          go_wp2_with fail
          obtain ⟨W12, hW12⟩ : ∃ W12, W12 = W11.setCell ⟨w10.heap.size, 3, none⟩ (.int .i64 ut) := ⟨_, rfl⟩
          have hbX12 : Below W0.heap.size W0 W12 := by rw [hW12]; exact hbX11.setCell (by show W0.heap.size ≤ w10.heap.size; omega) _
          have ZM := hid (show W12.heap[w10.heap.size]? = some (.cells #[.int .i64 px, .int .i64 py, .int .i64 pz, .int .i64 ut, .int .i64 tk, .int .i64 lo, .int .i64 hi, .int .i64 li, .int .i64 ea, .int .i64 la, .int .i64 no, .int .i64 mi] 26 (0, 0)) by rw [hW12]; exact heap_setCell_same _ _ 3 _ _ _ YM.out)
          have ZP := hid (show W12.heap[(w10.heap.size + 1)]? = some (.cells #[.int .i64 qx, .int .i64 qy, .int .i64 qz] 22 (0, 0)) by rw [hW12, heap_setCell_ne _ _ _ _ _ (by omega)]; exact YP.out)
          clear YM YP fm3 g3 hlm hbX11
          clear m0 m1 m2 m3 m4 m5 m6 m7 m8 m9 m10 m11 ml s0 s1 s2 hls x0 x1 x2 x3 x4 x5 x6 x7 hlx
          rw [← hW12]
          clear hW12
          go_loopw [22] (fun i wr => ∃ (k : Nat) (o0 o1 o2 u0 u1 u2 : Int), k ≤ 3 ∧ i = .int .i64 k ∧ Hid (wr.heap[w10.heap.size]? = some (.cells #[.int .i64 o0, .int .i64 o1, .int .i64 o2, .int .i64 ut, .int .i64 tk, .int .i64 lo, .int .i64 hi, .int .i64 li, .int .i64 ea, .int .i64 la, .int .i64 no, .int .i64 mi] 26 (0, 0))) ∧ Hid (wr.heap[(w10.heap.size + 1)]? = some (.cells #[.int .i64 u0, .int .i64 u1, .int .i64 u2] 22 (0, 0))) ∧ Hid (((0 < k → o0 = ux) ∧ (1 < k → o1 = uy) ∧ (2 < k → o2 = uz)) ∧ ((0 < k → u0 = ex) ∧ (1 < k → u1 = ey) ∧ (2 < k → u2 = ez))) ∧ Below W0.heap.size W0 wr) (fun i _ => 3 - (intOf i).toNat)
          case atStart => exact ⟨0, _, _, _, _, _, _, by omega, rfl, ZM, ZP, hid ⟨⟨by omega, by omega, by omega⟩, ⟨by omega, by omega, by omega⟩⟩, hbX12⟩
          case round =>
            obtain ⟨k, o0, o1, o2, u0, u1, u2, hk, rfl, HRM, HRP, HO, hb0s⟩ := hrel
            obtain ⟨m0, m1, m2, m3, m4, m5, m6, m7, m8, m9, m10, m11, ml⟩ := tw_cells ((hb0s.block w.heap.size l0).trans Q0.out)
            obtain ⟨s0, s1, s2, fs0, fs1, fs2, hls⟩ := three_cells ((hb0s.block (w.heap.size + 1) l1).trans Q1.out)
            clear fs0 fs1 fs2
            obtain ⟨x0, x1, x2, x3, x4, x5, x6, x7, hlx⟩ := eight_row ((hb0s.block (w.heap.size + 1 + 1) l2).trans Q2.out)
            obtain ⟨d0, d1, d2, fd0, fd1, fd2, hld⟩ := three_cells HRP.out
            have fm0 := frozen_of_row wr _ 0 _ _ HRM.out
            have fm1 := frozen_of_row wr _ 1 _ _ HRM.out
            have fm2 := frozen_of_row wr _ 2 _ _ HRM.out
            obtain ⟨g0, g1, g2, g3, g4, g5, g6, g7, g8, g9, g10, g11, gl⟩ := tw_cells HRM.out
            rcases (by omega : k = 0 ∨ k = 1 ∨ k = 2 ∨ k = 3) with rfl | rfl | rfl | rfl
            · obtain ⟨k5, k6⟩ := kBx.out
              go_wp2_with fail
              refine wp_mixC (fun wc => Below (W0.heap.size) wr wc) 23 [.q [0, 1, 2, 3, 4, 5, 6, 7, 8, 9, 10, 11, 12, 13, 14, 15, 16, 17, 18, 19, 20, 21], .f [22]] [.q [23], .f [24]] (by kernel_rfl) (by kernel_rfl) ((Below.refl _ _).drew) ?_
              intro Q' hQ'
              (rw [wpMixC]; simp only [pick, List.drop_succ_cons, List.drop_zero, List.head?_cons, Option.toList_some, List.cons_append, List.nil_append])
              (repeat (first | go_big_quiet_skip | (go_big_quiet_want; refine quiet_simple rfl ?_; go_big_quiet_op; go_big_quiet_on) | (go_big_quiet_want; refine quiet_cellB (ty := 3) rfl rfl (by kernel_rfl) (by assumption) (by first | omega | (simp; omega)) ?_; simp only [Act.put, List.setIfInBounds_toArray, List.set_cons_succ, List.set_cons_zero]; go_big_quiet_on)))
              (try refine wpQuiet_nil ?_)
              (rw [wpMixC]; simp only [pick, List.drop_succ_cons, List.drop_zero, List.head?_cons, Option.toList_some, List.cons_append, List.nil_append])
              (rw [wpSteps]; go_wp2_with (fail); rw [contF]; refine ⟨?_, ?_⟩; (next => (repeat (with_reducible first | exact Below.refl _ _ | assumption | refine Below.drewN _ ?_ | refine Below.drew ?_ | refine Below_alloc ?_ _ | refine Below.alloc ?_ (by first | (simp; done) | (simp; omega) | omega) _ | refine Below.setCell ?_ (by first | (simp; done) | (simp; omega) | omega) _ | refine Below_call ?_ (by assumption) | refine Below.trans ?_ (by assumption)))))
              (rw [wpSteps])
              (rw [wpMixC])
              (rw [wpMix]; simp only [pick, List.drop_succ_cons, List.drop_zero, List.head?_cons, Option.toList_some, List.cons_append, List.nil_append])
              (repeat (first | (go_big_quiet_step (fail)) | (quiet_step (fail))))
              (try refine wpQuiet_nil ?_)
              (rw [wpMix]; simp only [pick, List.drop_succ_cons, List.drop_zero, List.head?_cons, Option.toList_some, List.cons_append, List.nil_append])
              (go_wp2_with ((first | fail)); rw [contF])
              (rw [wpMix])
              (refine hQ' _ _ ?_)
              go_wp2_with fail
              go_roundw
              case rel => exact ⟨1, ux, o1, o2, ex, u1, u2, by omega, by go_num, hid ((heap_setCell_ne _ (w10.heap.size) ((w10.heap.size + 1)) _ _ (by omega)).trans (heap_setCell_same _ _ 0 _ _ _ HRM.out)), hid (heap_setCell_same _ _ 0 _ _ _ ((heap_setCell_ne _ ((w10.heap.size + 1)) (w10.heap.size) _ _ (by omega)).trans HRP.out)), hid ⟨⟨fun _ => rfl, fun h => absurd h (by omega), fun h => absurd h (by omega)⟩, ⟨fun _ => rfl, fun h => absurd h (by omega), fun h => absurd h (by omega)⟩⟩, by (repeat (with_reducible first | exact Below.refl _ _ | assumption | refine Below.drewN _ ?_ | refine Below.drew ?_ | refine Below_alloc ?_ _ | refine Below.alloc ?_ (by first | (simp; done) | (simp; omega) | omega) _ | refine Below.setCell ?_ (by first | (simp; done) | (simp; omega) | omega) _ | refine Below_call ?_ (by assumption) | refine Below.trans ?_ (by assumption)))⟩
              case measure => simp [intOf]
            · obtain ⟨k5, k6⟩ := kBy.out
              go_wp2_with fail
              refine wp_mixC (fun wc => Below (W0.heap.size) wr wc) 23 [.q [0, 1, 2, 3, 4, 5, 6, 7, 8, 9, 10, 11, 12, 13, 14, 15, 16, 17, 18, 19, 20, 21], .f [22]] [.q [23], .f [24]] (by kernel_rfl) (by kernel_rfl) ((Below.refl _ _).drew) ?_
              intro Q' hQ'
              (rw [wpMixC]; simp only [pick, List.drop_succ_cons, List.drop_zero, List.head?_cons, Option.toList_some, List.cons_append, List.nil_append])
              (repeat (first | go_big_quiet_skip | (go_big_quiet_want; refine quiet_simple rfl ?_; go_big_quiet_op; go_big_quiet_on) | (go_big_quiet_want; refine quiet_cellB (ty := 3) rfl rfl (by kernel_rfl) (by assumption) (by first | omega | (simp; omega)) ?_; simp only [Act.put, List.setIfInBounds_toArray, List.set_cons_succ, List.set_cons_zero]; go_big_quiet_on)))
              (try refine wpQuiet_nil ?_)
              (rw [wpMixC]; simp only [pick, List.drop_succ_cons, List.drop_zero, List.head?_cons, Option.toList_some, List.cons_append, List.nil_append])
              (rw [wpSteps]; go_wp2_with (fail); rw [contF]; refine ⟨?_, ?_⟩; (next => (repeat (with_reducible first | exact Below.refl _ _ | assumption | refine Below.drewN _ ?_ | refine Below.drew ?_ | refine Below_alloc ?_ _ | refine Below.alloc ?_ (by first | (simp; done) | (simp; omega) | omega) _ | refine Below.setCell ?_ (by first | (simp; done) | (simp; omega) | omega) _ | refine Below_call ?_ (by assumption) | refine Below.trans ?_ (by assumption)))))
              (rw [wpSteps])
              (rw [wpMixC])
              (rw [wpMix]; simp only [pick, List.drop_succ_cons, List.drop_zero, List.head?_cons, Option.toList_some, List.cons_append, List.nil_append])
              (repeat (first | (go_big_quiet_step (fail)) | (quiet_step (fail))))
              (try refine wpQuiet_nil ?_)
              (rw [wpMix]; simp only [pick, List.drop_succ_cons, List.drop_zero, List.head?_cons, Option.toList_some, List.cons_append, List.nil_append])
              (go_wp2_with ((first | fail)); rw [contF])
              (rw [wpMix])
              (refine hQ' _ _ ?_)
              go_wp2_with fail
              go_roundw
              case rel => exact ⟨2, o0, uy, o2, u0, ey, u2, by omega, by go_num, hid ((heap_setCell_ne _ (w10.heap.size) ((w10.heap.size + 1)) _ _ (by omega)).trans (heap_setCell_same _ _ 1 _ _ _ HRM.out)), hid (heap_setCell_same _ _ 1 _ _ _ ((heap_setCell_ne _ ((w10.heap.size + 1)) (w10.heap.size) _ _ (by omega)).trans HRP.out)), hid ⟨⟨fun _ => HO.out.1.1 (by omega), fun _ => rfl, fun h => absurd h (by omega)⟩, ⟨fun _ => HO.out.2.1 (by omega), fun _ => rfl, fun h => absurd h (by omega)⟩⟩, by (repeat (with_reducible first | exact Below.refl _ _ | assumption | refine Below.drewN _ ?_ | refine Below.drew ?_ | refine Below_alloc ?_ _ | refine Below.alloc ?_ (by first | (simp; done) | (simp; omega) | omega) _ | refine Below.setCell ?_ (by first | (simp; done) | (simp; omega) | omega) _ | refine Below_call ?_ (by assumption) | refine Below.trans ?_ (by assumption)))⟩
              case measure => simp [intOf]
            · obtain ⟨k5, k6⟩ := kBz.out
              go_wp2_with fail
              refine wp_mixC (fun wc => Below (W0.heap.size) wr wc) 23 [.q [0, 1, 2, 3, 4, 5, 6, 7, 8, 9, 10, 11, 12, 13, 14, 15, 16, 17, 18, 19, 20, 21], .f [22]] [.q [23], .f [24]] (by kernel_rfl) (by kernel_rfl) ((Below.refl _ _).drew) ?_
              intro Q' hQ'
              (rw [wpMixC]; simp only [pick, List.drop_succ_cons, List.drop_zero, List.head?_cons, Option.toList_some, List.cons_append, List.nil_append])
              (repeat (first | go_big_quiet_skip | (go_big_quiet_want; refine quiet_simple rfl ?_; go_big_quiet_op; go_big_quiet_on) | (go_big_quiet_want; refine quiet_cellB (ty := 3) rfl rfl (by kernel_rfl) (by assumption) (by first | omega | (simp; omega)) ?_; simp only [Act.put, List.setIfInBounds_toArray, List.set_cons_succ, List.set_cons_zero]; go_big_quiet_on)))
              (try refine wpQuiet_nil ?_)
              (rw [wpMixC]; simp only [pick, List.drop_succ_cons, List.drop_zero, List.head?_cons, Option.toList_some, List.cons_append, List.nil_append])
              (rw [wpSteps]; go_wp2_with (fail); rw [contF]; refine ⟨?_, ?_⟩; (next => (repeat (with_reducible first | exact Below.refl _ _ | assumption | refine Below.drewN _ ?_ | refine Below.drew ?_ | refine Below_alloc ?_ _ | refine Below.alloc ?_ (by first | (simp; done) | (simp; omega) | omega) _ | refine Below.setCell ?_ (by first | (simp; done) | (simp; omega) | omega) _ | refine Below_call ?_ (by assumption) | refine Below.trans ?_ (by assumption)))))
              (rw [wpSteps])
              (rw [wpMixC])
              (rw [wpMix]; simp only [pick, List.drop_succ_cons, List.drop_zero, List.head?_cons, Option.toList_some, List.cons_append, List.nil_append])
              (repeat (first | (go_big_quiet_step (fail)) | (quiet_step (fail))))
              (try refine wpQuiet_nil ?_)
              (rw [wpMix]; simp only [pick, List.drop_succ_cons, List.drop_zero, List.head?_cons, Option.toList_some, List.cons_append, List.nil_append])
              (go_wp2_with ((first | fail)); rw [contF])
              (rw [wpMix])
              (refine hQ' _ _ ?_)
              go_wp2_with fail
              go_roundw
              case rel => exact ⟨3, o0, o1, uz, u0, u1, ez, by omega, by go_num, hid ((heap_setCell_ne _ (w10.heap.size) ((w10.heap.size + 1)) _ _ (by omega)).trans (heap_setCell_same _ _ 2 _ _ _ HRM.out)), hid (heap_setCell_same _ _ 2 _ _ _ ((heap_setCell_ne _ ((w10.heap.size + 1)) (w10.heap.size) _ _ (by omega)).trans HRP.out)), hid ⟨⟨fun _ => HO.out.1.1 (by omega), fun _ => HO.out.1.2.1 (by omega), fun _ => rfl⟩, ⟨fun _ => HO.out.2.1 (by omega), fun _ => HO.out.2.2.1 (by omega), fun _ => rfl⟩⟩, by (repeat (with_reducible first | exact Below.refl _ _ | assumption | refine Below.drewN _ ?_ | refine Below.drew ?_ | refine Below_alloc ?_ _ | refine Below.alloc ?_ (by first | (simp; done) | (simp; omega) | omega) _ | refine Below.setCell ?_ (by first | (simp; done) | (simp; omega) | omega) _ | refine Below_call ?_ (by assumption) | refine Below.trans ?_ (by assumption)))⟩
              case measure => simp [intOf]
            · have e0 := HO.out.1.1 (by omega)
              have e1 := HO.out.1.2.1 (by omega)
              have e2 := HO.out.1.2.2 (by omega)
              have j0 := HO.out.2.1 (by omega)
              have j1 := HO.out.2.2.1 (by omega)
              have j2 := HO.out.2.2.2 (by omega)
              have RMv : Hid (wr.heap[w10.heap.size]? = some (.cells #[.int .i64 ux, .int .i64 uy, .int .i64 uz, .int .i64 ut, .int .i64 tk, .int .i64 lo, .int .i64 hi, .int .i64 li, .int .i64 ea, .int .i64 la, .int .i64 no, .int .i64 mi] 26 (0, 0))) := hid (by have := HRM.out; rw [e0, e1, e2] at this; exact this)
              have RPv : Hid (wr.heap[(w10.heap.size + 1)]? = some (.cells #[.int .i64 ex, .int .i64 ey, .int .i64 ez] 22 (0, 0))) := hid (by have := HRP.out; rw [j0, j1, j2] at this; exact this)
              clear HRM HRP HO e0 e1 e2 j0 j1 j2 d0 d1 d2 fd0 fd1 fd2 hld fm0 fm1 fm2 g0 g1 g2 g3 g4 g5 g6 g7 g8 g9 g10 g11 gl ZM ZP hbX12
              obtain ⟨g0, g1, g2, g3, g4, g5, g6, g7, g8, g9, g10, g11, gl⟩ := tw_cells RMv.out
              obtain ⟨d0, d1, d2, fd0, fd1, fd2, hld⟩ := three_cells RPv.out
              clear fd0 fd1 fd2
              go_wp2_with fail
              refine (RE.out _).mono ?_
              rintro _ w20 ⟨rfl, hb20⟩
              have hb0t : Below W0.heap.size W0 w20 := hb0s.trans (hb20.mono hb0s.size)
              clear m0 m1 m2 m3 m4 m5 m6 m7 m8 m9 m10 m11 ml s0 s1 s2 hls x0 x1 x2 x3 x4 x5 x6 x7 hlx
              clear g0 g1 g2 g3 g4 g5 g6 g7 g8 g9 g10 g11 gl d0 d1 d2 hld
              obtain ⟨m0, m1, m2, m3, m4, m5, m6, m7, m8, m9, m10, m11, ml⟩ := tw_cells ((hb0t.block w.heap.size l0).trans Q0.out)
              obtain ⟨s0, s1, s2, fs0, fs1, fs2, hls⟩ := three_cells ((hb0t.block (w.heap.size + 1) l1).trans Q1.out)
              clear fs0 fs1 fs2
              obtain ⟨x0, x1, x2, x3, x4, x5, x6, x7, hlx⟩ := eight_row ((hb0t.block (w.heap.size + 1 + 1) l2).trans Q2.out)
              have RMv20 := hid ((hb20.block (w10.heap.size) (Array.getElem?_eq_some_iff.1 RMv.out).1).trans RMv.out)
              have RPv20 := hid ((hb20.block ((w10.heap.size + 1)) (Array.getElem?_eq_some_iff.1 RPv.out).1).trans RPv.out)
              obtain ⟨g0, g1, g2, g3, g4, g5, g6, g7, g8, g9, g10, g11, gl⟩ := tw_cells RMv20.out
              obtain ⟨d0, d1, d2, fd0, fd1, fd2, hld⟩ := three_cells RPv20.out
              clear fd0 fd1 fd2
              rcases HD.out with qM | ⟨qM, qP⟩ | ⟨qM, qP, HF2⟩
              · have hbe : Below w.heap.size w w20 := hbW0.trans (hb0t.mono hzW0)
                go_wp2_with fail
                refine (HF3.out _).mono ?_
                rintro _ w30 ⟨rfl, hb30⟩
                go_wp2_with fail
                go_ret
                exact ⟨rfl, by (repeat (with_reducible first | exact Below.refl _ _ | assumption | refine Below.drewN _ ?_ | refine Below.drew ?_ | refine Below_alloc ?_ _ | refine Below.alloc ?_ (by first | (simp; done) | (simp; omega) | omega) _ | refine Below.setCell ?_ (by first | (simp; done) | (simp; omega) | omega) _ | refine Below_call ?_ (by assumption) | refine Below.trans ?_ (by assumption)))⟩
              · go_wp2_with fail
                refine (RQ.out _).mono ?_
                rintro _ w21 ⟨rfl, hb21⟩
                have hb0u : Below W0.heap.size W0 w21 := hb0t.trans (hb21.mono hb0t.size)
                clear m0 m1 m2 m3 m4 m5 m6 m7 m8 m9 m10 m11 ml s0 s1 s2 hls x0 x1 x2 x3 x4 x5 x6 x7 hlx
                clear g0 g1 g2 g3 g4 g5 g6 g7 g8 g9 g10 g11 gl d0 d1 d2 hld
                obtain ⟨m0, m1, m2, m3, m4, m5, m6, m7, m8, m9, m10, m11, ml⟩ := tw_cells ((hb0u.block w.heap.size l0).trans Q0.out)
                obtain ⟨s0, s1, s2, fs0, fs1, fs2, hls⟩ := three_cells ((hb0u.block (w.heap.size + 1) l1).trans Q1.out)
                clear fs0 fs1 fs2
                obtain ⟨x0, x1, x2, x3, x4, x5, x6, x7, hlx⟩ := eight_row ((hb0u.block (w.heap.size + 1 + 1) l2).trans Q2.out)
                have hbe : Below w.heap.size w w21 := hbW0.trans (hb0u.mono hzW0)
                go_wp2_with fail
                refine (HF3.out _).mono ?_
                rintro _ w30 ⟨rfl, hb30⟩
                go_wp2_with fail
                go_ret
                exact ⟨rfl, by (repeat (with_reducible first | exact Below.refl _ _ | assumption | refine Below.drewN _ ?_ | refine Below.drew ?_ | refine Below_alloc ?_ _ | refine Below.alloc ?_ (by first | (simp; done) | (simp; omega) | omega) _ | refine Below.setCell ?_ (by first | (simp; done) | (simp; omega) | omega) _ | refine Below_call ?_ (by assumption) | refine Below.trans ?_ (by assumption)))⟩
              · go_wp2_with fail
                refine (RQ.out _).mono ?_
                rintro _ w21 ⟨rfl, hb21⟩
                have hb0u : Below W0.heap.size W0 w21 := hb0t.trans (hb21.mono hb0t.size)
                clear m0 m1 m2 m3 m4 m5 m6 m7 m8 m9 m10 m11 ml s0 s1 s2 hls x0 x1 x2 x3 x4 x5 x6 x7 hlx
                clear g0 g1 g2 g3 g4 g5 g6 g7 g8 g9 g10 g11 gl d0 d1 d2 hld
                obtain ⟨m0, m1, m2, m3, m4, m5, m6, m7, m8, m9, m10, m11, ml⟩ := tw_cells ((hb0u.block w.heap.size l0).trans Q0.out)
                obtain ⟨s0, s1, s2, fs0, fs1, fs2, hls⟩ := three_cells ((hb0u.block (w.heap.size + 1) l1).trans Q1.out)
                clear fs0 fs1 fs2
                obtain ⟨x0, x1, x2, x3, x4, x5, x6, x7, hlx⟩ := eight_row ((hb0u.block (w.heap.size + 1 + 1) l2).trans Q2.out)
                have RMv21 := hid ((hb21.block (w10.heap.size) (Array.getElem?_eq_some_iff.1 RMv20.out).1).trans RMv20.out)
                have RPv21 := hid ((hb21.block ((w10.heap.size + 1)) (Array.getElem?_eq_some_iff.1 RPv20.out).1).trans RPv20.out)
                obtain ⟨g0, g1, g2, g3, g4, g5, g6, g7, g8, g9, g10, g11, gl⟩ := tw_cells RMv21.out
                obtain ⟨d0, d1, d2, fd0, fd1, fd2, hld⟩ := three_cells RPv21.out
                clear fd0 fd1 fd2
                go_wp2_with fail
                refine (HF2.out _).mono ?_
                rintro _ w22 ⟨rfl, hb22⟩
                have hb0v : Below W0.heap.size W0 w22 := hb0u.trans (hb22.mono hb0u.size)
                clear m0 m1 m2 m3 m4 m5 m6 m7 m8 m9 m10 m11 ml s0 s1 s2 hls x0 x1 x2 x3 x4 x5 x6 x7 hlx
                clear g0 g1 g2 g3 g4 g5 g6 g7 g8 g9 g10 g11 gl d0 d1 d2 hld
                obtain ⟨m0, m1, m2, m3, m4, m5, m6, m7, m8, m9, m10, m11, ml⟩ := tw_cells ((hb0v.block w.heap.size l0).trans Q0.out)
                obtain ⟨s0, s1, s2, fs0, fs1, fs2, hls⟩ := three_cells ((hb0v.block (w.heap.size + 1) l1).trans Q1.out)
                clear fs0 fs1 fs2
                obtain ⟨x0, x1, x2, x3, x4, x5, x6, x7, hlx⟩ := eight_row ((hb0v.block (w.heap.size + 1 + 1) l2).trans Q2.out)
                have hbe : Below w.heap.size w w22 := hbW0.trans (hb0v.mono hzW0)
                go_wp2_with fail
                refine (HF3.out _).mono ?_
                rintro _ w30 ⟨rfl, hb30⟩
                go_wp2_with fail
                go_ret
                exact ⟨rfl, by (repeat (with_reducible first | exact Below.refl _ _ | assumption | refine Below.drewN _ ?_ | refine Below.drew ?_ | refine Below_alloc ?_ _ | refine Below.alloc ?_ (by first | (simp; done) | (simp; omega) | omega) _ | refine Below.setCell ?_ (by first | (simp; done) | (simp; omega) | omega) _ | refine Below_call ?_ (by assumption) | refine Below.trans ?_ (by assumption)))⟩
        · obtain ⟨W11, hW11⟩ : ∃ W11, W11 = ((w10.alloc (.cells #[.int .i64 qx, .int .i64 qy, .int .i64 qz] 22)).alloc (.cells #[.int .i64 px, .int .i64 py, .int .i64 pz, .int .i64 tm, .int .i64 tk, .int .i64 lo, .int .i64 hi, .int .i64 li, .int .i64 ea, .int .i64 la, .int .i64 no, .int .i64 mi] 26)).drew := ⟨_, rfl⟩
          have hbX11 : Below W0.heap.size W0 W11 := by rw [hW11]; (repeat (with_reducible first | exact Below.refl _ _ | assumption | refine Below.drewN _ ?_ | refine Below.drew ?_ | refine Below_alloc ?_ _ | refine Below.alloc ?_ (by first | (simp; done) | (simp; omega) | omega) _ | refine Below.setCell ?_ (by first | (simp; done) | (simp; omega) | omega) _ | refine Below_call ?_ (by assumption) | refine Below.trans ?_ (by assumption)))
          obtain ⟨y0, y1, ly0, ly1⟩ := al2 w10 _ _ _ _ _ rfl
          have YM := hid (show W11.heap[(w10.heap.size + 1)]? = some (.cells #[.int .i64 px, .int .i64 py, .int .i64 pz, .int .i64 tm, .int .i64 tk, .int .i64 lo, .int .i64 hi, .int .i64 li, .int .i64 ea, .int .i64 la, .int .i64 no, .int .i64 mi] 26 (0, 0)) by rw [hW11]; exact y1)
          have YP := hid (show W11.heap[w10.heap.size]? = some (.cells #[.int .i64 qx, .int .i64 qy, .int .i64 qz] 22 (0, 0)) by rw [hW11]; exact y0)
          clear y0 y1 ly0 ly1
          clear m0 m1 m2 m3 m4 m5 m6 m7 m8 m9 m10 m11 ml s0 s1 s2 hls x0 x1 x2 x3 x4 x5 x6 x7 hlx
          obtain ⟨m0, m1, m2, m3, m4, m5, m6, m7, m8, m9, m10, m11, ml⟩ := tw_cells ((hbX11.block w.heap.size l0).trans Q0.out)
          obtain ⟨s0, s1, s2, fs0, fs1, fs2, hls⟩ := three_cells ((hbX11.block (w.heap.size + 1) l1).trans Q1.out)
          clear fs0 fs1 fs2
          obtain ⟨x0, x1, x2, x3, x4, x5, x6, x7, hlx⟩ := eight_row ((hbX11.block (w.heap.size + 1 + 1) l2).trans Q2.out)
          have fm3 := frozen_of_row W11 (w10.heap.size + 1) 3 _ _ YM.out
          have g3 : W11.cell? ⟨(w10.heap.size + 1), 3, none⟩ = some (.int .i64 tm) := by rw [cell_of_row W11 _ 3 _ _ (0, 0) YM.out]; rfl
          have hlm : (w10.heap.size + 1) < W11.heap.size := (Array.getElem?_eq_some_iff.1 YM.out).1
          have hzq := hb010.size
          rw [← hW11]
          clear hW11
          go_wp2_with fail
          obtain ⟨W12, hW12⟩ : ∃ W12, W12 = W11.setCell ⟨(w10.heap.size + 1), 3, none⟩ (.int .i64 ut) := ⟨_, rfl⟩
          have hbX12 : Below W0.heap.size W0 W12 := by rw [hW12]; exact hbX11.setCell (by show W0.heap.size ≤ (w10.heap.size + 1); omega) _
          have ZM := hid (show W12.heap[(w10.heap.size + 1)]? = some (.cells #[.int .i64 px, .int .i64 py, .int .i64 pz, .int .i64 ut, .int .i64 tk, .int .i64 lo, .int .i64 hi, .int .i64 li, .int .i64 ea, .int .i64 la, .int .i64 no, .int .i64 mi] 26 (0, 0)) by rw [hW12]; exact heap_setCell_same _ _ 3 _ _ _ YM.out)
          have ZP := hid (show W12.heap[w10.heap.size]? = some (.cells #[.int .i64 qx, .int .i64 qy, .int .i64 qz] 22 (0, 0)) by rw [hW12, heap_setCell_ne _ _ _ _ _ (by omega)]; exact YP.out)
          clear YM YP fm3 g3 hlm hbX11
          clear m0 m1 m2 m3 m4 m5 m6 m7 m8 m9 m10 m11 ml s0 s1 s2 hls x0 x1 x2 x3 x4 x5 x6 x7 hlx
          rw [← hW12]
          clear hW12
          go_loopw [22] (fun i wr => ∃ (k : Nat) (o0 o1 o2 u0 u1 u2 : Int), k ≤ 3 ∧ i = .int .i64 k ∧ Hid (wr.heap[(w10.heap.size + 1)]? = some (.cells #[.int .i64 o0, .int .i64 o1, .int .i64 o2, .int .i64 ut, .int .i64 tk, .int .i64 lo, .int .i64 hi, .int .i64 li, .int .i64 ea, .int .i64 la, .int .i64 no, .int .i64 mi] 26 (0, 0))) ∧ Hid (wr.heap[w10.heap.size]? = some (.cells #[.int .i64 u0, .int .i64 u1, .int .i64 u2] 22 (0, 0))) ∧ Hid (((0 < k → o0 = ux) ∧ (1 < k → o1 = uy) ∧ (2 < k → o2 = uz)) ∧ ((0 < k → u0 = ex) ∧ (1 < k → u1 = ey) ∧ (2 < k → u2 = ez))) ∧ Below W0.heap.size W0 wr) (fun i _ => 3 - (intOf i).toNat)
          case atStart => exact ⟨0, _, _, _, _, _, _, by omega, rfl, ZM, ZP, hid ⟨⟨by omega, by omega, by omega⟩, ⟨by omega, by omega, by omega⟩⟩, hbX12⟩
          case round =>
            obtain ⟨k, o0, o1, o2, u0, u1, u2, hk, rfl, HRM, HRP, HO, hb0s⟩ := hrel
            obtain ⟨m0, m1, m2, m3, m4, m5, m6, m7, m8, m9, m10, m11, ml⟩ := tw_cells ((hb0s.block w.heap.size l0).trans Q0.out)
            obtain ⟨s0, s1, s2, fs0, fs1, fs2, hls⟩ := three_cells ((hb0s.block (w.heap.size + 1) l1).trans Q1.out)
            clear fs0 fs1 fs2
            obtain ⟨x0, x1, x2, x3, x4, x5, x6, x7, hlx⟩ := eight_row ((hb0s.block (w.heap.size + 1 + 1) l2).trans Q2.out)
            obtain ⟨d0, d1, d2, fd0, fd1, fd2, hld⟩ := three_cells HRP.out
            have fm0 := frozen_of_row wr _ 0 _ _ HRM.out
            have fm1 := frozen_of_row wr _ 1 _ _ HRM.out
            have fm2 := frozen_of_row wr _ 2 _ _ HRM.out
            obtain ⟨g0, g1, g2, g3, g4, g5, g6, g7, g8, g9, g10, g11, gl⟩ := tw_cells HRM.out
            rcases (by omega : k = 0 ∨ k = 1 ∨ k = 2 ∨ k = 3) with rfl | rfl | rfl | rfl
            · obtain ⟨k5, k6⟩ := kBx.out
              go_wp2_with fail
              refine wp_mixC (fun wc => Below (W0.heap.size) wr wc) 23 [.q [0, 1, 2, 3, 4, 5, 6, 7, 8, 9, 10, 11, 12, 13, 14, 15, 16, 17, 18, 19, 20, 21], .f [22]] [.q [23], .f [24]] (by kernel_rfl) (by kernel_rfl) ((Below.refl _ _).drew) ?_
              intro Q' hQ'
              (rw [wpMixC]; simp only [pick, List.drop_succ_cons, List.drop_zero, List.head?_cons, Option.toList_some, List.cons_append, List.nil_append])
              (repeat (first | go_big_quiet_skip | (go_big_quiet_want; refine quiet_simple rfl ?_; go_big_quiet_op; go_big_quiet_on) | (go_big_quiet_want; refine quiet_cellB (ty := 3) rfl rfl (by kernel_rfl) (by assumption) (by first | omega | (simp; omega)) ?_; simp only [Act.put, List.setIfInBounds_toArray, List.set_cons_succ, List.set_cons_zero]; go_big_quiet_on)))
              (try refine wpQuiet_nil ?_)
              (rw [wpMixC]; simp only [pick, List.drop_succ_cons, List.drop_zero, List.head?_cons, Option.toList_some, List.cons_append, List.nil_append])
              (rw [wpSteps]; go_wp2_with (fail); rw [contF]; refine ⟨?_, ?_⟩; (next => (repeat (with_reducible first | exact Below.refl _ _ | assumption | refine Below.drewN _ ?_ | refine Below.drew ?_ | refine Below_alloc ?_ _ | refine Below.alloc ?_ (by first | (simp; done) | (simp; omega) | omega) _ | refine Below.setCell ?_ (by first | (simp; done) | (simp; omega) | omega) _ | refine Below_call ?_ (by assumption) | refine Below.trans ?_ (by assumption)))))
              (rw [wpSteps])
              (rw [wpMixC])
              (rw [wpMix]; simp only [pick, List.drop_succ_cons, List.drop_zero, List.head?_cons, Option.toList_some, List.cons_append, List.nil_append])
              (repeat (first | (go_big_quiet_step (fail)) | (quiet_step (fail))))
              (try refine wpQuiet_nil ?_)
              (rw [wpMix]; simp only [pick, List.drop_succ_cons, List.drop_zero, List.head?_cons, Option.toList_some, List.cons_append, List.nil_append])
              (go_wp2_with ((first | fail)); rw [contF])
              (rw [wpMix])
              (refine hQ' _ _ ?_)
              go_wp2_with fail
              go_roundw
              case rel => exact ⟨1, ux, o1, o2, ex, u1, u2, by omega, by go_num, hid ((heap_setCell_ne _ ((w10.heap.size + 1)) (w10.heap.size) _ _ (by omega)).trans (heap_setCell_same _ _ 0 _ _ _ HRM.out)), hid (heap_setCell_same _ _ 0 _ _ _ ((heap_setCell_ne _ (w10.heap.size) ((w10.heap.size + 1)) _ _ (by omega)).trans HRP.out)), hid ⟨⟨fun _ => rfl, fun h => absurd h (by omega), fun h => absurd h (by omega)⟩, ⟨fun _ => rfl, fun h => absurd h (by omega), fun h => absurd h (by omega)⟩⟩, by (repeat (with_reducible first | exact Below.refl _ _ | assumption | refine Below.drewN _ ?_ | refine Below.drew ?_ | refine Below_alloc ?_ _ | refine Below.alloc ?_ (by first | (simp; done) | (simp; omega) | omega) _ | refine Below.setCell ?_ (by first | (simp; done) | (simp; omega) | omega) _ | refine Below_call ?_ (by assumption) | refine Below.trans ?_ (by assumption)))⟩
              case measure => simp [intOf]
            · obtain ⟨k5, k6⟩ := kBy.out
              go_wp2_with fail
              refine wp_mixC (fun wc => Below (W0.heap.size) wr wc) 23 [.q [0, 1, 2, 3, 4, 5, 6, 7, 8, 9, 10, 11, 12, 13, 14, 15, 16, 17, 18, 19, 20, 21], .f [22]] [.q [23], .f [24]] (by kernel_rfl) (by kernel_rfl) ((Below.refl _ _).drew) ?_
              intro Q' hQ'
              (rw [wpMixC]; simp only [pick, List.drop_succ_cons, List.drop_zero, List.head?_cons, Option.toList_some, List.cons_append, List.nil_append])
              (repeat (first | go_big_quiet_skip | (go_big_quiet_want; refine quiet_simple rfl ?_; go_big_quiet_op; go_big_quiet_on) | (go_big_quiet_want; refine quiet_cellB (ty := 3) rfl rfl (by kernel_rfl) (by assumption) (by first | omega | (simp; omega)) ?_; simp only [Act.put, List.setIfInBounds_toArray, List.set_cons_succ, List.set_cons_zero]; go_big_quiet_on)))
              (try refine wpQuiet_nil ?_)
              (rw [wpMixC]; simp only [pick, List.drop_succ_cons, List.drop_zero, List.head?_cons, Option.toList_some, List.cons_append, List.nil_append])
              (rw [wpSteps]; go_wp2_with (fail); rw [contF]; refine ⟨?_, ?_⟩; (next => (repeat (with_reducible first | exact Below.refl _ _ | assumption | refine Below.drewN _ ?_ | refine Below.drew ?_ | refine Below_alloc ?_ _ | refine Below.alloc ?_ (by first | (simp; done) | (simp; omega) | omega) _ | refine Below.setCell ?_ (by first | (simp; done) | (simp; omega) | omega) _ | refine Below_call ?_ (by assumption) | refine Below.trans ?_ (by assumption)))))
              (rw [wpSteps])
              (rw [wpMixC])
              (rw [wpMix]; simp only [pick, List.drop_succ_cons, List.drop_zero, List.head?_cons, Option.toList_some, List.cons_append, List.nil_append])
              (repeat (first | (go_big_quiet_step (fail)) | (quiet_step (fail))))
              (try refine wpQuiet_nil ?_)
              (rw [wpMix]; simp only [pick, List.drop_succ_cons, List.drop_zero, List.head?_cons, Option.toList_some, List.cons_append, List.nil_append])
              (go_wp2_with ((first | fail)); rw [contF])
              (rw [wpMix])
              (refine hQ' _ _ ?_)
              go_wp2_with fail
              go_roundw
              case rel => exact ⟨2, o0, uy, o2, u0, ey, u2, by omega, by go_num, hid ((heap_setCell_ne _ ((w10.heap.size + 1)) (w10.heap.size) _ _ (by omega)).trans (heap_setCell_same _ _ 1 _ _ _ HRM.out)), hid (heap_setCell_same _ _ 1 _ _ _ ((heap_setCell_ne _ (w10.heap.size) ((w10.heap.size + 1)) _ _ (by omega)).trans HRP.out)), hid ⟨⟨fun _ => HO.out.1.1 (by omega), fun _ => rfl, fun h => absurd h (by omega)⟩, ⟨fun _ => HO.out.2.1 (by omega), fun _ => rfl, fun h => absurd h (by omega)⟩⟩, by (repeat (with_reducible first | exact Below.refl _ _ | assumption | refine Below.drewN _ ?_ | refine Below.drew ?_ | refine Below_alloc ?_ _ | refine Below.alloc ?_ (by first | (simp; done) | (simp; omega) | omega) _ | refine Below.setCell ?_ (by first | (simp; done) | (simp; omega) | omega) _ | refine Below_call ?_ (by assumption) | refine Below.trans ?_ (by assumption)))⟩
              case measure => simp [intOf]
            · obtain ⟨k5, k6⟩ := kBz.out
              go_wp2_with fail
              refine wp_mixC (fun wc => Below (W0.heap.size) wr wc) 23 [.q [0, 1, 2, 3, 4, 5, 6, 7, 8, 9, 10, 11, 12, 13, 14, 15, 16, 17, 18, 19, 20, 21], .f [22]] [.q [23], .f [24]] (by kernel_rfl) (by kernel_rfl) ((Below.refl _ _).drew) ?_
              intro Q' hQ'
              (rw [wpMixC]; simp only [pick, List.drop_succ_cons, List.drop_zero, List.head?_cons, Option.toList_some, List.cons_append, List.nil_append])
              (repeat (first | go_big_quiet_skip | (go_big_quiet_want; refine quiet_simple rfl ?_; go_big_quiet_op; go_big_quiet_on) | (go_big_quiet_want; refine quiet_cellB (ty := 3) rfl rfl (by kernel_rfl) (by assumption) (by first | omega | (simp; omega)) ?_; simp only [Act.put, List.setIfInBounds_toArray, List.set_cons_succ, List.set_cons_zero]; go_big_quiet_on)))
              (try refine wpQuiet_nil ?_)
              (rw [wpMixC]; simp only [pick, List.drop_succ_cons, List.drop_zero, List.head?_cons, Option.toList_some, List.cons_append, List.nil_append])
              (rw [wpSteps]; go_wp2_with (fail); rw [contF]; refine ⟨?_, ?_⟩; (next => (repeat (with_reducible first | exact Below.refl _ _ | assumption | refine Below.drewN _ ?_ | refine Below.drew ?_ | refine Below_alloc ?_ _ | refine Below.alloc ?_ (by first | (simp; done) | (simp; omega) | omega) _ | refine Below.setCell ?_ (by first | (simp; done) | (simp; omega) | omega) _ | refine Below_call ?_ (by assumption) | refine Below.trans ?_ (by assumption)))))
              (rw [wpSteps])
              (rw [wpMixC])
              (rw [wpMix]; simp only [pick, List.drop_succ_cons, List.drop_zero, List.head?_cons, Option.toList_some, List.cons_append, List.nil_append])
              (repeat (first | (go_big_quiet_step (fail)) | (quiet_step (fail))))
              (try refine wpQuiet_nil ?_)
              (rw [wpMix]; simp only [pick, List.drop_succ_cons, List.drop_zero, List.head?_cons, Option.toList_some, List.cons_append, List.nil_append])
              (go_wp2_with ((first | fail)); rw [contF])
              (rw [wpMix])
              (refine hQ' _ _ ?_)
              go_wp2_with fail
              go_roundw
              case rel => exact ⟨3, o0, o1, uz, u0, u1, ez, by omega, by go_num, hid ((heap_setCell_ne _ ((w10.heap.size + 1)) (w10.heap.size) _ _ (by omega)).trans (heap_setCell_same _ _ 2 _ _ _ HRM.out)), hid (heap_setCell_same _ _ 2 _ _ _ ((heap_setCell_ne _ (w10.heap.size) ((w10.heap.size + 1)) _ _ (by omega)).trans HRP.out)), hid ⟨⟨fun _ => HO.out.1.1 (by omega), fun _ => HO.out.1.2.1 (by omega), fun _ => rfl⟩, ⟨fun _ => HO.out.2.1 (by omega), fun _ => HO.out.2.2.1 (by omega), fun _ => rfl⟩⟩, by (repeat (with_reducible first | exact Below.refl _ _ | assumption | refine Below.drewN _ ?_ | refine Below.drew ?_ | refine Below_alloc ?_ _ | refine Below.alloc ?_ (by first | (simp; done) | (simp; omega) | omega) _ | refine Below.setCell ?_ (by first | (simp; done) | (simp; omega) | omega) _ | refine Below_call ?_ (by assumption) | refine Below.trans ?_ (by assumption)))⟩
              case measure => simp [intOf]
            · have e0 := HO.out.1.1 (by omega)
              have e1 := HO.out.1.2.1 (by omega)
              have e2 := HO.out.1.2.2 (by omega)
              have j0 := HO.out.2.1 (by omega)
              have j1 := HO.out.2.2.1 (by omega)
              have j2 := HO.out.2.2.2 (by omega)
              have RMv : Hid (wr.heap[(w10.heap.size + 1)]? = some (.cells #[.int .i64 ux, .int .i64 uy, .int .i64 uz, .int .i64 ut, .int .i64 tk, .int .i64 lo, .int .i64 hi, .int .i64 li, .int .i64 ea, .int .i64 la, .int .i64 no, .int .i64 mi] 26 (0, 0))) := hid (by have := HRM.out; rw [e0, e1, e2] at this; exact this)
              have RPv : Hid (wr.heap[w10.heap.size]? = some (.cells #[.int .i64 ex, .int .i64 ey, .int .i64 ez] 22 (0, 0))) := hid (by have := HRP.out; rw [j0, j1, j2] at this; exact this)
              clear HRM HRP HO e0 e1 e2 j0 j1 j2 d0 d1 d2 fd0 fd1 fd2 hld fm0 fm1 fm2 g0 g1 g2 g3 g4 g5 g6 g7 g8 g9 g10 g11 gl ZM ZP hbX12
              obtain ⟨g0, g1, g2, g3, g4, g5, g6, g7, g8, g9, g10, g11, gl⟩ := tw_cells RMv.out
              obtain ⟨d0, d1, d2, fd0, fd1, fd2, hld⟩ := three_cells RPv.out
              clear fd0 fd1 fd2
              go_wp2_with fail
              refine (RE.out _).mono ?_
              rintro _ w20 ⟨rfl, hb20⟩
              have hb0t : Below W0.heap.size W0 w20 := hb0s.trans (hb20.mono hb0s.size)
              clear m0 m1 m2 m3 m4 m5 m6 m7 m8 m9 m10 m11 ml s0 s1 s2 hls x0 x1 x2 x3 x4 x5 x6 x7 hlx
              clear g0 g1 g2 g3 g4 g5 g6 g7 g8 g9 g10 g11 gl d0 d1 d2 hld
              obtain ⟨m0, m1, m2, m3, m4, m5, m6, m7, m8, m9, m10, m11, ml⟩ := tw_cells ((hb0t.block w.heap.size l0).trans Q0.out)
              obtain ⟨s0, s1, s2, fs0, fs1, fs2, hls⟩ := three_cells ((hb0t.block (w.heap.size + 1) l1).trans Q1.out)
              clear fs0 fs1 fs2
              obtain ⟨x0, x1, x2, x3, x4, x5, x6, x7, hlx⟩ := eight_row ((hb0t.block (w.heap.size + 1 + 1) l2).trans Q2.out)
              have RMv20 := hid ((hb20.block ((w10.heap.size + 1)) (Array.getElem?_eq_some_iff.1 RMv.out).1).trans RMv.out)
              have RPv20 := hid ((hb20.block (w10.heap.size) (Array.getElem?_eq_some_iff.1 RPv.out).1).trans RPv.out)
              obtain ⟨g0, g1, g2, g3, g4, g5, g6, g7, g8, g9, g10, g11, gl⟩ := tw_cells RMv20.out
              obtain ⟨d0, d1, d2, fd0, fd1, fd2, hld⟩ := three_cells RPv20.out
              clear fd0 fd1 fd2
              rcases HD.out with qM | ⟨qM, qP⟩ | ⟨qM, qP, HF2⟩
              · have hbe : Below w.heap.size w w20 := hbW0.trans (hb0t.mono hzW0)
                go_wp2_with fail
                refine (HF3.out _).mono ?_
                rintro _ w30 ⟨rfl, hb30⟩
                go_wp2_with fail
                go_ret
                exact ⟨rfl, by (repeat (with_reducible first | exact Below.refl _ _ | assumption | refine Below.drewN _ ?_ | refine Below.drew ?_ | refine Below_alloc ?_ _ | refine Below.alloc ?_ (by first | (simp; done) | (simp; omega) | omega) _ | refine Below.setCell ?_ (by first | (simp; done) | (simp; omega) | omega) _ | refine Below_call ?_ (by assumption) | refine Below.trans ?_ (by assumption)))⟩
              · go_wp2_with fail
                refine (RQ.out _).mono ?_
                rintro _ w21 ⟨rfl, hb21⟩
                have hb0u : Below W0.heap.size W0 w21 := hb0t.trans (hb21.mono hb0t.size)
                clear m0 m1 m2 m3 m4 m5 m6 m7 m8 m9 m10 m11 ml s0 s1 s2 hls x0 x1 x2 x3 x4 x5 x6 x7 hlx
                clear g0 g1 g2 g3 g4 g5 g6 g7 g8 g9 g10 g11 gl d0 d1 d2 hld
                obtain ⟨m0, m1, m2, m3, m4, m5, m6, m7, m8, m9, m10, m11, ml⟩ := tw_cells ((hb0u.block w.heap.size l0).trans Q0.out)
                obtain ⟨s0, s1, s2, fs0, fs1, fs2, hls⟩ := three_cells ((hb0u.block (w.heap.size + 1) l1).trans Q1.out)
                clear fs0 fs1 fs2
                obtain ⟨x0, x1, x2, x3, x4, x5, x6, x7, hlx⟩ := eight_row ((hb0u.block (w.heap.size + 1 + 1) l2).trans Q2.out)
                have hbe : Below w.heap.size w w21 := hbW0.trans (hb0u.mono hzW0)
                go_wp2_with fail
                refine (HF3.out _).mono ?_
                rintro _ w30 ⟨rfl, hb30⟩
                go_wp2_with fail
                go_ret
                exact ⟨rfl, by (repeat (with_reducible first | exact Below.refl _ _ | assumption | refine Below.drewN _ ?_ | refine Below.drew ?_ | refine Below_alloc ?_ _ | refine Below.alloc ?_ (by first | (simp; done) | (simp; omega) | omega) _ | refine Below.setCell ?_ (by first | (simp; done) | (simp; omega) | omega) _ | refine Below_call ?_ (by assumption) | refine Below.trans ?_ (by assumption)))⟩
              · go_wp2_with fail
                refine (RQ.out _).mono ?_
                rintro _ w21 ⟨rfl, hb21⟩
                have hb0u : Below W0.heap.size W0 w21 := hb0t.trans (hb21.mono hb0t.size)
                clear m0 m1 m2 m3 m4 m5 m6 m7 m8 m9 m10 m11 ml s0 s1 s2 hls x0 x1 x2 x3 x4 x5 x6 x7 hlx
                clear g0 g1 g2 g3 g4 g5 g6 g7 g8 g9 g10 g11 gl d0 d1 d2 hld
                obtain ⟨m0, m1, m2, m3, m4, m5, m6, m7, m8, m9, m10, m11, ml⟩ := tw_cells ((hb0u.block w.heap.size l0).trans Q0.out)
                obtain ⟨s0, s1, s2, fs0, fs1, fs2, hls⟩ := three_cells ((hb0u.block (w.heap.size + 1) l1).trans Q1.out)
                clear fs0 fs1 fs2
                obtain ⟨x0, x1, x2, x3, x4, x5, x6, x7, hlx⟩ := eight_row ((hb0u.block (w.heap.size + 1 + 1) l2).trans Q2.out)
                have RMv21 := hid ((hb21.block ((w10.heap.size + 1)) (Array.getElem?_eq_some_iff.1 RMv20.out).1).trans RMv20.out)
                have RPv21 := hid ((hb21.block (w10.heap.size) (Array.getElem?_eq_some_iff.1 RPv20.out).1).trans RPv20.out)
                obtain ⟨g0, g1, g2, g3, g4, g5, g6, g7, g8, g9, g10, g11, gl⟩ := tw_cells RMv21.out
                obtain ⟨d0, d1, d2, fd0, fd1, fd2, hld⟩ := three_cells RPv21.out
                clear fd0 fd1 fd2
                go_wp2_with fail
                refine (HF2.out _).mono ?_
                rintro _ w22 ⟨rfl, hb22⟩
                have hb0v : Below W0.heap.size W0 w22 := hb0u.trans (hb22.mono hb0u.size)
                clear m0 m1 m2 m3 m4 m5 m6 m7 m8 m9 m10 m11 ml s0 s1 s2 hls x0 x1 x2 x3 x4 x5 x6 x7 hlx
                clear g0 g1 g2 g3 g4 g5 g6 g7 g8 g9 g10 g11 gl d0 d1 d2 hld
                obtain ⟨m0, m1, m2, m3, m4, m5, m6, m7, m8, m9, m10, m11, ml⟩ := tw_cells ((hb0v.block w.heap.size l0).trans Q0.out)
                obtain ⟨s0, s1, s2, fs0, fs1, fs2, hls⟩ := three_cells ((hb0v.block (w.heap.size + 1) l1).trans Q1.out)
                clear fs0 fs1 fs2
                obtain ⟨x0, x1, x2, x3, x4, x5, x6, x7, hlx⟩ := eight_row ((hb0v.block (w.heap.size + 1 + 1) l2).trans Q2.out)
                have hbe : Below w.heap.size w w22 := hbW0.trans (hb0v.mono hzW0)
                go_wp2_with fail
                refine (HF3.out _).mono ?_
                rintro _ w30 ⟨rfl, hb30⟩
                go_wp2_with fail
                go_ret
                exact ⟨rfl, by (repeat (with_reducible first | exact Below.refl _ _ | assumption | refine Below.drewN _ ?_ | refine Below.drew ?_ | refine Below_alloc ?_ _ | refine Below.alloc ?_ (by first | (simp; done) | (simp; omega) | omega) _ | refine Below.setCell ?_ (by first | (simp; done) | (simp; omega) | omega) _ | refine Below_call ?_ (by assumption) | refine Below.trans ?_ (by assumption)))⟩
end Go.Proofs.Ytlmdmpjfehpjeaa

/- Tracks: arguments opened: values all of whose cells are numbers. -/
set_option linter.unusedVariables false
set_option linter.unusedSimpArgs false
namespace Go.Proofs.Ytlmdmpjfehpjeaa
open Go.RowKit
section
variable {H : Type} {enc : TypeId × Value → H} {P : Program} {w : World} {base : Nat} {spare : Nat → Bool} {held : Bool}

/-- every cell of a value of a type is a number. -/
def flB (P : Program) : Nat → TypeId → Bool
  | 0, _ => false
  | k + 1, t => match P.underlying t with
    | some (.int .i64) => P.cellsOf t == 1
    | some (.array n e) => flB P k e && (List.range (P.cellsOf t)).all (fun j => (List.range n).any (fun i => decide (i * P.cellsOf e ≤ j) && decide (j < i * P.cellsOf e + P.cellsOf e)))
    | some (.struct fs) => (List.range (P.cellsOf t)).all (fun j => (List.range fs.size).any (fun i => match fs[i]? with
      | some f => flB P k f.type && decide (f.offset ≤ j) && decide (j < f.offset + P.cellsOf f.type)
      | none => false))
    | _ => false
theorem cells_of_trod : ∀ (k : Nat) (t : TypeId) (fuel : Nat) (cs : List Value) (x : DataW H × List MemPlace), flB P k t = true → DataW.trod enc P w base spare held fuel t cs = some x → ∀ j, j < P.cellsOf t → ∃ n : Int, cs[j]? = some (.int .i64 n) ∧ (Lit.int .i64 n).wf = true := by
  intro k
  induction k with
  | zero => intro t fuel cs x h; cases h
  | succ k ih =>
    intro t fuel cs x hB h j hj
    unfold flB at hB
    split at hB
    · next ht =>
      obtain ⟨n, h1, _, h2⟩ := DataW.trod_int ht h
      simp only [beq_iff_eq] at hB
      rw [hB] at hj
      obtain rfl : j = 0 := by omega
      exact ⟨n, by rw [h1]; rfl, h2⟩
    · next n e ht =>
      simp only [Bool.and_eq_true] at hB
      obtain ⟨xs, m, _, _, hl, hxs, hf⟩ := DataW.trod_array ht h
      have h1 := List.all_eq_true.1 hB.2 j (List.mem_range.2 hj)
      obtain ⟨i, hi, h2⟩ := List.any_eq_true.1 h1
      have hi' := List.mem_range.1 hi
      simp only [Bool.and_eq_true, decide_eq_true_eq] at h2
      have h5 := hf i hi'
      have e2 : xs[i]? = some xs[i] := by simp [hxs, hi']
      rw [e2] at h5
      obtain ⟨q, hq, hw⟩ := ih e _ _ _ hB.1 h5 (j - i * P.cellsOf e) (by omega)
      refine ⟨q, ?_, hw⟩
      rw [List.getElem?_take, if_pos (by omega), List.getElem?_drop] at hq
      rwa [show i * P.cellsOf e + (j - i * P.cellsOf e) = j from by omega] at hq
    · next fs ht =>
      obtain ⟨xs, m, _, _, hl, hxs, hf⟩ := DataW.trod_struct ht h
      have h1 := List.all_eq_true.1 hB j (List.mem_range.2 hj)
      obtain ⟨i, hi, h2⟩ := List.any_eq_true.1 h1
      have hi' := List.mem_range.1 hi
      have e : fs[i]? = some fs[i] := by simp [hi']
      rw [e] at h2
      simp only [Bool.and_eq_true, decide_eq_true_eq] at h2
      have h5 := hf i _ e
      have e2 : xs[i]? = some xs[i] := by simp [hxs, hi']
      rw [e2] at h5
      obtain ⟨q, hq, hw⟩ := ih _ _ _ _ h2.1.1 h5 (j - fs[i].offset) (by omega)
      refine ⟨q, ?_, hw⟩
      rw [List.getElem?_take, if_pos (by omega), List.getElem?_drop] at hq
      rwa [show fs[i].offset + (j - fs[i].offset) = j from by omega] at hq
    · cases hB
theorem flat_cells {t : TypeId} {k n : Nat} {cs : Array Value} {d : DataW H} {ps : List MemPlace} (hB : flB P k t = true) (hn : P.cellsOf t = n) (hs : cs.size = n) (h : DataW.Trod enc P w base spare held t (.agg cs) d ps) :
    ∃ ns : List Int, ns.length = n ∧ Value.agg cs = .agg (ns.map (Value.int .i64)).toArray := by
  obtain ⟨fuel, hf⟩ := h
  have each := fun j (hj : j < n) => cells_of_trod k t fuel _ _ hB hf j (by rw [hn]; exact hj)
  obtain ⟨ns, h1, h2⟩ := list_of (0 : Int) n (R := fun j q => (Value.agg cs).cells.toList[j]? = some (.int .i64 q)) (fun j hj => by obtain ⟨q, hq, _⟩ := each j hj; exact ⟨q, hq⟩)
  refine ⟨ns, h1, ?_⟩
  have : cs = (ns.map (Value.int .i64)).toArray := by
    apply Array.ext'
    apply List.ext_getElem?
    intro i
    by_cases hi : i < n
    · have := h2 i hi
      simp only [Value.cells] at this
      rw [this]; simp [List.getD, h1, hi]
    · rw [List.getElem?_eq_none (by simp; omega), List.getElem?_eq_none (by simp [h1]; omega)]
  rw [this]
end
section
variable {H : Type} {enc : TypeId × Value → H} {w : World} {base : Nat} {spare : Nat → Bool} {held : Bool} {r : Reach} {b0 : Nat}
set_option maxRecDepth 100000 in
theorem vec_of_trod {v : Value} {d : DataW H} {ps : List MemPlace} (hv : Value.okWide Try.prog w r b0 22 v) (h : DataW.Trod enc Try.prog w base spare held 22 v d ps) : ∃ s : V3, v = s.v := by
  obtain ⟨cs, rfl, hs⟩ := okWide_array Try.underlying22 hv
  obtain ⟨ns, h1, h2⟩ := flat_cells (k := 4) (n := 3) (by kernel_rfl) (by kernel_rfl) hs h
  match ns, h1 with
  | [a, b, c], _ => exact ⟨⟨a, b, c⟩, h2⟩
set_option maxRecDepth 100000 in
theorem model_of_trod {v : Value} {d : DataW H} {ps : List MemPlace} (hv : Value.okWide Try.prog w r b0 26 v) (h : DataW.Trod enc Try.prog w base spare held 26 v d ps) : ∃ m : TMod, v = m.v := by
  obtain ⟨cs, rfl, hs⟩ := WideShapes.okWide_struct Try.underlying26 hv
  obtain ⟨ns, h1, h2⟩ := flat_cells (k := 4) (n := 12) (by kernel_rfl) (by kernel_rfl) hs h
  match ns, h1 with
  | [a, b, c, d, e, f, g, h, i, j, k, l], _ => exact ⟨⟨a, b, c, d, e, f, g, h, i, j, k, l⟩, h2⟩
set_option maxRecDepth 100000 in
theorem moment_of_trod {v : Value} {d : DataW H} {ps : List MemPlace} (hv : Value.okWide Try.prog w r b0 28 v) (h : DataW.Trod enc Try.prog w base spare held 28 v d ps) : ∃ (p : V3) (t : Int), v = .agg #[.int .i64 p.x, .int .i64 p.y, .int .i64 p.z, .int .i64 t] := by
  obtain ⟨cs, rfl, hs⟩ := WideShapes.okWide_struct Try.underlying28 hv
  obtain ⟨ns, h1, h2⟩ := flat_cells (k := 4) (n := 4) (by kernel_rfl) (by kernel_rfl) hs h
  match ns, h1 with
  | [a, b, c, d], _ => exact ⟨⟨a, b, c⟩, d, h2⟩
set_option maxRecDepth 100000 in
theorem box_of_trod {v : Value} {d : DataW H} {ps : List MemPlace} (hv : Value.okWide Try.prog w r b0 75 v) (h : DataW.Trod enc Try.prog w base spare held 75 v d ps) : ∃ b : TBox, v = b.v := by
  obtain ⟨cs, rfl, hs⟩ := WideShapes.okWide_struct Try.underlying75 hv
  obtain ⟨ns, h1, h2⟩ := flat_cells (k := 4) (n := 6) (by kernel_rfl) (by kernel_rfl) hs h
  match ns, h1 with
  | [a, b, c, d, e, f], _ => exact ⟨⟨⟨a, b, c⟩, ⟨d, e, f⟩⟩, h2⟩
end
end Go.Proofs.Ytlmdmpjfehpjeaa

/- Tracks: the law of first times, joined. -/
set_option linter.unusedVariables false
set_option linter.unusedSimpArgs false
namespace Go.Proofs.Ytlmdmpjfehpjeaa
open Go.RowKit

section
variable {H : Type} {enc : TypeId × Value → H} {w : World} {base : Nat} {spare : Nat → Bool} {held : Bool} {r : Reach} {b0 : Nat}
set_option maxRecDepth 100000 in
theorem moved_of_trod {v : Value} {d : DataW H} {ps : List MemPlace} (hv : Value.okWide Try.prog w r b0 57 v) (h : DataW.Trod enc Try.prog w base spare held 57 v d ps) : ∃ (p q : V3) (a b : Int), v = .agg #[.int .i64 p.x, .int .i64 p.y, .int .i64 p.z, .int .i64 q.x, .int .i64 q.y, .int .i64 q.z, .int .i64 a, .int .i64 b] := by
  obtain ⟨cs, rfl, hs⟩ := WideShapes.okWide_struct Try.underlying57 hv
  obtain ⟨ns, h1, h2⟩ := flat_cells (k := 4) (n := 8) (by kernel_rfl) (by kernel_rfl) hs h
  match ns, h1 with
  | [a, b, c, d, e, f, g, h], _ => exact ⟨⟨a, b, c⟩, ⟨d, e, f⟩, g, h, h2⟩
end
theorem qz_ne {a : Int} (h : a ≠ 0) : (a == 0) = false := by simpa using h
theorem qz_eq {a : Int} (h : a = 0) : (a == 0) = true := by simpa using h
theorem qn_ne {a : Int} (h : a ≠ 0) : (a != 0) = true := by simpa using h
theorem firstNZ2 {a b : Int} (h : a = 0) (h' : b = 0) : firstNZ [a, b] = 0 := by rw [h, h']; rfl
theorem law_TrackOnce (m : TMod) (s q d : V3) (dt lt : Int) (w : World) :
    Calls Try.prog 4 #[m.v, s.v, .agg #[.int .i64 q.x, .int .i64 q.y, .int .i64 q.z, .int .i64 d.x, .int .i64 d.y, .int .i64 d.z, .int .i64 dt, .int .i64 lt]] w fun e w' => e = .returned (.bool true) ∧ Below w.heap.size w w' := by
  have HA := ref_ModelErr
  have RB : ∀ W, Calls Try.prog 19 #[m.v, s.v] W fun e w' => e = .returned (.int .i64 (m.both s)) ∧ Below W.heap.size W w' := fun W => ref_BothErr m s W (hid (fun W => ref_ModelErr m W))
  have RP : ∀ W, Calls Try.prog 21 #[.agg #[.int .i64 q.x, .int .i64 q.y, .int .i64 q.z]] W fun e w' => e = .returned (.int .i64 (plE q)) ∧ Below W.heap.size W w' := fun W => ref_PlaceErr q.x q.y q.z W
  by_cases hD : m.both s = 0
  case neg => exact once_E1 m.px m.py m.pz m.tm m.tk m.lo m.hi m.li m.ea m.la m.no m.mi s.x s.y s.z q.x q.y q.z d.x d.y d.z dt lt (m.both s) (qn_ne hD) w (hid RB)
  by_cases hP : plE q = 0
  case neg =>
    rw [hD] at RB
    exact once_E2 m.px m.py m.pz m.tm m.tk m.lo m.hi m.li m.ea m.la m.no m.mi s.x s.y s.z q.x q.y q.z d.x d.y d.z dt lt (plE q) (qn_ne hP) w (hid RB) (hid RP)
  have hmd := hD
  have hpq := hP
  rw [hD] at RB
  rw [hP] at RP
  obtain ⟨o1, o2, o3, o4⟩ := both_ok hD
  have o5 := plE_ok hP
  cases hl : inB lt 0 1000
  case false => exact once_E3 m.px m.py m.pz m.tm m.tk m.lo m.hi m.li m.ea m.la m.no m.mi s.x s.y s.z q.x q.y q.z d.x d.y d.z dt lt w (hid RB) (hid RP) (hid (fun W => by have := base_Within lt 0 1000 W; rw [hl] at this; exact this))
  cases ht : inB dt (-1000) 1000
  case false => exact once_E4 m.px m.py m.pz m.tm m.tk m.lo m.hi m.li m.ea m.la m.no m.mi s.x s.y s.z q.x q.y q.z d.x d.y d.z dt lt w (hid RB) (hid RP) (hid (fun W => by have := base_Within lt 0 1000 W; rw [hl] at this; exact this)) (hid (fun W => by have := base_Within dt (-1000) 1000 W; rw [ht] at this; exact this))
  cases hx : inB d.x (-1000) 1000
  case false => exact once_E5 m.px m.py m.pz m.tm m.tk m.lo m.hi m.li m.ea m.la m.no m.mi s.x s.y s.z q.x q.y q.z d.x d.y d.z dt lt w (hid RB) (hid RP) (hid (fun W => by have := base_Within lt 0 1000 W; rw [hl] at this; exact this)) (hid (fun W => by have := base_Within dt (-1000) 1000 W; rw [ht] at this; exact this)) (hid (fun W => by have := base_Within d.x (-1000) 1000 W; rw [hx] at this; exact this))
  cases hy : inB d.y (-1000) 1000
  case false => exact once_E6 m.px m.py m.pz m.tm m.tk m.lo m.hi m.li m.ea m.la m.no m.mi s.x s.y s.z q.x q.y q.z d.x d.y d.z dt lt w (hid RB) (hid RP) (hid (fun W => by have := base_Within lt 0 1000 W; rw [hl] at this; exact this)) (hid (fun W => by have := base_Within dt (-1000) 1000 W; rw [ht] at this; exact this)) (hid (fun W => by have := base_Within d.x (-1000) 1000 W; rw [hx] at this; exact this)) (hid (fun W => by have := base_Within d.y (-1000) 1000 W; rw [hy] at this; exact this))
  cases hz : inB d.z (-1000) 1000
  case false => exact once_E7 m.px m.py m.pz m.tm m.tk m.lo m.hi m.li m.ea m.la m.no m.mi s.x s.y s.z q.x q.y q.z d.x d.y d.z dt lt w (hid RB) (hid RP) (hid (fun W => by have := base_Within lt 0 1000 W; rw [hl] at this; exact this)) (hid (fun W => by have := base_Within dt (-1000) 1000 W; rw [ht] at this; exact this)) (hid (fun W => by have := base_Within d.x (-1000) 1000 W; rw [hx] at this; exact this)) (hid (fun W => by have := base_Within d.y (-1000) 1000 W; rw [hy] at this; exact this)) (hid (fun W => by have := base_Within d.z (-1000) 1000 W; rw [hz] at this; exact this))
  have HF := fun W => track_FirstAt m s q W
  have e0 : firstNZ [m.both s, plE q] = 0 := firstNZ2 hmd hpq
  cases hin : inB (m.first s q) (-1000000) 1000000
  case false =>
    have HF' := hid (fun W => (HF W).mono (fun e w' h => And.intro (h.2.1 e0 hin) h.2.2.2))
    exact once_E8 m.px m.py m.pz m.tm m.tk m.lo m.hi m.li m.ea m.la m.no m.mi s.x s.y s.z q.x q.y q.z d.x d.y d.z dt lt 0 w (hid RB) (hid RP) (hid (fun W => by have := base_Within lt 0 1000 W; rw [hl] at this; exact this)) (hid (fun W => by have := base_Within dt (-1000) 1000 W; rw [ht] at this; exact this)) (hid (fun W => by have := base_Within d.x (-1000) 1000 W; rw [hx] at this; exact this)) (hid (fun W => by have := base_Within d.y (-1000) 1000 W; rw [hy] at this; exact this)) (hid (fun W => by have := base_Within d.z (-1000) 1000 W; rw [hz] at this; exact this)) HF'
  have HF' := hid (fun W => (HF W).mono (fun e w' h => And.intro (h.1 e0 hin) h.2.2.2))
  cases hn : inB (m.first s q) (-900000) 900000
  case false => exact once_E9 m.px m.py m.pz m.tm m.tk m.lo m.hi m.li m.ea m.la m.no m.mi s.x s.y s.z q.x q.y q.z d.x d.y d.z dt lt (m.first s q) w (hid RB) (hid RP) (hid (fun W => by have := base_Within lt 0 1000 W; rw [hl] at this; exact this)) (hid (fun W => by have := base_Within dt (-1000) 1000 W; rw [ht] at this; exact this)) (hid (fun W => by have := base_Within d.x (-1000) 1000 W; rw [hx] at this; exact this)) (hid (fun W => by have := base_Within d.y (-1000) 1000 W; rw [hy] at this; exact this)) (hid (fun W => by have := base_Within d.z (-1000) 1000 W; rw [hz] at this; exact this)) HF' (hid (fun W => by have := base_Within (m.first s q) (-900000) 900000 W; rw [hn] at this; exact this))
  obtain ⟨n1, n2⟩ := inB_true.1 hn
  obtain ⟨t1, t2⟩ := inB_true.1 hl
  obtain ⟨t3, t4⟩ := inB_true.1 ht
  have b1 := inB_true.1 hx
  have b2 := inB_true.1 hy
  have b3 := inB_true.1 hz
  have r0 : 0 ≤ lt % 20 := Int.emod_nonneg _ (by decide)
  have r1 : lt % 20 < 20 := Int.emod_lt_of_pos _ (by decide)
  have hfa := first_at m s q o1.slp o4 (by omega) (by omega)
  have hpl : m.pl.inS 1000 = true := inS_iff.2 ⟨o1.px, o1.py, o1.pz⟩
  obtain ⟨p1, p2, p3⟩ := inS_iff.1 hpl
  obtain ⟨c1, c2, c3⟩ := inS_iff.1 o2
  obtain ⟨u1, u2, u3⟩ := inS_iff.1 o5
  have hmt := o1.tm
  have hmk := o1.tk
  simp only [TMod.pl] at p1 p2 p3
  have y0 := mul_rg (x := m.tk) (y := lt % 20) (A := 20) (B := 20) (C := 400) (by omega) (by omega) (by decide)
  have y1 := mul_rg (x := s.x) (y := lt % 20) (A := 20) (B := 20) (C := 400) (by omega) (by omega) (by decide)
  have y2 := mul_rg (x := s.y) (y := lt % 20) (A := 20) (B := 20) (C := 400) (by omega) (by omega) (by decide)
  have y3 := mul_rg (x := s.z) (y := lt % 20) (A := 20) (B := 20) (C := 400) (by omega) (by omega) (by decide)
  have HM : Hid (∀ W, Calls Try.prog 27 #[.int .i64 lt, .int .i64 20] W fun e w' => e = .returned (.int .i64 (lt % 20)) ∧ W = w') := hid (fun W => base_Mod20 lt W t1 t2)
  have HR : ∀ t : Int, -1000000 ≤ t → t ≤ 1000000 → ∀ W, Calls Try.prog 15 #[m.v, s.v, .agg #[.int .i64 q.x, .int .i64 q.y, .int .i64 q.z, .int .i64 t]] W fun e w' => e = .returned (.tuple #[.bool (decide (m.first s q ≤ t)), .int .i64 0]) ∧ Below W.heap.size W w' := fun t h1 h2 W => by
    refine (track_ReachedBy m s q t W).mono ?_
    rintro e w' ⟨g1, _, g3⟩
    rw [hfa t] at g1
    exact ⟨g1 (firstNZ2 hmd (mom_at hpq h1 h2)), g3⟩
  have HR1 := HR (m.first s q) (by omega) (by omega)
  have HR2 := HR (m.first s q - 1) (by omega) (by omega)
  have HR3 := HR (m.first s q + lt) (by omega) (by omega)
  rw [decide_eq_true (by omega)] at HR1
  rw [decide_eq_false (by omega)] at HR2
  rw [decide_eq_true (by omega)] at HR3
  have RM : ∀ W, Calls Try.prog 20 #[.agg #[.int .i64 (m.px + s.x * (lt % 20)), .int .i64 (m.py + s.y * (lt % 20)), .int .i64 (m.pz + s.z * (lt % 20)), .int .i64 (m.tm + m.tk * (lt % 20))]] W fun e w' => e = .returned (.int .i64 (momE (m.pl.add (s.mul (lt % 20))) (m.tm + m.tk * (lt % 20)))) ∧ Below W.heap.size W w' := fun W => ref_MomentErr (m.pl.add (s.mul (lt % 20))) (m.tm + m.tk * (lt % 20)) W
  have HR4 : momE (m.pl.add (s.mul (lt % 20))) (m.tm + m.tk * (lt % 20)) = 0 → ∀ W, Calls Try.prog 15 #[m.v, s.v, .agg #[.int .i64 (m.px + s.x * (lt % 20)), .int .i64 (m.py + s.y * (lt % 20)), .int .i64 (m.pz + s.z * (lt % 20)), .int .i64 (m.tm + m.tk * (lt % 20))]] W fun e w' => e = .returned (.tuple #[.bool true, .int .i64 0]) ∧ Below W.heap.size W w' := fun hc W => by
    refine (track_ReachedBy m s (m.pl.add (s.mul (lt % 20))) (m.tm + m.tk * (lt % 20)) W).mono ?_
    rintro e w' ⟨g1, _, g3⟩
    rw [reached_own] at g1
    exact ⟨g1 (firstNZ2 hmd hc), g3⟩
  have RE : ∀ W, Calls Try.prog 18 #[(m.put (m.pl.add d) (m.tm + dt)).v] W fun e w' => e = .returned (.int .i64 (m.put (m.pl.add d) (m.tm + dt)).err) ∧ Below W.heap.size W w' := fun W => ref_ModelErr (m.put (m.pl.add d) (m.tm + dt)) W
  have RQ : ∀ W, Calls Try.prog 21 #[.agg #[.int .i64 (q.x + d.x), .int .i64 (q.y + d.y), .int .i64 (q.z + d.z)]] W fun e w' => e = .returned (.int .i64 (plE (q.add d))) ∧ Below W.heap.size W w' := fun W => ref_PlaceErr (q.x + d.x) (q.y + d.y) (q.z + d.z) W
  have HD : Hid (((m.put (m.pl.add d) (m.tm + dt)).err == 0) = false ∨ (((m.put (m.pl.add d) (m.tm + dt)).err == 0) = true ∧ (plE (q.add d) == 0) = false) ∨ (((m.put (m.pl.add d) (m.tm + dt)).err == 0) = true ∧ (plE (q.add d) == 0) = true ∧ Hid (∀ W, Calls Try.prog 16 #[(m.put (m.pl.add d) (m.tm + dt)).v, s.v, (q.add d).v] W fun e w' => e = .returned (.tuple #[.int .i64 (m.first s q + dt), .int .i64 0]) ∧ Below W.heap.size W w'))) := hid (by
    by_cases h1 : (m.put (m.pl.add d) (m.tm + dt)).err = 0
    · by_cases h2 : plE (q.add d) = 0
      · refine .inr (.inr ⟨qz_eq h1, qz_eq h2, hid (fun W => ?_)⟩)
        refine (track_FirstAt (m.put (m.pl.add d) (m.tm + dt)) s (q.add d) W).mono ?_
        rintro e w' ⟨g1, _, _, g4⟩
        rw [first_moved o1.slp o4 n1 n2 ⟨t3, t4⟩] at g1
        exact ⟨g1 (firstNZ2 (both_moved _ _ hmd h1) h2) (inB_true.2 ⟨by omega, by omega⟩), g4⟩
      · exact .inr (.inl ⟨qz_eq h1, qz_ne h2⟩)
    · exact .inl (qz_ne h1))
  have HF3 : ∀ W, Calls Try.prog 16 #[(m.put m.pl.swap m.tm).v, s.swap.v, q.swap.v] W fun e w' => e = .returned (.tuple #[.int .i64 (m.first s q), .int .i64 0]) ∧ Below W.heap.size W w' := fun W => by
    refine (track_FirstAt (m.put m.pl.swap m.tm) s.swap q.swap W).mono ?_
    rintro e w' ⟨g1, _, _, g4⟩
    rw [first_turned o1.slp o4 n1 n2] at g1
    exact ⟨g1 (firstNZ2 ((both_turned m s).trans hmd) (by unfold plE at *; rw [swap_in]; exact hpq)) (inB_true.2 ⟨by omega, by omega⟩), g4⟩
  by_cases hC : momE (m.pl.add (s.mul (lt % 20))) (m.tm + m.tk * (lt % 20)) = 0
  · exact once_M1 m.px m.py m.pz m.tm m.tk m.lo m.hi m.li m.ea m.la m.no m.mi s.x s.y s.z q.x q.y q.z d.x d.y d.z dt lt (m.first s q) (m.first s q - 1) (m.first s q + lt) (lt % 20) (m.tk * (lt % 20)) (m.tm + m.tk * (lt % 20)) (s.x * (lt % 20)) (s.y * (lt % 20)) (s.z * (lt % 20)) (m.px + s.x * (lt % 20)) (m.py + s.y * (lt % 20)) (m.pz + s.z * (lt % 20)) (m.px + d.x) (m.py + d.y) (m.pz + d.z) (m.tm + dt) (q.x + d.x) (q.y + d.y) (q.z + d.z) (m.first s q + dt) (momE (m.pl.add (s.mul (lt % 20))) (m.tm + m.tk * (lt % 20))) ((m.put (m.pl.add d) (m.tm + dt)).err) (plE (q.add d)) (IntWalk.i64_in _ (by omega)) (IntWalk.i64_in _ (by omega)) (IntWalk.i64_in _ (by omega)) (IntWalk.i64_in _ (by omega)) (hid ⟨IntWalk.i64_in _ (by omega), IntWalk.i64_in _ (by omega)⟩) (hid ⟨IntWalk.i64_in _ (by omega), IntWalk.i64_in _ (by omega)⟩) (hid ⟨IntWalk.i64_in _ (by omega), IntWalk.i64_in _ (by omega)⟩) (IntWalk.i64_in _ (by omega)) (hid ⟨IntWalk.i64_in _ (by omega), IntWalk.i64_in _ (by omega)⟩) (hid ⟨IntWalk.i64_in _ (by omega), IntWalk.i64_in _ (by omega)⟩) (hid ⟨IntWalk.i64_in _ (by omega), IntWalk.i64_in _ (by omega)⟩) (IntWalk.i64_in _ (by omega)) (qz_eq hC) w (hid RB) (hid RP) (hid (fun W => by have := base_Within lt 0 1000 W; rw [hl] at this; exact this)) (hid (fun W => by have := base_Within dt (-1000) 1000 W; rw [ht] at this; exact this)) (hid (fun W => by have := base_Within d.x (-1000) 1000 W; rw [hx] at this; exact this)) (hid (fun W => by have := base_Within d.y (-1000) 1000 W; rw [hy] at this; exact this)) (hid (fun W => by have := base_Within d.z (-1000) 1000 W; rw [hz] at this; exact this)) HF' (hid (fun W => by have := base_Within (m.first s q) (-900000) 900000 W; rw [hn] at this; exact this)) (hid HR1) (hid HR2) (hid HR3) HM (hid RM) (hid (HR4 hC)) (hid RE) (hid RQ) HD (hid HF3)
  · exact once_M0 m.px m.py m.pz m.tm m.tk m.lo m.hi m.li m.ea m.la m.no m.mi s.x s.y s.z q.x q.y q.z d.x d.y d.z dt lt (m.first s q) (m.first s q - 1) (m.first s q + lt) (lt % 20) (m.tk * (lt % 20)) (m.tm + m.tk * (lt % 20)) (s.x * (lt % 20)) (s.y * (lt % 20)) (s.z * (lt % 20)) (m.px + s.x * (lt % 20)) (m.py + s.y * (lt % 20)) (m.pz + s.z * (lt % 20)) (m.px + d.x) (m.py + d.y) (m.pz + d.z) (m.tm + dt) (q.x + d.x) (q.y + d.y) (q.z + d.z) (m.first s q + dt) (momE (m.pl.add (s.mul (lt % 20))) (m.tm + m.tk * (lt % 20))) ((m.put (m.pl.add d) (m.tm + dt)).err) (plE (q.add d)) (IntWalk.i64_in _ (by omega)) (IntWalk.i64_in _ (by omega)) (IntWalk.i64_in _ (by omega)) (IntWalk.i64_in _ (by omega)) (hid ⟨IntWalk.i64_in _ (by omega), IntWalk.i64_in _ (by omega)⟩) (hid ⟨IntWalk.i64_in _ (by omega), IntWalk.i64_in _ (by omega)⟩) (hid ⟨IntWalk.i64_in _ (by omega), IntWalk.i64_in _ (by omega)⟩) (IntWalk.i64_in _ (by omega)) (hid ⟨IntWalk.i64_in _ (by omega), IntWalk.i64_in _ (by omega)⟩) (hid ⟨IntWalk.i64_in _ (by omega), IntWalk.i64_in _ (by omega)⟩) (hid ⟨IntWalk.i64_in _ (by omega), IntWalk.i64_in _ (by omega)⟩) (IntWalk.i64_in _ (by omega)) (qz_ne hC) w (hid RB) (hid RP) (hid (fun W => by have := base_Within lt 0 1000 W; rw [hl] at this; exact this)) (hid (fun W => by have := base_Within dt (-1000) 1000 W; rw [ht] at this; exact this)) (hid (fun W => by have := base_Within d.x (-1000) 1000 W; rw [hx] at this; exact this)) (hid (fun W => by have := base_Within d.y (-1000) 1000 W; rw [hy] at this; exact this)) (hid (fun W => by have := base_Within d.z (-1000) 1000 W; rw [hz] at this; exact this)) HF' (hid (fun W => by have := base_Within (m.first s q) (-900000) 900000 W; rw [hn] at this; exact this)) (hid HR1) (hid HR2) (hid HR3) HM (hid RM) (hid RE) (hid RQ) HD (hid HF3)
end Go.Proofs.Ytlmdmpjfehpjeaa

