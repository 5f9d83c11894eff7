/- Tracks: the law of scores. -/
import Derived.Test.YtlmdmpjfehpjeaaL10
import Derived.Test.YtlmdmpjfehpjeaaL18
import Derived.Test.YtlmdmpjfehpjeaaL9
import Derived.Test.YtlmdmpjfehpjeaaL11
set_option linter.unusedVariables false
set_option linter.unusedSimpArgs false
namespace Go.Proofs.Ytlmdmpjfehpjeaa
open Go.RowKit

set_option maxRecDepth 100000 in
set_option maxHeartbeats 16000000 in
theorem law_Scores_B (px py pz tm tk lo hi li ea la no mi sx sy sz IX EH C : Int) (ao : Option Addr) (n cap : Nat) (l : List THit) (ps : List Int) (q1 : (C != 0) = true) (w : World) (hn : n ≤ 14)
    (HFW : Hid (∀ W, Calls Try.prog 28 #[.slice ao n cap] W fun e w' => e = .returned (.bool (decide (n ≤ 14))) ∧ W = w'))
    (HCP : Hid (∀ W, Below w.heap.size w W → Calls Try.prog 30 #[.slice ao n cap] W fun e w' => ∃ ao2 cap2, e = .returned (.slice ao2 n cap2) ∧ HitsAt w' (.slice ao2 n cap2) l ∧ Below W.heap.size W w'))
    (HCH : Hid (∀ v W, HitsAt W v l → Calls Try.prog 29 #[v] W fun e w' => e = .returned (.tuple #[.int .i64 IX, .int .i64 EH]) ∧ Below W.heap.size W w'))
    (RCH : Hid (∀ W, Below w.heap.size w W → Calls Try.prog 33 #[.slice ao n cap] W fun e w' => e = .returned (.tuple #[.int .i64 IX, .int .i64 EH]) ∧ Below W.heap.size W w'))
    (RB : Hid (∀ W, Calls Try.prog 19 #[.agg #[.int .i64 px, .int .i64 py, .int .i64 pz, .int .i64 tm, .int .i64 tk, .int .i64 lo, .int .i64 hi, .int .i64 li, .int .i64 ea, .int .i64 la, .int .i64 no, .int .i64 mi], .agg #[.int .i64 sx, .int .i64 sy, .int .i64 sz]] W fun e w' => e = .returned (.int .i64 C) ∧ Below W.heap.size W w'))
    (HPO : Hid (∀ v W, HitsAt W v l → Calls Try.prog 31 #[.agg #[.int .i64 px, .int .i64 py, .int .i64 pz, .int .i64 tm, .int .i64 tk, .int .i64 lo, .int .i64 hi, .int .i64 li, .int .i64 ea, .int .i64 la, .int .i64 no, .int .i64 mi], .agg #[.int .i64 sx, .int .i64 sy, .int .i64 sz], v] W fun e w' => e = .returned (.tuple #[.slice none 0 0, .int .i64 C]) ∧ Below W.heap.size W w'))
    (HSC : Hid (∀ v W, HitsAt W v l → Calls Try.prog 32 #[.agg #[.int .i64 px, .int .i64 py, .int .i64 pz, .int .i64 tm, .int .i64 tk, .int .i64 lo, .int .i64 hi, .int .i64 li, .int .i64 ea, .int .i64 la, .int .i64 no, .int .i64 mi], .agg #[.int .i64 sx, .int .i64 sy, .int .i64 sz], v] W fun e w' => e = .returned (.tuple #[.int .i64 0, .int .i64 C]) ∧ Below W.heap.size W w'))
    : Calls Try.prog 5 #[.agg #[.int .i64 px, .int .i64 py, .int .i64 pz, .int .i64 tm, .int .i64 tk, .int .i64 lo, .int .i64 hi, .int .i64 li, .int .i64 ea, .int .i64 la, .int .i64 no, .int .i64 mi], .agg #[.int .i64 sx, .int .i64 sy, .int .i64 sz], .slice ao n cap] w fun e w' => e = .returned (.bool true) ∧ Below w.heap.size w w' := by
  have HA := hid law_awake5
  obtain ⟨W0, hW0⟩ : ∃ W0, W0 = (w.alloc (.cells #[.int .i64 px, .int .i64 py, .int .i64 pz, .int .i64 tm, .int .i64 tk, .int .i64 lo, .int .i64 hi, .int .i64 li, .int .i64 ea, .int .i64 la, .int .i64 no, .int .i64 mi] 26)).alloc (.cells #[.int .i64 sx, .int .i64 sy, .int .i64 sz] 22) := ⟨_, rfl⟩
  have hbW0 : Below w.heap.size w W0 := by rw [hW0]; (repeat (with_reducible first | exact Below.refl _ _ | assumption | refine Below.drewN _ ?_ | refine Below.drew ?_ | refine Below_alloc ?_ _ | refine Below.alloc ?_ (by first | (simp; done) | (simp; omega) | omega) _ | refine Below.setCell ?_ (by first | (simp; done) | (simp; omega) | omega) _ | refine Below_call ?_ (by assumption) | refine Below.trans ?_ (by assumption)))
  obtain ⟨q0, q1, l0, l1⟩ := al2 w _ _ _ _ W0 hW0
  have Q0 := hid q0
  have Q1 := hid q1
  have hzW0 := hbW0.size
  clear q0 q1
  go_enter Try.func5, Try.ntmps5
  go_wp2_with fail
  rw [← hW0]
  refine (HA.out _).mono ?_
  rintro _ w1 ⟨rfl, hb1⟩
  clear hW0
  have hb01 : Below W0.heap.size W0 w1 := hb1
  obtain ⟨m0, m1, m2, m3, m4, m5, m6, m7, m8, m9, m10, m11, ml⟩ := tw_cells ((hb01.block w.heap.size l0).trans Q0.out)
  obtain ⟨s0, s1, s2, fs0, fs1, fs2, hls⟩ := three_cells ((hb01.block (w.heap.size + 1) l1).trans Q1.out)
  clear fs0 fs1 fs2
  have hbf1 : Below w.heap.size w w1 := hbW0.trans (hb01.mono hzW0)
  go_wp2_with (go_at_call 28; refine (HFW.out _).mono ?_; rintro _ _ ⟨rfl, rfl⟩)
  refine (HCP.out _ hbf1).mono ?_
  rintro _ w2 ⟨ao2, cap2, rfl, hv2, hb2⟩
  have HV2 := hid hv2
  clear hv2
  have hb02 : Below W0.heap.size W0 w2 := hb01.trans (hb2.mono hb01.size)
  clear m0 m1 m2 m3 m4 m5 m6 m7 m8 m9 m10 m11 ml s0 s1 s2 hls
  obtain ⟨m0, m1, m2, m3, m4, m5, m6, m7, m8, m9, m10, m11, ml⟩ := tw_cells ((hb02.block w.heap.size l0).trans Q0.out)
  obtain ⟨s0, s1, s2, fs0, fs1, fs2, hls⟩ := three_cells ((hb02.block (w.heap.size + 1) l1).trans Q1.out)
  clear fs0 fs1 fs2
  have hbf2 : Below w.heap.size w w2 := hbW0.trans (hb02.mono hzW0)
  go_wp2_with fail
  refine (HCH.out _ _ HV2.out).mono ?_
  rintro _ w3 ⟨rfl, hb3⟩
  have hb03 : Below W0.heap.size W0 w3 := hb02.trans (hb3.mono hb02.size)
  clear m0 m1 m2 m3 m4 m5 m6 m7 m8 m9 m10 m11 ml s0 s1 s2 hls
  obtain ⟨m0, m1, m2, m3, m4, m5, m6, m7, m8, m9, m10, m11, ml⟩ := tw_cells ((hb03.block w.heap.size l0).trans Q0.out)
  obtain ⟨s0, s1, s2, fs0, fs1, fs2, hls⟩ := three_cells ((hb03.block (w.heap.size + 1) l1).trans Q1.out)
  clear fs0 fs1 fs2
  have hbf3 : Below w.heap.size w w3 := hbW0.trans (hb03.mono hzW0)
  clear hbf1 hbf2
  go_wp2_with fail
  refine wp_mixC (fun wc => Below (w3.heap.size) w3 wc) 9 [.q [0, 1, 2], .f [3, 4], .q [5, 6, 7, 8]] [.q [9]] (by kernel_rfl) (by kernel_rfl) ((Below.refl _ _).drew) ?_
  intro Q' hQ'
  (rw [wpMixC]; simp only [pick, List.drop_succ_cons, List.drop_zero, List.head?_cons, Option.toList_some, List.cons_append, List.nil_append])
  (repeat (first | go_big_quiet_skip | (go_big_quiet_want; refine quiet_simple rfl ?_; go_big_quiet_op; go_big_quiet_on) | (go_big_quiet_want; refine quiet_agg3B (ty := 22) rfl rfl (by kernel_rfl) (by assumption) (by assumption) (by assumption) (by first | omega | (simp; omega)) ?_; simp only [Act.put, List.setIfInBounds_toArray, List.set_cons_succ, List.set_cons_zero]; go_big_quiet_on) | (go_big_quiet_want; refine quiet_agg12B (ty := 26) rfl rfl (by kernel_rfl) (by assumption) (by assumption) (by assumption) (by assumption) (by assumption) (by assumption) (by assumption) (by assumption) (by assumption) (by assumption) (by assumption) (by assumption) (by first | omega | (simp; omega)) ?_; simp only [Act.put, List.setIfInBounds_toArray, List.set_cons_succ, List.set_cons_zero]; go_big_quiet_on)))
  (try refine wpQuiet_nil ?_)
  (rw [wpMixC]; simp only [pick, List.drop_succ_cons, List.drop_zero, List.head?_cons, Option.toList_some, List.cons_append, List.nil_append])
  (rw [wpSteps]; go_wp2_with ((go_at_call 30; have hbq : Below w.heap.size w (w3.drew) := (by (repeat (with_reducible first | exact Below.refl _ _ | assumption | refine Below.drewN _ ?_ | refine Below.drew ?_ | refine Below_alloc ?_ _ | refine Below.alloc ?_ (by first | (simp; done) | (simp; omega) | omega) _ | refine Below.setCell ?_ (by first | (simp; done) | (simp; omega) | omega) _ | refine Below_call ?_ (by assumption) | refine Below.trans ?_ (by assumption)))); refine (HCP.out _ hbq).mono ?_; rintro _ w4 ⟨ao4, cap4, rfl, hv4, hb4⟩; have HV4 := hid hv4; clear hv4 hbq)); rw [contF]; refine ⟨?_, ?_⟩; (next => (repeat (with_reducible first | exact Below.refl _ _ | assumption | refine Below.drewN _ ?_ | refine Below.drew ?_ | refine Below_alloc ?_ _ | refine Below.alloc ?_ (by first | (simp; done) | (simp; omega) | omega) _ | refine Below.setCell ?_ (by first | (simp; done) | (simp; omega) | omega) _ | refine Below_call ?_ (by assumption) | refine Below.trans ?_ (by assumption)))))
  (rw [wpSteps]; go_wp2_with ((go_at_call 31; refine (HPO.out _ _ HV4.out).mono ?_; rintro _ w5 ⟨rfl, hb5⟩)); rw [contF]; refine ⟨?_, ?_⟩; (next => (repeat (with_reducible first | exact Below.refl _ _ | assumption | refine Below.drewN _ ?_ | refine Below.drew ?_ | refine Below_alloc ?_ _ | refine Below.alloc ?_ (by first | (simp; done) | (simp; omega) | omega) _ | refine Below.setCell ?_ (by first | (simp; done) | (simp; omega) | omega) _ | refine Below_call ?_ (by assumption) | refine Below.trans ?_ (by assumption)))))
  (rw [wpSteps])
  (rw [wpMixC]; simp only [pick, List.drop_succ_cons, List.drop_zero, List.head?_cons, Option.toList_some, List.cons_append, List.nil_append])
  (repeat (first | go_big_quiet_skip | (go_big_quiet_want; refine quiet_simple rfl ?_; go_big_quiet_op; go_big_quiet_on) | (go_big_quiet_want; refine quiet_agg3B (ty := 22) rfl rfl (by kernel_rfl) (by assumption) (by assumption) (by assumption) (by first | omega | (simp; omega)) ?_; simp only [Act.put, List.setIfInBounds_toArray, List.set_cons_succ, List.set_cons_zero]; go_big_quiet_on) | (go_big_quiet_want; refine quiet_agg12B (ty := 26) rfl rfl (by kernel_rfl) (by assumption) (by assumption) (by assumption) (by assumption) (by assumption) (by assumption) (by assumption) (by assumption) (by assumption) (by assumption) (by assumption) (by assumption) (by first | omega | (simp; omega)) ?_; simp only [Act.put, List.setIfInBounds_toArray, List.set_cons_succ, List.set_cons_zero]; go_big_quiet_on)))
  (try refine wpQuiet_nil ?_)
  (rw [wpMixC])
  (rw [wpMix]; simp only [pick, List.drop_succ_cons, List.drop_zero, List.head?_cons, Option.toList_some, List.cons_append, List.nil_append])
  (repeat (first | (go_big_quiet_step (fail)) | (quiet_step (fail))))
  (try refine wpQuiet_nil ?_)
  (rw [wpMix])
  (refine hQ' _ _ ?_)
  have hb35 : Below w3.heap.size w3 w5 := by (repeat (with_reducible first | exact Below.refl _ _ | assumption | refine Below.drewN _ ?_ | refine Below.drew ?_ | refine Below_alloc ?_ _ | refine Below.alloc ?_ (by first | (simp; done) | (simp; omega) | omega) _ | refine Below.setCell ?_ (by first | (simp; done) | (simp; omega) | omega) _ | refine Below_call ?_ (by assumption) | refine Below.trans ?_ (by assumption)))
  have hb05 : Below W0.heap.size W0 w5 := hb03.trans (hb35.mono hb03.size)
  clear m0 m1 m2 m3 m4 m5 m6 m7 m8 m9 m10 m11 ml s0 s1 s2 hls
  obtain ⟨m0, m1, m2, m3, m4, m5, m6, m7, m8, m9, m10, m11, ml⟩ := tw_cells ((hb05.block w.heap.size l0).trans Q0.out)
  obtain ⟨s0, s1, s2, fs0, fs1, fs2, hls⟩ := three_cells ((hb05.block (w.heap.size + 1) l1).trans Q1.out)
  clear fs0 fs1 fs2
  have hbf5 : Below w.heap.size w w5 := hbW0.trans (hb05.mono hzW0)
  clear hbf3 hb4 hb5 hb35
  go_wp2_with fail
  refine wp_mixC (fun wc => Below (w5.heap.size) w5 wc) 9 [.q [0, 1, 2], .f [3, 4], .q [5, 6, 7, 8]] [.q [9]] (by kernel_rfl) (by kernel_rfl) ((Below.refl _ _).drew) ?_
  intro Q' hQ'
  (rw [wpMixC]; simp only [pick, List.drop_succ_cons, List.drop_zero, List.head?_cons, Option.toList_some, List.cons_append, List.nil_append])
  (repeat (first | go_big_quiet_skip | (go_big_quiet_want; refine quiet_simple rfl ?_; go_big_quiet_op; go_big_quiet_on) | (go_big_quiet_want; refine quiet_agg3B (ty := 22) rfl rfl (by kernel_rfl) (by assumption) (by assumption) (by assumption) (by first | omega | (simp; omega)) ?_; simp only [Act.put, List.setIfInBounds_toArray, List.set_cons_succ, List.set_cons_zero]; go_big_quiet_on) | (go_big_quiet_want; refine quiet_agg12B (ty := 26) rfl rfl (by kernel_rfl) (by assumption) (by assumption) (by assumption) (by assumption) (by assumption) (by assumption) (by assumption) (by assumption) (by assumption) (by assumption) (by assumption) (by assumption) (by first | omega | (simp; omega)) ?_; simp only [Act.put, List.setIfInBounds_toArray, List.set_cons_succ, List.set_cons_zero]; go_big_quiet_on)))
  (try refine wpQuiet_nil ?_)
  (rw [wpMixC]; simp only [pick, List.drop_succ_cons, List.drop_zero, List.head?_cons, Option.toList_some, List.cons_append, List.nil_append])
  (rw [wpSteps]; go_wp2_with ((go_at_call 30; have hbq : Below w.heap.size w (w5.drew) := (by (repeat (with_reducible first | exact Below.refl _ _ | assumption | refine Below.drewN _ ?_ | refine Below.drew ?_ | refine Below_alloc ?_ _ | refine Below.alloc ?_ (by first | (simp; done) | (simp; omega) | omega) _ | refine Below.setCell ?_ (by first | (simp; done) | (simp; omega) | omega) _ | refine Below_call ?_ (by assumption) | refine Below.trans ?_ (by assumption)))); refine (HCP.out _ hbq).mono ?_; rintro _ w6 ⟨ao6, cap6, rfl, hv6, hb6⟩; have HV6 := hid hv6; clear hv6 hbq)); rw [contF]; refine ⟨?_, ?_⟩; (next => (repeat (with_reducible first | exact Below.refl _ _ | assumption | refine Below.drewN _ ?_ | refine Below.drew ?_ | refine Below_alloc ?_ _ | refine Below.alloc ?_ (by first | (simp; done) | (simp; omega) | omega) _ | refine Below.setCell ?_ (by first | (simp; done) | (simp; omega) | omega) _ | refine Below_call ?_ (by assumption) | refine Below.trans ?_ (by assumption)))))
  (rw [wpSteps]; go_wp2_with ((go_at_call 32; refine (HSC.out _ _ HV6.out).mono ?_; rintro _ w7 ⟨rfl, hb7⟩)); rw [contF]; refine ⟨?_, ?_⟩; (next => (repeat (with_reducible first | exact Below.refl _ _ | assumption | refine Below.drewN _ ?_ | refine Below.drew ?_ | refine Below_alloc ?_ _ | refine Below.alloc ?_ (by first | (simp; done) | (simp; omega) | omega) _ | refine Below.setCell ?_ (by first | (simp; done) | (simp; omega) | omega) _ | refine Below_call ?_ (by assumption) | refine Below.trans ?_ (by assumption)))))
  (rw [wpSteps])
  (rw [wpMixC]; simp only [pick, List.drop_succ_cons, List.drop_zero, List.head?_cons, Option.toList_some, List.cons_append, List.nil_append])
  (repeat (first | go_big_quiet_skip | (go_big_quiet_want; refine quiet_simple rfl ?_; go_big_quiet_op; go_big_quiet_on) | (go_big_quiet_want; refine quiet_agg3B (ty := 22) rfl rfl (by kernel_rfl) (by assumption) (by assumption) (by assumption) (by first | omega | (simp; omega)) ?_; simp only [Act.put, List.setIfInBounds_toArray, List.set_cons_succ, List.set_cons_zero]; go_big_quiet_on) | (go_big_quiet_want; refine quiet_agg12B (ty := 26) rfl rfl (by kernel_rfl) (by assumption) (by assumption) (by assumption) (by assumption) (by assumption) (by assumption) (by assumption) (by assumption) (by assumption) (by assumption) (by assumption) (by assumption) (by first | omega | (simp; omega)) ?_; simp only [Act.put, List.setIfInBounds_toArray, List.set_cons_succ, List.set_cons_zero]; go_big_quiet_on)))
  (try refine wpQuiet_nil ?_)
  (rw [wpMixC])
  (rw [wpMix]; simp only [pick, List.drop_succ_cons, List.drop_zero, List.head?_cons, Option.toList_some, List.cons_append, List.nil_append])
  (repeat (first | (go_big_quiet_step (fail)) | (quiet_step (fail))))
  (try refine wpQuiet_nil ?_)
  (rw [wpMix])
  (refine hQ' _ _ ?_)
  have hb57 : Below w5.heap.size w5 w7 := by (repeat (with_reducible first | exact Below.refl _ _ | assumption | refine Below.drewN _ ?_ | refine Below.drew ?_ | refine Below_alloc ?_ _ | refine Below.alloc ?_ (by first | (simp; done) | (simp; omega) | omega) _ | refine Below.setCell ?_ (by first | (simp; done) | (simp; omega) | omega) _ | refine Below_call ?_ (by assumption) | refine Below.trans ?_ (by assumption)))
  have hb07 : Below W0.heap.size W0 w7 := hb05.trans (hb57.mono hb05.size)
  clear m0 m1 m2 m3 m4 m5 m6 m7 m8 m9 m10 m11 ml s0 s1 s2 hls
  obtain ⟨m0, m1, m2, m3, m4, m5, m6, m7, m8, m9, m10, m11, ml⟩ := tw_cells ((hb07.block w.heap.size l0).trans Q0.out)
  obtain ⟨s0, s1, s2, fs0, fs1, fs2, hls⟩ := three_cells ((hb07.block (w.heap.size + 1) l1).trans Q1.out)
  clear fs0 fs1 fs2
  have hbf7 : Below w.heap.size w w7 := hbW0.trans (hb07.mono hzW0)
  clear hbf5 hb6 hb7 hb57
  go_wp2_with fail
  refine (RCH.out _ hbf7).mono ?_
  rintro _ w8 ⟨rfl, hb8⟩
  have hb08 : Below W0.heap.size W0 w8 := hb07.trans (hb8.mono hb07.size)
  clear m0 m1 m2 m3 m4 m5 m6 m7 m8 m9 m10 m11 ml s0 s1 s2 hls
  obtain ⟨m0, m1, m2, m3, m4, m5, m6, m7, m8, m9, m10, m11, ml⟩ := tw_cells ((hb08.block w.heap.size l0).trans Q0.out)
  obtain ⟨s0, s1, s2, fs0, fs1, fs2, hls⟩ := three_cells ((hb08.block (w.heap.size + 1) l1).trans Q1.out)
  clear fs0 fs1 fs2
  have hbf8 : Below w.heap.size w w8 := hbW0.trans (hb08.mono hzW0)
  clear hbf7
  go_wp2_with fail
  refine (RB.out _).mono ?_
  rintro _ w9 ⟨rfl, hb9⟩
  have hbf9 : Below w.heap.size w w9 := hbf8.trans (hb9.mono hbf8.size)
  clear hbf8 hb9
  clear m0 m1 m2 m3 m4 m5 m6 m7 m8 m9 m10 m11 ml s0 s1 s2 hls
  go_wp2_with fail
  go_ret
  exact ⟨rfl, hbf9⟩

set_option maxRecDepth 100000 in
set_option maxHeartbeats 16000000 in
theorem law_Scores_C (px py pz tm tk lo hi li ea la no mi sx sy sz IX EH C : Int) (ao : Option Addr) (n cap : Nat) (l : List THit) (ps : List Int) (q1 : (EH != 0) = true) (hC : C = 0) (w : World) (hn : n ≤ 14)
    (HFW : Hid (∀ W, Calls Try.prog 28 #[.slice ao n cap] W fun e w' => e = .returned (.bool (decide (n ≤ 14))) ∧ W = w'))
    (HCP : Hid (∀ W, Below w.heap.size w W → Calls Try.prog 30 #[.slice ao n cap] W fun e w' => ∃ ao2 cap2, e = .returned (.slice ao2 n cap2) ∧ HitsAt w' (.slice ao2 n cap2) l ∧ Below W.heap.size W w'))
    (HCH : Hid (∀ v W, HitsAt W v l → Calls Try.prog 29 #[v] W fun e w' => e = .returned (.tuple #[.int .i64 IX, .int .i64 EH]) ∧ Below W.heap.size W w'))
    (RCH : Hid (∀ W, Below w.heap.size w W → Calls Try.prog 33 #[.slice ao n cap] W fun e w' => e = .returned (.tuple #[.int .i64 IX, .int .i64 EH]) ∧ Below W.heap.size W w'))
    (RB : Hid (∀ W, Calls Try.prog 19 #[.agg #[.int .i64 px, .int .i64 py, .int .i64 pz, .int .i64 tm, .int .i64 tk, .int .i64 lo, .int .i64 hi, .int .i64 li, .int .i64 ea, .int .i64 la, .int .i64 no, .int .i64 mi], .agg #[.int .i64 sx, .int .i64 sy, .int .i64 sz]] W fun e w' => e = .returned (.int .i64 C) ∧ Below W.heap.size W w'))
    (HPO : Hid (∀ v W, HitsAt W v l → Calls Try.prog 31 #[.agg #[.int .i64 px, .int .i64 py, .int .i64 pz, .int .i64 tm, .int .i64 tk, .int .i64 lo, .int .i64 hi, .int .i64 li, .int .i64 ea, .int .i64 la, .int .i64 no, .int .i64 mi], .agg #[.int .i64 sx, .int .i64 sy, .int .i64 sz], v] W fun e w' => e = .returned (.tuple #[.slice none 0 0, .int .i64 EH]) ∧ Below W.heap.size W w'))
    (HSC : Hid (∀ v W, HitsAt W v l → Calls Try.prog 32 #[.agg #[.int .i64 px, .int .i64 py, .int .i64 pz, .int .i64 tm, .int .i64 tk, .int .i64 lo, .int .i64 hi, .int .i64 li, .int .i64 ea, .int .i64 la, .int .i64 no, .int .i64 mi], .agg #[.int .i64 sx, .int .i64 sy, .int .i64 sz], v] W fun e w' => e = .returned (.tuple #[.int .i64 0, .int .i64 EH]) ∧ Below W.heap.size W w'))
    : Calls Try.prog 5 #[.agg #[.int .i64 px, .int .i64 py, .int .i64 pz, .int .i64 tm, .int .i64 tk, .int .i64 lo, .int .i64 hi, .int .i64 li, .int .i64 ea, .int .i64 la, .int .i64 no, .int .i64 mi], .agg #[.int .i64 sx, .int .i64 sy, .int .i64 sz], .slice ao n cap] w fun e w' => e = .returned (.bool true) ∧ Below w.heap.size w w' := by
  subst hC
  have HA := hid law_awake5
  obtain ⟨W0, hW0⟩ : ∃ W0, W0 = (w.alloc (.cells #[.int .i64 px, .int .i64 py, .int .i64 pz, .int .i64 tm, .int .i64 tk, .int .i64 lo, .int .i64 hi, .int .i64 li, .int .i64 ea, .int .i64 la, .int .i64 no, .int .i64 mi] 26)).alloc (.cells #[.int .i64 sx, .int .i64 sy, .int .i64 sz] 22) := ⟨_, rfl⟩
  have hbW0 : Below w.heap.size w W0 := by rw [hW0]; (repeat (with_reducible first | exact Below.refl _ _ | assumption | refine Below.drewN _ ?_ | refine Below.drew ?_ | refine Below_alloc ?_ _ | refine Below.alloc ?_ (by first | (simp; done) | (simp; omega) | omega) _ | refine Below.setCell ?_ (by first | (simp; done) | (simp; omega) | omega) _ | refine Below_call ?_ (by assumption) | refine Below.trans ?_ (by assumption)))
  obtain ⟨q0, q1, l0, l1⟩ := al2 w _ _ _ _ W0 hW0
  have Q0 := hid q0
  have Q1 := hid q1
  have hzW0 := hbW0.size
  clear q0 q1
  go_enter Try.func5, Try.ntmps5
  go_wp2_with fail
  rw [← hW0]
  refine (HA.out _).mono ?_
  rintro _ w1 ⟨rfl, hb1⟩
  clear hW0
  have hb01 : Below W0.heap.size W0 w1 := hb1
  obtain ⟨m0, m1, m2, m3, m4, m5, m6, m7, m8, m9, m10, m11, ml⟩ := tw_cells ((hb01.block w.heap.size l0).trans Q0.out)
  obtain ⟨s0, s1, s2, fs0, fs1, fs2, hls⟩ := three_cells ((hb01.block (w.heap.size + 1) l1).trans Q1.out)
  clear fs0 fs1 fs2
  have hbf1 : Below w.heap.size w w1 := hbW0.trans (hb01.mono hzW0)
  go_wp2_with (go_at_call 28; refine (HFW.out _).mono ?_; rintro _ _ ⟨rfl, rfl⟩)
  refine (HCP.out _ hbf1).mono ?_
  rintro _ w2 ⟨ao2, cap2, rfl, hv2, hb2⟩
  have HV2 := hid hv2
  clear hv2
  have hb02 : Below W0.heap.size W0 w2 := hb01.trans (hb2.mono hb01.size)
  clear m0 m1 m2 m3 m4 m5 m6 m7 m8 m9 m10 m11 ml s0 s1 s2 hls
  obtain ⟨m0, m1, m2, m3, m4, m5, m6, m7, m8, m9, m10, m11, ml⟩ := tw_cells ((hb02.block w.heap.size l0).trans Q0.out)
  obtain ⟨s0, s1, s2, fs0, fs1, fs2, hls⟩ := three_cells ((hb02.block (w.heap.size + 1) l1).trans Q1.out)
  clear fs0 fs1 fs2
  have hbf2 : Below w.heap.size w w2 := hbW0.trans (hb02.mono hzW0)
  go_wp2_with fail
  refine (HCH.out _ _ HV2.out).mono ?_
  rintro _ w3 ⟨rfl, hb3⟩
  have hb03 : Below W0.heap.size W0 w3 := hb02.trans (hb3.mono hb02.size)
  clear m0 m1 m2 m3 m4 m5 m6 m7 m8 m9 m10 m11 ml s0 s1 s2 hls
  obtain ⟨m0, m1, m2, m3, m4, m5, m6, m7, m8, m9, m10, m11, ml⟩ := tw_cells ((hb03.block w.heap.size l0).trans Q0.out)
  obtain ⟨s0, s1, s2, fs0, fs1, fs2, hls⟩ := three_cells ((hb03.block (w.heap.size + 1) l1).trans Q1.out)
  clear fs0 fs1 fs2
  have hbf3 : Below w.heap.size w w3 := hbW0.trans (hb03.mono hzW0)
  clear hbf1 hbf2
  go_wp2_with fail
  refine wp_mixC (fun wc => Below (w3.heap.size) w3 wc) 9 [.q [0, 1, 2], .f [3, 4], .q [5, 6, 7, 8]] [.q [9]] (by kernel_rfl) (by kernel_rfl) ((Below.refl _ _).drew) ?_
  intro Q' hQ'
  (rw [wpMixC]; simp only [pick, List.drop_succ_cons, List.drop_zero, List.head?_cons, Option.toList_some, List.cons_append, List.nil_append])
  (repeat (first | go_big_quiet_skip | (go_big_quiet_want; refine quiet_simple rfl ?_; go_big_quiet_op; go_big_quiet_on) | (go_big_quiet_want; refine quiet_agg3B (ty := 22) rfl rfl (by kernel_rfl) (by assumption) (by assumption) (by assumption) (by first | omega | (simp; omega)) ?_; simp only [Act.put, List.setIfInBounds_toArray, List.set_cons_succ, List.set_cons_zero]; go_big_quiet_on) | (go_big_quiet_want; refine quiet_agg12B (ty := 26) rfl rfl (by kernel_rfl) (by assumption) (by assumption) (by assumption) (by assumption) (by assumption) (by assumption) (by assumption) (by assumption) (by assumption) (by assumption) (by assumption) (by assumption) (by first | omega | (simp; omega)) ?_; simp only [Act.put, List.setIfInBounds_toArray, List.set_cons_succ, List.set_cons_zero]; go_big_quiet_on)))
  (try refine wpQuiet_nil ?_)
  (rw [wpMixC]; simp only [pick, List.drop_succ_cons, List.drop_zero, List.head?_cons, Option.toList_some, List.cons_append, List.nil_append])
  (rw [wpSteps]; go_wp2_with ((go_at_call 30; have hbq : Below w.heap.size w (w3.drew) := (by (repeat (with_reducible first | exact Below.refl _ _ | assumption | refine Below.drewN _ ?_ | refine Below.drew ?_ | refine Below_alloc ?_ _ | refine Below.alloc ?_ (by first | (simp; done) | (simp; omega) | omega) _ | refine Below.setCell ?_ (by first | (simp; done) | (simp; omega) | omega) _ | refine Below_call ?_ (by assumption) | refine Below.trans ?_ (by assumption)))); refine (HCP.out _ hbq).mono ?_; rintro _ w4 ⟨ao4, cap4, rfl, hv4, hb4⟩; have HV4 := hid hv4; clear hv4 hbq)); rw [contF]; refine ⟨?_, ?_⟩; (next => (repeat (with_reducible first | exact Below.refl _ _ | assumption | refine Below.drewN _ ?_ | refine Below.drew ?_ | refine Below_alloc ?_ _ | refine Below.alloc ?_ (by first | (simp; done) | (simp; omega) | omega) _ | refine Below.setCell ?_ (by first | (simp; done) | (simp; omega) | omega) _ | refine Below_call ?_ (by assumption) | refine Below.trans ?_ (by assumption)))))
  (rw [wpSteps]; go_wp2_with ((go_at_call 31; refine (HPO.out _ _ HV4.out).mono ?_; rintro _ w5 ⟨rfl, hb5⟩)); rw [contF]; refine ⟨?_, ?_⟩; (next => (repeat (with_reducible first | exact Below.refl _ _ | assumption | refine Below.drewN _ ?_ | refine Below.drew ?_ | refine Below_alloc ?_ _ | refine Below.alloc ?_ (by first | (simp; done) | (simp; omega) | omega) _ | refine Below.setCell ?_ (by first | (simp; done) | (simp; omega) | omega) _ | refine Below_call ?_ (by assumption) | refine Below.trans ?_ (by assumption)))))
  (rw [wpSteps])
  (rw [wpMixC]; simp only [pick, List.drop_succ_cons, List.drop_zero, List.head?_cons, Option.toList_some, List.cons_append, List.nil_append])
  (repeat (first | go_big_quiet_skip | (go_big_quiet_want; refine quiet_simple rfl ?_; go_big_quiet_op; go_big_quiet_on) | (go_big_quiet_want; refine quiet_agg3B (ty := 22) rfl rfl (by kernel_rfl) (by assumption) (by assumption) (by assumption) (by first | omega | (simp; omega)) ?_; simp only [Act.put, List.setIfInBounds_toArray, List.set_cons_succ, List.set_cons_zero]; go_big_quiet_on) | (go_big_quiet_want; refine quiet_agg12B (ty := 26) rfl rfl (by kernel_rfl) (by assumption) (by assumption) (by assumption) (by assumption) (by assumption) (by assumption) (by assumption) (by assumption) (by assumption) (by assumption) (by assumption) (by assumption) (by first | omega | (simp; omega)) ?_; simp only [Act.put, List.setIfInBounds_toArray, List.set_cons_succ, List.set_cons_zero]; go_big_quiet_on)))
  (try refine wpQuiet_nil ?_)
  (rw [wpMixC])
  (rw [wpMix]; simp only [pick, List.drop_succ_cons, List.drop_zero, List.head?_cons, Option.toList_some, List.cons_append, List.nil_append])
  (repeat (first | (go_big_quiet_step (fail)) | (quiet_step (fail))))
  (try refine wpQuiet_nil ?_)
  (rw [wpMix])
  (refine hQ' _ _ ?_)
  have hb35 : Below w3.heap.size w3 w5 := by (repeat (with_reducible first | exact Below.refl _ _ | assumption | refine Below.drewN _ ?_ | refine Below.drew ?_ | refine Below_alloc ?_ _ | refine Below.alloc ?_ (by first | (simp; done) | (simp; omega) | omega) _ | refine Below.setCell ?_ (by first | (simp; done) | (simp; omega) | omega) _ | refine Below_call ?_ (by assumption) | refine Below.trans ?_ (by assumption)))
  have hb05 : Below W0.heap.size W0 w5 := hb03.trans (hb35.mono hb03.size)
  clear m0 m1 m2 m3 m4 m5 m6 m7 m8 m9 m10 m11 ml s0 s1 s2 hls
  obtain ⟨m0, m1, m2, m3, m4, m5, m6, m7, m8, m9, m10, m11, ml⟩ := tw_cells ((hb05.block w.heap.size l0).trans Q0.out)
  obtain ⟨s0, s1, s2, fs0, fs1, fs2, hls⟩ := three_cells ((hb05.block (w.heap.size + 1) l1).trans Q1.out)
  clear fs0 fs1 fs2
  have hbf5 : Below w.heap.size w w5 := hbW0.trans (hb05.mono hzW0)
  clear hbf3 hb4 hb5 hb35
  go_wp2_with fail
  refine wp_mixC (fun wc => Below (w5.heap.size) w5 wc) 9 [.q [0, 1, 2], .f [3, 4], .q [5, 6, 7, 8]] [.q [9]] (by kernel_rfl) (by kernel_rfl) ((Below.refl _ _).drew) ?_
  intro Q' hQ'
  (rw [wpMixC]; simp only [pick, List.drop_succ_cons, List.drop_zero, List.head?_cons, Option.toList_some, List.cons_append, List.nil_append])
  (repeat (first | go_big_quiet_skip | (go_big_quiet_want; refine quiet_simple rfl ?_; go_big_quiet_op; go_big_quiet_on) | (go_big_quiet_want; refine quiet_agg3B (ty := 22) rfl rfl (by kernel_rfl) (by assumption) (by assumption) (by assumption) (by first | omega | (simp; omega)) ?_; simp only [Act.put, List.setIfInBounds_toArray, List.set_cons_succ, List.set_cons_zero]; go_big_quiet_on) | (go_big_quiet_want; refine quiet_agg12B (ty := 26) rfl rfl (by kernel_rfl) (by assumption) (by assumption) (by assumption) (by assumption) (by assumption) (by assumption) (by assumption) (by assumption) (by assumption) (by assumption) (by assumption) (by assumption) (by first | omega | (simp; omega)) ?_; simp only [Act.put, List.setIfInBounds_toArray, List.set_cons_succ, List.set_cons_zero]; go_big_quiet_on)))
  (try refine wpQuiet_nil ?_)
  (rw [wpMixC]; simp only [pick, List.drop_succ_cons, List.drop_zero, List.head?_cons, Option.toList_some, List.cons_append, List.nil_append])
  (rw [wpSteps]; go_wp2_with ((go_at_call 30; have hbq : Below w.heap.size w (w5.drew) := (by (repeat (with_reducible first | exact Below.refl _ _ | assumption | refine Below.drewN _ ?_ | refine Below.drew ?_ | refine Below_alloc ?_ _ | refine Below.alloc ?_ (by first | (simp; done) | (simp; omega) | omega) _ | refine Below.setCell ?_ (by first | (simp; done) | (simp; omega) | omega) _ | refine Below_call ?_ (by assumption) | refine Below.trans ?_ (by assumption)))); refine (HCP.out _ hbq).mono ?_; rintro _ w6 ⟨ao6, cap6, rfl, hv6, hb6⟩; have HV6 := hid hv6; clear hv6 hbq)); rw [contF]; refine ⟨?_, ?_⟩; (next => (repeat (with_reducible first | exact Below.refl _ _ | assumption | refine Below.drewN _ ?_ | refine Below.drew ?_ | refine Below_alloc ?_ _ | refine Below.alloc ?_ (by first | (simp; done) | (simp; omega) | omega) _ | refine Below.setCell ?_ (by first | (simp; done) | (simp; omega) | omega) _ | refine Below_call ?_ (by assumption) | refine Below.trans ?_ (by assumption)))))
  (rw [wpSteps]; go_wp2_with ((go_at_call 32; refine (HSC.out _ _ HV6.out).mono ?_; rintro _ w7 ⟨rfl, hb7⟩)); rw [contF]; refine ⟨?_, ?_⟩; (next => (repeat (with_reducible first | exact Below.refl _ _ | assumption | refine Below.drewN _ ?_ | refine Below.drew ?_ | refine Below_alloc ?_ _ | refine Below.alloc ?_ (by first | (simp; done) | (simp; omega) | omega) _ | refine Below.setCell ?_ (by first | (simp; done) | (simp; omega) | omega) _ | refine Below_call ?_ (by assumption) | refine Below.trans ?_ (by assumption)))))
  (rw [wpSteps])
  (rw [wpMixC]; simp only [pick, List.drop_succ_cons, List.drop_zero, List.head?_cons, Option.toList_some, List.cons_append, List.nil_append])
  (repeat (first | go_big_quiet_skip | (go_big_quiet_want; refine quiet_simple rfl ?_; go_big_quiet_op; go_big_quiet_on) | (go_big_quiet_want; refine quiet_agg3B (ty := 22) rfl rfl (by kernel_rfl) (by assumption) (by assumption) (by assumption) (by first | omega | (simp; omega)) ?_; simp only [Act.put, List.setIfInBounds_toArray, List.set_cons_succ, List.set_cons_zero]; go_big_quiet_on) | (go_big_quiet_want; refine quiet_agg12B (ty := 26) rfl rfl (by kernel_rfl) (by assumption) (by assumption) (by assumption) (by assumption) (by assumption) (by assumption) (by assumption) (by assumption) (by assumption) (by assumption) (by assumption) (by assumption) (by first | omega | (simp; omega)) ?_; simp only [Act.put, List.setIfInBounds_toArray, List.set_cons_succ, List.set_cons_zero]; go_big_quiet_on)))
  (try refine wpQuiet_nil ?_)
  (rw [wpMixC])
  (rw [wpMix]; simp only [pick, List.drop_succ_cons, List.drop_zero, List.head?_cons, Option.toList_some, List.cons_append, List.nil_append])
  (repeat (first | (go_big_quiet_step (fail)) | (quiet_step (fail))))
  (try refine wpQuiet_nil ?_)
  (rw [wpMix])
  (refine hQ' _ _ ?_)
  have hb57 : Below w5.heap.size w5 w7 := by (repeat (with_reducible first | exact Below.refl _ _ | assumption | refine Below.drewN _ ?_ | refine Below.drew ?_ | refine Below_alloc ?_ _ | refine Below.alloc ?_ (by first | (simp; done) | (simp; omega) | omega) _ | refine Below.setCell ?_ (by first | (simp; done) | (simp; omega) | omega) _ | refine Below_call ?_ (by assumption) | refine Below.trans ?_ (by assumption)))
  have hb07 : Below W0.heap.size W0 w7 := hb05.trans (hb57.mono hb05.size)
  clear m0 m1 m2 m3 m4 m5 m6 m7 m8 m9 m10 m11 ml s0 s1 s2 hls
  obtain ⟨m0, m1, m2, m3, m4, m5, m6, m7, m8, m9, m10, m11, ml⟩ := tw_cells ((hb07.block w.heap.size l0).trans Q0.out)
  obtain ⟨s0, s1, s2, fs0, fs1, fs2, hls⟩ := three_cells ((hb07.block (w.heap.size + 1) l1).trans Q1.out)
  clear fs0 fs1 fs2
  have hbf7 : Below w.heap.size w w7 := hbW0.trans (hb07.mono hzW0)
  clear hbf5 hb6 hb7 hb57
  go_wp2_with fail
  refine (RCH.out _ hbf7).mono ?_
  rintro _ w8 ⟨rfl, hb8⟩
  have hb08 : Below W0.heap.size W0 w8 := hb07.trans (hb8.mono hb07.size)
  clear m0 m1 m2 m3 m4 m5 m6 m7 m8 m9 m10 m11 ml s0 s1 s2 hls
  obtain ⟨m0, m1, m2, m3, m4, m5, m6, m7, m8, m9, m10, m11, ml⟩ := tw_cells ((hb08.block w.heap.size l0).trans Q0.out)
  obtain ⟨s0, s1, s2, fs0, fs1, fs2, hls⟩ := three_cells ((hb08.block (w.heap.size + 1) l1).trans Q1.out)
  clear fs0 fs1 fs2
  have hbf8 : Below w.heap.size w w8 := hbW0.trans (hb08.mono hzW0)
  clear hbf7
  go_wp2_with fail
  refine (RB.out _).mono ?_
  rintro _ w9 ⟨rfl, hb9⟩
  have hbf9 : Below w.heap.size w w9 := hbf8.trans (hb9.mono hbf8.size)
  clear hbf8 hb9
  clear m0 m1 m2 m3 m4 m5 m6 m7 m8 m9 m10 m11 ml s0 s1 s2 hls
  go_wp2_with fail
  go_ret
  exact ⟨rfl, hbf9⟩

set_option maxRecDepth 100000 in
set_option maxHeartbeats 16000000 in
theorem law_Scores_D (px py pz tm tk lo hi li ea la no mi sx sy sz IX EH C SC : Int) (ao : Option Addr) (n cap : Nat) (l : List THit) (ps : List Int) (hC : C = 0) (hE : EH = 0) (w : World) (hn : n ≤ 14)
    (HFW : Hid (∀ W, Calls Try.prog 28 #[.slice ao n cap] W fun e w' => e = .returned (.bool (decide (n ≤ 14))) ∧ W = w'))
    (HCP : Hid (∀ W, Below w.heap.size w W → Calls Try.prog 30 #[.slice ao n cap] W fun e w' => ∃ ao2 cap2, e = .returned (.slice ao2 n cap2) ∧ HitsAt w' (.slice ao2 n cap2) l ∧ Below W.heap.size W w'))
    (HCH : Hid (∀ v W, HitsAt W v l → Calls Try.prog 29 #[v] W fun e w' => e = .returned (.tuple #[.int .i64 IX, .int .i64 EH]) ∧ Below W.heap.size W w'))
    (RCH : Hid (∀ W, Below w.heap.size w W → Calls Try.prog 33 #[.slice ao n cap] W fun e w' => e = .returned (.tuple #[.int .i64 IX, .int .i64 EH]) ∧ Below W.heap.size W w'))
    (RB : Hid (∀ W, Calls Try.prog 19 #[.agg #[.int .i64 px, .int .i64 py, .int .i64 pz, .int .i64 tm, .int .i64 tk, .int .i64 lo, .int .i64 hi, .int .i64 li, .int .i64 ea, .int .i64 la, .int .i64 no, .int .i64 mi], .agg #[.int .i64 sx, .int .i64 sy, .int .i64 sz]] W fun e w' => e = .returned (.int .i64 C) ∧ Below W.heap.size W w'))
    (HPO : Hid (∀ v W, HitsAt W v l → Calls Try.prog 31 #[.agg #[.int .i64 px, .int .i64 py, .int .i64 pz, .int .i64 tm, .int .i64 tk, .int .i64 lo, .int .i64 hi, .int .i64 li, .int .i64 ea, .int .i64 la, .int .i64 no, .int .i64 mi], .agg #[.int .i64 sx, .int .i64 sy, .int .i64 sz], v] W fun e w' => ∃ ao2 cap2, e = .returned (.tuple #[.slice ao2 n cap2, .int .i64 0]) ∧ IntsAt w' (.slice ao2 n cap2) ps ∧ Below W.heap.size W w'))
    (HSC : Hid (∀ v W, HitsAt W v l → Calls Try.prog 32 #[.agg #[.int .i64 px, .int .i64 py, .int .i64 pz, .int .i64 tm, .int .i64 tk, .int .i64 lo, .int .i64 hi, .int .i64 li, .int .i64 ea, .int .i64 la, .int .i64 no, .int .i64 mi], .agg #[.int .i64 sx, .int .i64 sy, .int .i64 sz], v] W fun e w' => e = .returned (.tuple #[.int .i64 SC, .int .i64 0]) ∧ Below W.heap.size W w'))
    (RPE : Hid (∀ W, Below w.heap.size w W → Calls Try.prog 35 #[.agg #[.int .i64 px, .int .i64 py, .int .i64 pz, .int .i64 tm, .int .i64 tk, .int .i64 lo, .int .i64 hi, .int .i64 li, .int .i64 ea, .int .i64 la, .int .i64 no, .int .i64 mi], .agg #[.int .i64 sx, .int .i64 sy, .int .i64 sz], .slice ao n cap] W fun e w' => ∃ ao2 cap2, e = .returned (.slice ao2 n cap2) ∧ IntsAt w' (.slice ao2 n cap2) ps ∧ Below W.heap.size W w'))
    (RSC : Hid (∀ W, Below w.heap.size w W → Calls Try.prog 36 #[.agg #[.int .i64 px, .int .i64 py, .int .i64 pz, .int .i64 tm, .int .i64 tk, .int .i64 lo, .int .i64 hi, .int .i64 li, .int .i64 ea, .int .i64 la, .int .i64 no, .int .i64 mi], .agg #[.int .i64 sx, .int .i64 sy, .int .i64 sz], .slice ao n cap] W fun e w' => e = .returned (.int .i64 SC) ∧ Below W.heap.size W w'))
    (RIN : Hid (∀ u v W, IntsAt W u ps → IntsAt W v ps → Calls Try.prog 34 #[u, v] W fun e w' => e = .returned (.bool true) ∧ Below W.heap.size W w'))
    : Calls Try.prog 5 #[.agg #[.int .i64 px, .int .i64 py, .int .i64 pz, .int .i64 tm, .int .i64 tk, .int .i64 lo, .int .i64 hi, .int .i64 li, .int .i64 ea, .int .i64 la, .int .i64 no, .int .i64 mi], .agg #[.int .i64 sx, .int .i64 sy, .int .i64 sz], .slice ao n cap] w fun e w' => e = .returned (.bool true) ∧ Below w.heap.size w w' := by
  subst hC
  subst hE
  have HA := hid law_awake5
  obtain ⟨W0, hW0⟩ : ∃ W0, W0 = (w.alloc (.cells #[.int .i64 px, .int .i64 py, .int .i64 pz, .int .i64 tm, .int .i64 tk, .int .i64 lo, .int .i64 hi, .int .i64 li, .int .i64 ea, .int .i64 la, .int .i64 no, .int .i64 mi] 26)).alloc (.cells #[.int .i64 sx, .int .i64 sy, .int .i64 sz] 22) := ⟨_, rfl⟩
  have hbW0 : Below w.heap.size w W0 := by rw [hW0]; (repeat (with_reducible first | exact Below.refl _ _ | assumption | refine Below.drewN _ ?_ | refine Below.drew ?_ | refine Below_alloc ?_ _ | refine Below.alloc ?_ (by first | (simp; done) | (simp; omega) | omega) _ | refine Below.setCell ?_ (by first | (simp; done) | (simp; omega) | omega) _ | refine Below_call ?_ (by assumption) | refine Below.trans ?_ (by assumption)))
  obtain ⟨q0, q1, l0, l1⟩ := al2 w _ _ _ _ W0 hW0
  have Q0 := hid q0
  have Q1 := hid q1
  have hzW0 := hbW0.size
  clear q0 q1
  go_enter Try.func5, Try.ntmps5
  go_wp2_with fail
  rw [← hW0]
  refine (HA.out _).mono ?_
  rintro _ w1 ⟨rfl, hb1⟩
  clear hW0
  have hb01 : Below W0.heap.size W0 w1 := hb1
  obtain ⟨m0, m1, m2, m3, m4, m5, m6, m7, m8, m9, m10, m11, ml⟩ := tw_cells ((hb01.block w.heap.size l0).trans Q0.out)
  obtain ⟨s0, s1, s2, fs0, fs1, fs2, hls⟩ := three_cells ((hb01.block (w.heap.size + 1) l1).trans Q1.out)
  clear fs0 fs1 fs2
  have hbf1 : Below w.heap.size w w1 := hbW0.trans (hb01.mono hzW0)
  go_wp2_with (go_at_call 28; refine (HFW.out _).mono ?_; rintro _ _ ⟨rfl, rfl⟩)
  refine (HCP.out _ hbf1).mono ?_
  rintro _ w2 ⟨ao2, cap2, rfl, hv2, hb2⟩
  have HV2 := hid hv2
  clear hv2
  have hb02 : Below W0.heap.size W0 w2 := hb01.trans (hb2.mono hb01.size)
  clear m0 m1 m2 m3 m4 m5 m6 m7 m8 m9 m10 m11 ml s0 s1 s2 hls
  obtain ⟨m0, m1, m2, m3, m4, m5, m6, m7, m8, m9, m10, m11, ml⟩ := tw_cells ((hb02.block w.heap.size l0).trans Q0.out)
  obtain ⟨s0, s1, s2, fs0, fs1, fs2, hls⟩ := three_cells ((hb02.block (w.heap.size + 1) l1).trans Q1.out)
  clear fs0 fs1 fs2
  have hbf2 : Below w.heap.size w w2 := hbW0.trans (hb02.mono hzW0)
  go_wp2_with fail
  refine (HCH.out _ _ HV2.out).mono ?_
  rintro _ w3 ⟨rfl, hb3⟩
  have hb03 : Below W0.heap.size W0 w3 := hb02.trans (hb3.mono hb02.size)
  clear m0 m1 m2 m3 m4 m5 m6 m7 m8 m9 m10 m11 ml s0 s1 s2 hls
  obtain ⟨m0, m1, m2, m3, m4, m5, m6, m7, m8, m9, m10, m11, ml⟩ := tw_cells ((hb03.block w.heap.size l0).trans Q0.out)
  obtain ⟨s0, s1, s2, fs0, fs1, fs2, hls⟩ := three_cells ((hb03.block (w.heap.size + 1) l1).trans Q1.out)
  clear fs0 fs1 fs2
  have hbf3 : Below w.heap.size w w3 := hbW0.trans (hb03.mono hzW0)
  clear hbf1 hbf2
  go_wp2_with fail
  refine wp_mixC (fun wc => Below (w3.heap.size) w3 wc) 9 [.q [0, 1, 2], .f [3, 4], .q [5, 6, 7, 8]] [.q [9]] (by kernel_rfl) (by kernel_rfl) ((Below.refl _ _).drew) ?_
  intro Q' hQ'
  (rw [wpMixC]; simp only [pick, List.drop_succ_cons, List.drop_zero, List.head?_cons, Option.toList_some, List.cons_append, List.nil_append])
  (repeat (first | go_big_quiet_skip | (go_big_quiet_want; refine quiet_simple rfl ?_; go_big_quiet_op; go_big_quiet_on) | (go_big_quiet_want; refine quiet_agg3B (ty := 22) rfl rfl (by kernel_rfl) (by assumption) (by assumption) (by assumption) (by first | omega | (simp; omega)) ?_; simp only [Act.put, List.setIfInBounds_toArray, List.set_cons_succ, List.set_cons_zero]; go_big_quiet_on) | (go_big_quiet_want; refine quiet_agg12B (ty := 26) rfl rfl (by kernel_rfl) (by assumption) (by assumption) (by assumption) (by assumption) (by assumption) (by assumption) (by assumption) (by assumption) (by assumption) (by assumption) (by assumption) (by assumption) (by first | omega | (simp; omega)) ?_; simp only [Act.put, List.setIfInBounds_toArray, List.set_cons_succ, List.set_cons_zero]; go_big_quiet_on)))
  (try refine wpQuiet_nil ?_)
  (rw [wpMixC]; simp only [pick, List.drop_succ_cons, List.drop_zero, List.head?_cons, Option.toList_some, List.cons_append, List.nil_append])
  (rw [wpSteps]; go_wp2_with ((go_at_call 30; have hbq : Below w.heap.size w (w3.drew) := (by (repeat (with_reducible first | exact Below.refl _ _ | assumption | refine Below.drewN _ ?_ | refine Below.drew ?_ | refine Below_alloc ?_ _ | refine Below.alloc ?_ (by first | (simp; done) | (simp; omega) | omega) _ | refine Below.setCell ?_ (by first | (simp; done) | (simp; omega) | omega) _ | refine Below_call ?_ (by assumption) | refine Below.trans ?_ (by assumption)))); refine (HCP.out _ hbq).mono ?_; rintro _ w4 ⟨ao4, cap4, rfl, hv4, hb4⟩; have HV4 := hid hv4; clear hv4 hbq)); rw [contF]; refine ⟨?_, ?_⟩; (next => (repeat (with_reducible first | exact Below.refl _ _ | assumption | refine Below.drewN _ ?_ | refine Below.drew ?_ | refine Below_alloc ?_ _ | refine Below.alloc ?_ (by first | (simp; done) | (simp; omega) | omega) _ | refine Below.setCell ?_ (by first | (simp; done) | (simp; omega) | omega) _ | refine Below_call ?_ (by assumption) | refine Below.trans ?_ (by assumption)))))
  (rw [wpSteps]; go_wp2_with ((go_at_call 31; refine (HPO.out _ _ HV4.out).mono ?_; rintro _ w5 ⟨aop, capp, rfl, hp5, hb5⟩; have HP5 := hid hp5; clear hp5)); rw [contF]; refine ⟨?_, ?_⟩; (next => (repeat (with_reducible first | exact Below.refl _ _ | assumption | refine Below.drewN _ ?_ | refine Below.drew ?_ | refine Below_alloc ?_ _ | refine Below.alloc ?_ (by first | (simp; done) | (simp; omega) | omega) _ | refine Below.setCell ?_ (by first | (simp; done) | (simp; omega) | omega) _ | refine Below_call ?_ (by assumption) | refine Below.trans ?_ (by assumption)))))
  (rw [wpSteps])
  (rw [wpMixC]; simp only [pick, List.drop_succ_cons, List.drop_zero, List.head?_cons, Option.toList_some, List.cons_append, List.nil_append])
  (repeat (first | go_big_quiet_skip | (go_big_quiet_want; refine quiet_simple rfl ?_; go_big_quiet_op; go_big_quiet_on) | (go_big_quiet_want; refine quiet_agg3B (ty := 22) rfl rfl (by kernel_rfl) (by assumption) (by assumption) (by assumption) (by first | omega | (simp; omega)) ?_; simp only [Act.put, List.setIfInBounds_toArray, List.set_cons_succ, List.set_cons_zero]; go_big_quiet_on) | (go_big_quiet_want; refine quiet_agg12B (ty := 26) rfl rfl (by kernel_rfl) (by assumption) (by assumption) (by assumption) (by assumption) (by assumption) (by assumption) (by assumption) (by assumption) (by assumption) (by assumption) (by assumption) (by assumption) (by first | omega | (simp; omega)) ?_; simp only [Act.put, List.setIfInBounds_toArray, List.set_cons_succ, List.set_cons_zero]; go_big_quiet_on)))
  (try refine wpQuiet_nil ?_)
  (rw [wpMixC])
  (rw [wpMix]; simp only [pick, List.drop_succ_cons, List.drop_zero, List.head?_cons, Option.toList_some, List.cons_append, List.nil_append])
  (repeat (first | (go_big_quiet_step (fail)) | (quiet_step (fail))))
  (try refine wpQuiet_nil ?_)
  (rw [wpMix])
  (refine hQ' _ _ ?_)
  have hb35 : Below w3.heap.size w3 w5 := by (repeat (with_reducible first | exact Below.refl _ _ | assumption | refine Below.drewN _ ?_ | refine Below.drew ?_ | refine Below_alloc ?_ _ | refine Below.alloc ?_ (by first | (simp; done) | (simp; omega) | omega) _ | refine Below.setCell ?_ (by first | (simp; done) | (simp; omega) | omega) _ | refine Below_call ?_ (by assumption) | refine Below.trans ?_ (by assumption)))
  have hb05 : Below W0.heap.size W0 w5 := hb03.trans (hb35.mono hb03.size)
  clear m0 m1 m2 m3 m4 m5 m6 m7 m8 m9 m10 m11 ml s0 s1 s2 hls
  obtain ⟨m0, m1, m2, m3, m4, m5, m6, m7, m8, m9, m10, m11, ml⟩ := tw_cells ((hb05.block w.heap.size l0).trans Q0.out)
  obtain ⟨s0, s1, s2, fs0, fs1, fs2, hls⟩ := three_cells ((hb05.block (w.heap.size + 1) l1).trans Q1.out)
  clear fs0 fs1 fs2
  have hbf5 : Below w.heap.size w w5 := hbW0.trans (hb05.mono hzW0)
  clear hbf3 hb4 hb5 hb35
  go_wp2_with fail
  refine wp_mixC (fun wc => Below (w5.heap.size) w5 wc) 9 [.q [0, 1, 2], .f [3, 4], .q [5, 6, 7, 8]] [.q [9]] (by kernel_rfl) (by kernel_rfl) ((Below.refl _ _).drew) ?_
  intro Q' hQ'
  (rw [wpMixC]; simp only [pick, List.drop_succ_cons, List.drop_zero, List.head?_cons, Option.toList_some, List.cons_append, List.nil_append])
  (repeat (first | go_big_quiet_skip | (go_big_quiet_want; refine quiet_simple rfl ?_; go_big_quiet_op; go_big_quiet_on) | (go_big_quiet_want; refine quiet_agg3B (ty := 22) rfl rfl (by kernel_rfl) (by assumption) (by assumption) (by assumption) (by first | omega | (simp; omega)) ?_; simp only [Act.put, List.setIfInBounds_toArray, List.set_cons_succ, List.set_cons_zero]; go_big_quiet_on) | (go_big_quiet_want; refine quiet_agg12B (ty := 26) rfl rfl (by kernel_rfl) (by assumption) (by assumption) (by assumption) (by assumption) (by assumption) (by assumption) (by assumption) (by assumption) (by assumption) (by assumption) (by assumption) (by assumption) (by first | omega | (simp; omega)) ?_; simp only [Act.put, List.setIfInBounds_toArray, List.set_cons_succ, List.set_cons_zero]; go_big_quiet_on)))
  (try refine wpQuiet_nil ?_)
  (rw [wpMixC]; simp only [pick, List.drop_succ_cons, List.drop_zero, List.head?_cons, Option.toList_some, List.cons_append, List.nil_append])
  (rw [wpSteps]; go_wp2_with ((go_at_call 30; have hbq : Below w.heap.size w (w5.drew) := (by (repeat (with_reducible first | exact Below.refl _ _ | assumption | refine Below.drewN _ ?_ | refine Below.drew ?_ | refine Below_alloc ?_ _ | refine Below.alloc ?_ (by first | (simp; done) | (simp; omega) | omega) _ | refine Below.setCell ?_ (by first | (simp; done) | (simp; omega) | omega) _ | refine Below_call ?_ (by assumption) | refine Below.trans ?_ (by assumption)))); refine (HCP.out _ hbq).mono ?_; rintro _ w6 ⟨ao6, cap6, rfl, hv6, hb6⟩; have HV6 := hid hv6; clear hv6 hbq)); rw [contF]; refine ⟨?_, ?_⟩; (next => (repeat (with_reducible first | exact Below.refl _ _ | assumption | refine Below.drewN _ ?_ | refine Below.drew ?_ | refine Below_alloc ?_ _ | refine Below.alloc ?_ (by first | (simp; done) | (simp; omega) | omega) _ | refine Below.setCell ?_ (by first | (simp; done) | (simp; omega) | omega) _ | refine Below_call ?_ (by assumption) | refine Below.trans ?_ (by assumption)))))
  (rw [wpSteps]; go_wp2_with ((go_at_call 32; refine (HSC.out _ _ HV6.out).mono ?_; rintro _ w7 ⟨rfl, hb7⟩)); rw [contF]; refine ⟨?_, ?_⟩; (next => (repeat (with_reducible first | exact Below.refl _ _ | assumption | refine Below.drewN _ ?_ | refine Below.drew ?_ | refine Below_alloc ?_ _ | refine Below.alloc ?_ (by first | (simp; done) | (simp; omega) | omega) _ | refine Below.setCell ?_ (by first | (simp; done) | (simp; omega) | omega) _ | refine Below_call ?_ (by assumption) | refine Below.trans ?_ (by assumption)))))
  (rw [wpSteps])
  (rw [wpMixC]; simp only [pick, List.drop_succ_cons, List.drop_zero, List.head?_cons, Option.toList_some, List.cons_append, List.nil_append])
  (repeat (first | go_big_quiet_skip | (go_big_quiet_want; refine quiet_simple rfl ?_; go_big_quiet_op; go_big_quiet_on) | (go_big_quiet_want; refine quiet_agg3B (ty := 22) rfl rfl (by kernel_rfl) (by assumption) (by assumption) (by assumption) (by first | omega | (simp; omega)) ?_; simp only [Act.put, List.setIfInBounds_toArray, List.set_cons_succ, List.set_cons_zero]; go_big_quiet_on) | (go_big_quiet_want; refine quiet_agg12B (ty := 26) rfl rfl (by kernel_rfl) (by assumption) (by assumption) (by assumption) (by assumption) (by assumption) (by assumption) (by assumption) (by assumption) (by assumption) (by assumption) (by assumption) (by assumption) (by first | omega | (simp; omega)) ?_; simp only [Act.put, List.setIfInBounds_toArray, List.set_cons_succ, List.set_cons_zero]; go_big_quiet_on)))
  (try refine wpQuiet_nil ?_)
  (rw [wpMixC])
  (rw [wpMix]; simp only [pick, List.drop_succ_cons, List.drop_zero, List.head?_cons, Option.toList_some, List.cons_append, List.nil_append])
  (repeat (first | (go_big_quiet_step (fail)) | (quiet_step (fail))))
  (try refine wpQuiet_nil ?_)
  (rw [wpMix])
  (refine hQ' _ _ ?_)
  have hb57 : Below w5.heap.size w5 w7 := by (repeat (with_reducible first | exact Below.refl _ _ | assumption | refine Below.drewN _ ?_ | refine Below.drew ?_ | refine Below_alloc ?_ _ | refine Below.alloc ?_ (by first | (simp; done) | (simp; omega) | omega) _ | refine Below.setCell ?_ (by first | (simp; done) | (simp; omega) | omega) _ | refine Below_call ?_ (by assumption) | refine Below.trans ?_ (by assumption)))
  have HP7 := hid (HP5.out.below hb57)
  have hb07 : Below W0.heap.size W0 w7 := hb05.trans (hb57.mono hb05.size)
  clear m0 m1 m2 m3 m4 m5 m6 m7 m8 m9 m10 m11 ml s0 s1 s2 hls
  obtain ⟨m0, m1, m2, m3, m4, m5, m6, m7, m8, m9, m10, m11, ml⟩ := tw_cells ((hb07.block w.heap.size l0).trans Q0.out)
  obtain ⟨s0, s1, s2, fs0, fs1, fs2, hls⟩ := three_cells ((hb07.block (w.heap.size + 1) l1).trans Q1.out)
  clear fs0 fs1 fs2
  have hbf7 : Below w.heap.size w w7 := hbW0.trans (hb07.mono hzW0)
  clear hbf5 hb6 hb7 hb57
  go_wp2_with fail
  refine (RCH.out _ hbf7).mono ?_
  rintro _ w8 ⟨rfl, hb8⟩
  have HP8 := hid (HP7.out.below hb8)
  have hb08 : Below W0.heap.size W0 w8 := hb07.trans (hb8.mono hb07.size)
  clear m0 m1 m2 m3 m4 m5 m6 m7 m8 m9 m10 m11 ml s0 s1 s2 hls
  obtain ⟨m0, m1, m2, m3, m4, m5, m6, m7, m8, m9, m10, m11, ml⟩ := tw_cells ((hb08.block w.heap.size l0).trans Q0.out)
  obtain ⟨s0, s1, s2, fs0, fs1, fs2, hls⟩ := three_cells ((hb08.block (w.heap.size + 1) l1).trans Q1.out)
  clear fs0 fs1 fs2
  have hbf8 : Below w.heap.size w w8 := hbW0.trans (hb08.mono hzW0)
  clear hbf7
  go_wp2_with fail
  refine (RB.out _).mono ?_
  rintro _ w9 ⟨rfl, hb9⟩
  have HP9 := hid (HP8.out.below hb9)
  have hb09 : Below W0.heap.size W0 w9 := hb08.trans (hb9.mono hb08.size)
  clear m0 m1 m2 m3 m4 m5 m6 m7 m8 m9 m10 m11 ml s0 s1 s2 hls
  obtain ⟨m0, m1, m2, m3, m4, m5, m6, m7, m8, m9, m10, m11, ml⟩ := tw_cells ((hb09.block w.heap.size l0).trans Q0.out)
  obtain ⟨s0, s1, s2, fs0, fs1, fs2, hls⟩ := three_cells ((hb09.block (w.heap.size + 1) l1).trans Q1.out)
  clear fs0 fs1 fs2
  have hbf9 : Below w.heap.size w w9 := hbW0.trans (hb09.mono hzW0)
  clear hbf8
  go_wp2_with fail
  refine (RPE.out _ hbf9).mono ?_
  rintro _ w10 ⟨ao10, cap10, rfl, hv10, hb10⟩
  have HP10 := hid (HP9.out.below hb10)
  have HV10 := hid hv10
  clear hv10
  have hb010 : Below W0.heap.size W0 w10 := hb09.trans (hb10.mono hb09.size)
  clear m0 m1 m2 m3 m4 m5 m6 m7 m8 m9 m10 m11 ml s0 s1 s2 hls
  obtain ⟨m0, m1, m2, m3, m4, m5, m6, m7, m8, m9, m10, m11, ml⟩ := tw_cells ((hb010.block w.heap.size l0).trans Q0.out)
  obtain ⟨s0, s1, s2, fs0, fs1, fs2, hls⟩ := three_cells ((hb010.block (w.heap.size + 1) l1).trans Q1.out)
  clear fs0 fs1 fs2
  have hbf10 : Below w.heap.size w w10 := hbW0.trans (hb010.mono hzW0)
  clear hbf9
  go_wp2_with fail
  refine (RIN.out _ _ _ HP10.out HV10.out).mono ?_
  rintro _ w11 ⟨rfl, hb11⟩
  have hb011 : Below W0.heap.size W0 w11 := hb010.trans (hb11.mono hb010.size)
  clear m0 m1 m2 m3 m4 m5 m6 m7 m8 m9 m10 m11 ml s0 s1 s2 hls
  obtain ⟨m0, m1, m2, m3, m4, m5, m6, m7, m8, m9, m10, m11, ml⟩ := tw_cells ((hb011.block w.heap.size l0).trans Q0.out)
  obtain ⟨s0, s1, s2, fs0, fs1, fs2, hls⟩ := three_cells ((hb011.block (w.heap.size + 1) l1).trans Q1.out)
  clear fs0 fs1 fs2
  have hbf11 : Below w.heap.size w w11 := hbW0.trans (hb011.mono hzW0)
  clear hbf10
  go_wp2_with fail
  refine (RSC.out _ hbf11).mono ?_
  rintro _ w12 ⟨rfl, hb12⟩
  have hbf12 : Below w.heap.size w w12 := hbf11.trans (hb12.mono hbf11.size)
  clear m0 m1 m2 m3 m4 m5 m6 m7 m8 m9 m10 m11 ml s0 s1 s2 hls
  go_wp2_with fail
  go_ret
  exact ⟨rfl, hbf12⟩
end Go.Proofs.Ytlmdmpjfehpjeaa

/- Tracks: arguments opened: values all of whose cells are numbers. -/
set_option linter.unusedVariables false
set_option linter.unusedSimpArgs false
namespace Go.Proofs.Ytlmdmpjfehpjeaa
open Go.RowKit
section
variable {H : Type} {enc : TypeId × Value → H} {P : Program} {w : World} {base : Nat} {spare : Nat → Bool} {held : Bool}

/-- every cell of a value of a type is a number. -/
def flB (P : Program) : Nat → TypeId → Bool
  | 0, _ => false
  | k + 1, t => match P.underlying t with
    | some (.int .i64) => P.cellsOf t == 1
    | some (.array n e) => flB P k e && (List.range (P.cellsOf t)).all (fun j => (List.range n).any (fun i => decide (i * P.cellsOf e ≤ j) && decide (j < i * P.cellsOf e + P.cellsOf e)))
    | some (.struct fs) => (List.range (P.cellsOf t)).all (fun j => (List.range fs.size).any (fun i => match fs[i]? with
      | some f => flB P k f.type && decide (f.offset ≤ j) && decide (j < f.offset + P.cellsOf f.type)
      | none => false))
    | _ => false
theorem cells_of_trod : ∀ (k : Nat) (t : TypeId) (fuel : Nat) (cs : List Value) (x : DataW H × List MemPlace), flB P k t = true → DataW.trod enc P w base spare held fuel t cs = some x → ∀ j, j < P.cellsOf t → ∃ n : Int, cs[j]? = some (.int .i64 n) ∧ (Lit.int .i64 n).wf = true := by
  intro k
  induction k with
  | zero => intro t fuel cs x h; cases h
  | succ k ih =>
    intro t fuel cs x hB h j hj
    unfold flB at hB
    split at hB
    · next ht =>
      obtain ⟨n, h1, _, h2⟩ := DataW.trod_int ht h
      simp only [beq_iff_eq] at hB
      rw [hB] at hj
      obtain rfl : j = 0 := by omega
      exact ⟨n, by rw [h1]; rfl, h2⟩
    · next n e ht =>
      simp only [Bool.and_eq_true] at hB
      obtain ⟨xs, m, _, _, hl, hxs, hf⟩ := DataW.trod_array ht h
      have h1 := List.all_eq_true.1 hB.2 j (List.mem_range.2 hj)
      obtain ⟨i, hi, h2⟩ := List.any_eq_true.1 h1
      have hi' := List.mem_range.1 hi
      simp only [Bool.and_eq_true, decide_eq_true_eq] at h2
      have h5 := hf i hi'
      have e2 : xs[i]? = some xs[i] := by simp [hxs, hi']
      rw [e2] at h5
      obtain ⟨q, hq, hw⟩ := ih e _ _ _ hB.1 h5 (j - i * P.cellsOf e) (by omega)
      refine ⟨q, ?_, hw⟩
      rw [List.getElem?_take, if_pos (by omega), List.getElem?_drop] at hq
      rwa [show i * P.cellsOf e + (j - i * P.cellsOf e) = j from by omega] at hq
    · next fs ht =>
      obtain ⟨xs, m, _, _, hl, hxs, hf⟩ := DataW.trod_struct ht h
      have h1 := List.all_eq_true.1 hB j (List.mem_range.2 hj)
      obtain ⟨i, hi, h2⟩ := List.any_eq_true.1 h1
      have hi' := List.mem_range.1 hi
      have e : fs[i]? = some fs[i] := by simp [hi']
      rw [e] at h2
      simp only [Bool.and_eq_true, decide_eq_true_eq] at h2
      have h5 := hf i _ e
      have e2 : xs[i]? = some xs[i] := by simp [hxs, hi']
      rw [e2] at h5
      obtain ⟨q, hq, hw⟩ := ih _ _ _ _ h2.1.1 h5 (j - fs[i].offset) (by omega)
      refine ⟨q, ?_, hw⟩
      rw [List.getElem?_take, if_pos (by omega), List.getElem?_drop] at hq
      rwa [show fs[i].offset + (j - fs[i].offset) = j from by omega] at hq
    · cases hB
theorem flat_cells {t : TypeId} {k n : Nat} {cs : Array Value} {d : DataW H} {ps : List MemPlace} (hB : flB P k t = true) (hn : P.cellsOf t = n) (hs : cs.size = n) (h : DataW.Trod enc P w base spare held t (.agg cs) d ps) :
    ∃ ns : List Int, ns.length = n ∧ Value.agg cs = .agg (ns.map (Value.int .i64)).toArray := by
  obtain ⟨fuel, hf⟩ := h
  have each := fun j (hj : j < n) => cells_of_trod k t fuel _ _ hB hf j (by rw [hn]; exact hj)
  obtain ⟨ns, h1, h2⟩ := list_of (0 : Int) n (R := fun j q => (Value.agg cs).cells.toList[j]? = some (.int .i64 q)) (fun j hj => by obtain ⟨q, hq, _⟩ := each j hj; exact ⟨q, hq⟩)
  refine ⟨ns, h1, ?_⟩
  have : cs = (ns.map (Value.int .i64)).toArray := by
    apply Array.ext'
    apply List.ext_getElem?
    intro i
    by_cases hi : i < n
    · have := h2 i hi
      simp only [Value.cells] at this
      rw [this]; simp [List.getD, h1, hi]
    · rw [List.getElem?_eq_none (by simp; omega), List.getElem?_eq_none (by simp [h1]; omega)]
  rw [this]
end
section
variable {H : Type} {enc : TypeId × Value → H} {w : World} {base : Nat} {spare : Nat → Bool} {held : Bool} {r : Reach} {b0 : Nat}
set_option maxRecDepth 100000 in
theorem vec_of_trod {v : Value} {d : DataW H} {ps : List MemPlace} (hv : Value.okWide Try.prog w r b0 22 v) (h : DataW.Trod enc Try.prog w base spare held 22 v d ps) : ∃ s : V3, v = s.v := by
  obtain ⟨cs, rfl, hs⟩ := okWide_array Try.underlying22 hv
  obtain ⟨ns, h1, h2⟩ := flat_cells (k := 4) (n := 3) (by kernel_rfl) (by kernel_rfl) hs h
  match ns, h1 with
  | [a, b, c], _ => exact ⟨⟨a, b, c⟩, h2⟩
set_option maxRecDepth 100000 in
theorem model_of_trod {v : Value} {d : DataW H} {ps : List MemPlace} (hv : Value.okWide Try.prog w r b0 26 v) (h : DataW.Trod enc Try.prog w base spare held 26 v d ps) : ∃ m : TMod, v = m.v := by
  obtain ⟨cs, rfl, hs⟩ := WideShapes.okWide_struct Try.underlying26 hv
  obtain ⟨ns, h1, h2⟩ := flat_cells (k := 4) (n := 12) (by kernel_rfl) (by kernel_rfl) hs h
  match ns, h1 with
  | [a, b, c, d, e, f, g, h, i, j, k, l], _ => exact ⟨⟨a, b, c, d, e, f, g, h, i, j, k, l⟩, h2⟩
set_option maxRecDepth 100000 in
theorem moment_of_trod {v : Value} {d : DataW H} {ps : List MemPlace} (hv : Value.okWide Try.prog w r b0 28 v) (h : DataW.Trod enc Try.prog w base spare held 28 v d ps) : ∃ (p : V3) (t : Int), v = .agg #[.int .i64 p.x, .int .i64 p.y, .int .i64 p.z, .int .i64 t] := by
  obtain ⟨cs, rfl, hs⟩ := WideShapes.okWide_struct Try.underlying28 hv
  obtain ⟨ns, h1, h2⟩ := flat_cells (k := 4) (n := 4) (by kernel_rfl) (by kernel_rfl) hs h
  match ns, h1 with
  | [a, b, c, d], _ => exact ⟨⟨a, b, c⟩, d, h2⟩
set_option maxRecDepth 100000 in
theorem box_of_trod {v : Value} {d : DataW H} {ps : List MemPlace} (hv : Value.okWide Try.prog w r b0 75 v) (h : DataW.Trod enc Try.prog w base spare held 75 v d ps) : ∃ b : TBox, v = b.v := by
  obtain ⟨cs, rfl, hs⟩ := WideShapes.okWide_struct Try.underlying75 hv
  obtain ⟨ns, h1, h2⟩ := flat_cells (k := 4) (n := 6) (by kernel_rfl) (by kernel_rfl) hs h
  match ns, h1 with
  | [a, b, c, d, e, f], _ => exact ⟨⟨⟨a, b, c⟩, ⟨d, e, f⟩⟩, h2⟩
end
end Go.Proofs.Ytlmdmpjfehpjeaa

/- Tracks: the law of scores, joined. -/
set_option linter.unusedVariables false
set_option linter.unusedSimpArgs false
namespace Go.Proofs.Ytlmdmpjfehpjeaa
open Go.RowKit

section
variable {H : Type} {enc : TypeId × Value → H} {w : World} {base : Nat} {spare : Nat → Bool} {held : Bool}
set_option maxRecDepth 100000 in
theorem hits_of_trod {fuel : Nat} {v : Value} {x : DataW H × List MemPlace} (h : DataW.trod enc Try.prog w base spare held fuel 61 [v] = some x) : ∃ l, HitsAt w v l := by
  obtain ⟨n, css, h1, h2⟩ := slAt_of_trod (sz := 5) Try.underlying61 (by kernel_rfl) (by omega) h
  have each : ∀ i, i < n → ∃ x : THit, ∀ j, j < 5 → (css i).getD j undef = x.cell j := by
    intro i hi
    obtain ⟨hl, m, y, hy⟩ := h2 i hi
    have hc := cells_of_trod 4 92 m _ _ (by kernel_rfl) hy
    have hn : Try.prog.cellsOf 92 = 5 := by kernel_rfl
    rw [hn] at hc
    obtain ⟨n0, e0, _⟩ := hc 0 (by omega)
    obtain ⟨n1, e1, _⟩ := hc 1 (by omega)
    obtain ⟨n2, e2, _⟩ := hc 2 (by omega)
    obtain ⟨n3, e3, _⟩ := hc 3 (by omega)
    obtain ⟨n4, e4, _⟩ := hc 4 (by omega)
    refine ⟨⟨⟨n0, n1, n2⟩, n3, n4⟩, fun j hj => ?_⟩
    rcases (by omega : j = 0 ∨ j = 1 ∨ j = 2 ∨ j = 3 ∨ j = 4) with rfl | rfl | rfl | rfl | rfl
    · simp only [List.getD, e0, Option.getD_some]; rfl
    · simp only [List.getD, e1, Option.getD_some]; rfl
    · simp only [List.getD, e2, Option.getD_some]; rfl
    · simp only [List.getD, e3, Option.getD_some]; rfl
    · simp only [List.getD, e4, Option.getD_some]; rfl
  obtain ⟨l, hl, hr⟩ := list_of THit.zero n each
  refine ⟨l, ?_⟩
  unfold HitsAt
  rw [hl]
  exact h1.congr fun i j hi hj => hr i hi j hj
end
theorem fn2_l {a b : Int} (h : a ≠ 0) : firstNZ [a, b] = a := by simp [firstNZ, h]
theorem fn2_r {b : Int} : firstNZ [0, b] = b := by by_cases h : b = 0 <;> simp [firstNZ, h]
set_option maxRecDepth 100000 in
theorem law_Scores_big (m : TMod) (s : V3) (l : List THit) (v : Value) (w : World) (h : HitsAt w v l) (hl : ¬ l.length ≤ 14) :
    Calls Try.prog 5 #[m.v, s.v, v] w fun e w' => e = .returned (.bool true) ∧ Below w.heap.size w w' := by
  have HA := hid law_awake5
  have HFW : Hid (∀ W, Below w.heap.size w W → Calls Try.prog 28 #[v] W fun e w' => e = .returned (.bool false) ∧ W = w') := hid (fun W hb => by
    have := law_few5 l v W (h.below hb)
    rwa [decide_eq_false hl] at this)
  obtain ⟨ao, cap, rfl, _, _, _⟩ := h.opn
  clear h hl
  obtain ⟨px, py, pz, tm, tk, lo, hi, li, ea, la, no, mi⟩ := m
  obtain ⟨sx, sy, sz⟩ := s
  unfold TMod.v V3.v
  simp only
  go_enter Try.func5, Try.ntmps5
  go_wp2_with fail
  refine (HA.out _).mono ?_
  rintro _ w1 ⟨rfl, hb1⟩
  have hbf : Below w.heap.size w w1 := by (repeat (with_reducible first | exact Below.refl _ _ | assumption | refine Below.drewN _ ?_ | refine Below.drew ?_ | refine Below_alloc ?_ _ | refine Below.alloc ?_ (by first | (simp; done) | (simp; omega) | omega) _ | refine Below.setCell ?_ (by first | (simp; done) | (simp; omega) | omega) _ | refine Below_call ?_ (by assumption) | refine Below.trans ?_ (by assumption)))
  go_wp2_with (go_at_call 28; refine (HFW.out _ hbf).mono ?_; rintro _ _ ⟨rfl, rfl⟩)
  go_ret
  exact ⟨rfl, hbf⟩
theorem law_TrackScores (m : TMod) (s : V3) (l : List THit) (v : Value) (w : World) (h : HitsAt w v l) :
    Calls Try.prog 5 #[m.v, s.v, v] w fun e w' => e = .returned (.bool true) ∧ Below w.heap.size w w' := by
  by_cases hl : l.length ≤ 14
  · have RM : Hid (∀ W, Calls Try.prog 18 #[m.v] W fun e w' => e = .returned (.int .i64 m.err) ∧ Below W.heap.size W w') := hid (fun W => ref_ModelErr m W)
    have RB : ∀ W, Calls Try.prog 19 #[m.v, s.v] W fun e w' => e = .returned (.int .i64 (m.both s)) ∧ Below W.heap.size W w' := fun W => ref_BothErr m s W RM
    obtain ⟨ao, cap, rfl, _, _, _⟩ := h.opn
    have HFW : Hid (∀ W, Calls Try.prog 28 #[.slice ao l.length cap] W fun e w' => e = .returned (.bool (decide (l.length ≤ 14))) ∧ W = w') := by
      obtain ⟨_, c2, e2, g1, g2, _⟩ := h.opn
      cases e2
      refine hid (fun W => ?_)
      rw [decide_eq_true hl]
      have HL := hid hl
      unfold maxLen at g2
      clear h
      go_enter Try.func28, Try.ntmps28
      go_wp2_with fail
      go_ret
      exact ⟨ret_bool (by simp; have := HL.out; omega), rfl⟩
    have HCP : Hid (∀ W, Below w.heap.size w W → Calls Try.prog 30 #[.slice ao l.length cap] W fun e w' => ∃ ao2 cap2, e = .returned (.slice ao2 l.length cap2) ∧ HitsAt w' (.slice ao2 l.length cap2) l ∧ Below W.heap.size W w') := hid (fun W hb => ref_CopyHits l _ W (h.below hb) (by omega))
    have HCH : Hid (∀ v W, HitsAt W v l → Calls Try.prog 29 #[v] W fun e w' => e = .returned (.tuple #[.int .i64 (hitsIdx l), .int .i64 (hitsE l)]) ∧ Below W.heap.size W w') := hid (fun v W hv => track_CheckHits l v W hv)
    have RCH : Hid (∀ W, Below w.heap.size w W → Calls Try.prog 33 #[.slice ao l.length cap] W fun e w' => e = .returned (.tuple #[.int .i64 (hitsIdx l), .int .i64 (hitsE l)]) ∧ Below W.heap.size W w') := hid (fun W hb => ref_CheckHits l _ W (h.below hb))
    have HPO := fun v W (hv : HitsAt W v l) => track_PenaltiesOf m s l v W hv
    have HSC := fun v W (hv : HitsAt W v l) => track_ScoreOf m s l v W hv
    by_cases hD : m.both s = 0
    · rw [hD, fn2_r] at HPO HSC
      rw [hD] at RB
      by_cases hE : hitsE l = 0
      · obtain ⟨o1, o2, o3, o4⟩ := both_ok hD
        obtain ⟨g1, g2⟩ := hitsE_ok hE
        have RPE : Hid (∀ W, Below w.heap.size w W → Calls Try.prog 35 #[m.v, s.v, .slice ao l.length cap] W fun e w' => ∃ ao2 cap2, e = .returned (.slice ao2 l.length cap2) ∧ IntsAt w' (.slice ao2 l.length cap2) (m.pens s l) ∧ Below W.heap.size W w') := hid (fun W hb => by
          have := ref_Penalties m s l _ W (h.below hb) g1 g2 o1 o2 o3
          unfold RetNums at this
          rwa [pens_len] at this)
        have RSC : Hid (∀ W, Below w.heap.size w W → Calls Try.prog 36 #[m.v, s.v, .slice ao l.length cap] W fun e w' => e = .returned (.int .i64 (m.score s l)) ∧ Below W.heap.size W w') := hid (fun W hb => ref_Score m s l _ W (h.below hb) g1 g2 o1 o2 o3)
        have RIN : Hid (∀ u v W, IntsAt W u (m.pens s l) → IntsAt W v (m.pens s l) → Calls Try.prog 34 #[u, v] W fun e w' => e = .returned (.bool true) ∧ Below W.heap.size W w') := hid (fun u v W hu hv => by
          refine (base_Ints _ _ u v W hu hv).mono ?_
          rintro e w' ⟨h1, k, rfl⟩
          exact ⟨by rw [h1]; simp, Below.drewN k (Below.refl _ _)⟩)
        exact law_Scores_D m.px m.py m.pz m.tm m.tk m.lo m.hi m.li m.ea m.la m.no m.mi s.x s.y s.z (hitsIdx l) (hitsE l) 0 (m.score s l) ao l.length cap l (m.pens s l) rfl hE w hl HFW HCP HCH RCH (hid RB)
          (hid (fun v W hv => (HPO v W hv).mono (fun e w' g => by obtain ⟨a, c, g1, g2⟩ := g.1 hE; exact ⟨a, c, g1, g2, g.2.2⟩)))
          (hid (fun v W hv => (HSC v W hv).mono (fun e w' g => And.intro (g.1 hE) g.2.2))) RPE RSC RIN
      · exact law_Scores_C m.px m.py m.pz m.tm m.tk m.lo m.hi m.li m.ea m.la m.no m.mi s.x s.y s.z (hitsIdx l) (hitsE l) 0 ao l.length cap l [] (by simpa using hE) rfl w hl HFW HCP HCH RCH (hid RB)
          (hid (fun v W hv => (HPO v W hv).mono (fun e w' g => And.intro (g.2.1 hE) g.2.2)))
          (hid (fun v W hv => (HSC v W hv).mono (fun e w' g => And.intro (g.2.1 hE) g.2.2)))
    · rw [fn2_l hD] at HPO HSC
      exact law_Scores_B m.px m.py m.pz m.tm m.tk m.lo m.hi m.li m.ea m.la m.no m.mi s.x s.y s.z (hitsIdx l) (hitsE l) (m.both s) ao l.length cap l [] (by simpa using hD) w hl HFW HCP HCH RCH (hid RB)
        (hid (fun v W hv => (HPO v W hv).mono (fun e w' g => And.intro (g.2.1 hD) g.2.2)))
        (hid (fun v W hv => (HSC v W hv).mono (fun e w' g => And.intro (g.2.1 hD) g.2.2)))
  · exact law_Scores_big m s l v w h hl
end Go.Proofs.Ytlmdmpjfehpjeaa

