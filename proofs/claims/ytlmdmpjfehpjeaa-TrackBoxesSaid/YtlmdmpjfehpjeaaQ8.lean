/- Texts of this claim, together. -/
import Derived.Test.YtlmdmpjfehpjeaaQ7
import Derived.Test.YtlmdmpjfehpjeaaQ5

/- Tracks: boxes and hits opened by the program. -/
set_option linter.unusedVariables false
set_option linter.unusedSimpArgs false
namespace Go.Proofs.Ytlmdmpjfehpjeaa
open Go.RowKit

set_option maxRecDepth 100000 in
set_option maxHeartbeats 4000000 in
theorem track_openBox (m : TMod) (b : TBox) (w : World) :
    Calls Try.prog 92 #[m.v, b.v] w fun e w' => e = .returned (.tuple #[m.v, .int .i64 (firstNZ [m.err, b.err])]) ∧ Below w.heap.size w w' := by
  have HO : Hid (∀ W, Calls Try.prog 119 #[m.v] W fun e w' => e = .returned (.tuple #[m.v, .int .i64 m.err]) ∧ Below W.heap.size W w') := hid (fun W => track_open m W)
  have HC : Hid (∀ W, Calls Try.prog 47 #[b.v] W fun e w' => e = .returned (.int .i64 b.err) ∧ Below W.heap.size W w') := hid (fun W => track_CheckBox b W)
  have HFI : Hid (∀ v w, IntsAt w v [m.err, b.err] → Calls Try.prog 69 #[v] w fun e w' => e = .returned (.int .i64 (firstNZ [m.err, b.err])) ∧ w = w') := hid (fun v w h => track_first _ v w h)
  generalize firstNZ [m.err, b.err] = E at HFI ⊢
  generalize m.err = EM at HO HFI
  generalize b.err = EB at HC HFI
  obtain ⟨px, py, pz, tm, tk, lo, hi, li, ea, la, no, mi⟩ := m
  obtain ⟨⟨lx, ly, lz⟩, ⟨hx, hy, hz⟩⟩ := b
  unfold TMod.v TBox.v at *
  simp only at *
  obtain ⟨W0, hW0⟩ : ∃ W0, W0 = ((w.alloc (.cells #[.int .i64 px, .int .i64 py, .int .i64 pz, .int .i64 tm, .int .i64 tk, .int .i64 lo, .int .i64 hi, .int .i64 li, .int .i64 ea, .int .i64 la, .int .i64 no, .int .i64 mi] 26)).alloc (.cells #[.int .i64 lx, .int .i64 ly, .int .i64 lz, .int .i64 hx, .int .i64 hy, .int .i64 hz] 75)).alloc (.cells #[.int .i64 0, .int .i64 0, .int .i64 0, .int .i64 0, .int .i64 0, .int .i64 0, .int .i64 0, .int .i64 0, .int .i64 0, .int .i64 0, .int .i64 0, .int .i64 0] 134) := ⟨_, rfl⟩
  have hbW0 : Below w.heap.size w W0 := by rw [hW0]; (repeat (with_reducible first | exact Below.refl _ _ | assumption | refine Below.drewN _ ?_ | refine Below.drew ?_ | refine Below_alloc ?_ _ | refine Below.alloc ?_ (by first | (simp; done) | (simp; omega) | omega) _ | refine Below.setCell ?_ (by first | (simp; done) | (simp; omega) | omega) _ | refine Below_call ?_ (by assumption) | refine Below.trans ?_ (by assumption)))
  obtain ⟨q0, q1, q2⟩ := al3 w _ _ _ _ _ _ W0 hW0
  have l1 := (Array.getElem?_eq_some_iff.1 q1).1
  have l2 := (Array.getElem?_eq_some_iff.1 q2).1
  have Q1 := hid q1
  have Q2 := hid q2
  have hzW0 := hbW0.size
  clear q0 q1 q2
  go_enter Try.func92, Try.ntmps92
  go_wp2_with (go_at_call 119; rw [← hW0]; refine (HO.out _).mono ?_; rintro _ w1 ⟨rfl, hb1⟩)
  have hz1 : W0.heap.size ≤ w1.heap.size := hb1.size
  obtain ⟨W2, hW2⟩ : ∃ W2, W2 = w1.alloc (.cells #[.int .i64 px, .int .i64 py, .int .i64 pz, .int .i64 tm, .int .i64 tk, .int .i64 lo, .int .i64 hi, .int .i64 li, .int .i64 ea, .int .i64 la, .int .i64 no, .int .i64 mi] 134) := ⟨_, rfl⟩
  have hb12 : Below w1.heap.size w1 W2 := by rw [hW2]; (repeat (with_reducible first | exact Below.refl _ _ | assumption | refine Below.drewN _ ?_ | refine Below.drew ?_ | refine Below_alloc ?_ _ | refine Below.alloc ?_ (by first | (simp; done) | (simp; omega) | omega) _ | refine Below.setCell ?_ (by first | (simp; done) | (simp; omega) | omega) _ | refine Below_call ?_ (by assumption) | refine Below.trans ?_ (by assumption)))
  have hb02 : Below W0.heap.size W0 W2 := hb1.trans (hb12.mono hz1)
  have r0 : W2.heap[w1.heap.size]? = some (.cells #[.int .i64 px, .int .i64 py, .int .i64 pz, .int .i64 tm, .int .i64 tk, .int .i64 lo, .int .i64 hi, .int .i64 li, .int .i64 ea, .int .i64 la, .int .i64 no, .int .i64 mi] 134 (0, 0)) := by rw [hW2]; exact heap_alloc_new w1 _
  rw [← hW2]
  clear hW2 hW0
  obtain ⟨m0, m1, m2, m3, m4, m5, m6, m7, m8, m9, m10, m11, ml⟩ := tw_cells (r0)
  obtain ⟨b0, b1, b2, b3, b4, b5, hlb⟩ := six_row ((hb02.block (w.heap.size + 1) l1).trans Q1.out)
  have R2 := hid ((hb02.block (w.heap.size + 1 + 1) l2).trans Q2.out)
  have hl2 := (Array.getElem?_eq_some_iff.1 R2.out).1
  have hbw2 : Below w.heap.size w W2 := hbW0.trans (hb02.mono hzW0)
  clear r0
  have fin : ∀ w5 : World, Below W2.heap.size W2 w5 → Below w.heap.size w w5 := fun w5 h => hbw2.trans (h.mono hbw2.size)
  refine wp_mixC (KeepB [w1.heap.size, w.heap.size + 1] W2) 7 [.q [0, 1, 2], .f [3, 4, 5, 6]] [.q [7]] (by kernel_rfl) (by kernel_rfl) ((KeepB.refl (by first | (simp; done) | (simp; omega))).drew) ?_
  intro Q' hQ'
  (rw [wpMixC]; simp only [pick, List.drop_succ_cons, List.drop_zero, List.head?_cons, Option.toList_some, List.cons_append, List.nil_append])
  (repeat (first | go_big_quiet_skip | (go_big_quiet_want; refine quiet_simple rfl ?_; go_big_quiet_op; go_big_quiet_on) | (go_big_quiet_want; refine quiet_agg6K (ty := 75) rfl rfl (by kernel_rfl) (by assumption) (by assumption) (by assumption) (by assumption) (by assumption) (by assumption) (by simp) ?_; simp only [Act.put, List.setIfInBounds_toArray, List.set_cons_succ, List.set_cons_zero]; go_big_quiet_on) | (go_big_quiet_want; refine quiet_agg12K (ty := 134) rfl rfl (by kernel_rfl) (by assumption) (by assumption) (by assumption) (by assumption) (by assumption) (by assumption) (by assumption) (by assumption) (by assumption) (by assumption) (by assumption) (by assumption) (by simp) ?_; simp only [Act.put, List.setIfInBounds_toArray, List.set_cons_succ, List.set_cons_zero]; go_big_quiet_on)))
  (try refine wpQuiet_nil ?_)
  (rw [wpMixC]; simp only [pick, List.drop_succ_cons, List.drop_zero, List.head?_cons, Option.toList_some, List.cons_append, List.nil_append])
  (rw [wpSteps]; go_wp2_with ((go_at_call 47; refine (HC.out _).mono ?_; rintro _ w3 ⟨rfl, hb3⟩)); rw [contF]; refine ⟨?_, ?_⟩; (next => (repeat (with_reducible first | assumption | exact KeepB.refl (by first | (simp; done) | (simp; omega)) | refine KeepB.drew ?_ | refine KeepB.alloc ?_ _ | refine KeepB.setCell ?_ (by first | (simp; done) | (simp; omega)) | refine KeepB.below ?_ (by assumption)))))
  (rw [wpSteps]; go_wp2_with (fail); rw [contF]; refine ⟨?_, ?_⟩; (next => (repeat (with_reducible first | assumption | exact KeepB.refl (by first | (simp; done) | (simp; omega)) | refine KeepB.drew ?_ | refine KeepB.alloc ?_ _ | refine KeepB.setCell ?_ (by first | (simp; done) | (simp; omega)) | refine KeepB.below ?_ (by assumption)))))
  (rw [wpSteps]; go_wp2_with ((go_at_call 69; have hb24 : Below W2.heap.size W2 w3 := (by (repeat (with_reducible first | exact Below.refl _ _ | assumption | refine Below.drewN _ ?_ | refine Below.drew ?_ | refine Below_alloc ?_ _ | refine Below.alloc ?_ (by first | (simp; done) | (simp; omega) | omega) _ | refine Below.setCell ?_ (by first | (simp; done) | (simp; omega) | omega) _ | refine Below_call ?_ (by assumption) | refine Below.trans ?_ (by assumption)))); obtain ⟨g0, g1, g2, g3, g4, g5, g6, g7, g8, g9, g10, g11, gl⟩ := tw_cells ((hb24.block (w.heap.size + 1 + 1) hl2).trans R2.out); obtain ⟨fg0, fg1, fg2, fg3, fg4, fg5, fg6, fg7, fg8, fg9, fg10, fg11⟩ := tw_frozen ((hb24.block (w.heap.size + 1 + 1) hl2).trans R2.out); have HB04 := hid (fin _ hb24); refine (HFI.out _ _ (intsAt_new _ _ _ _ _ rfl (by simp) (by first | rfl | simp))).mono ?_; rintro _ _ ⟨rfl, rfl⟩)); rw [contF]; refine ⟨?_, ?_⟩; (next => (repeat (with_reducible first | assumption | exact KeepB.refl (by first | (simp; done) | (simp; omega)) | refine KeepB.drew ?_ | refine KeepB.alloc ?_ _ | refine KeepB.setCell ?_ (by first | (simp; done) | (simp; omega)) | refine KeepB.below ?_ (by assumption)))))
  (rw [wpSteps]; go_wp2_with (fail); rw [contF]; refine ⟨?_, ?_⟩; (next => (repeat (with_reducible first | assumption | exact KeepB.refl (by first | (simp; done) | (simp; omega)) | refine KeepB.drew ?_ | refine KeepB.alloc ?_ _ | refine KeepB.setCell ?_ (by first | (simp; done) | (simp; omega)) | refine KeepB.below ?_ (by assumption)))))
  (rw [wpSteps])
  (rw [wpMixC])
  (rw [wpMix]; simp only [pick, List.drop_succ_cons, List.drop_zero, List.head?_cons, Option.toList_some, List.cons_append, List.nil_append])
  (repeat (first | (go_big_quiet_step (fail)) | (quiet_step (fail))))
  (try refine wpQuiet_nil ?_)
  (rw [wpMix])
  (refine hQ' _ _ ?_)
  go_wp2_with fail
  have hb04 := HB04.out
  ((try simp only [Exit.inBlock, Exit.then]); refine bodyPost_ret (v := .tuple #[.agg #[.int .i64 px, .int .i64 py, .int .i64 pz, .int .i64 tm, .int .i64 tk, .int .i64 lo, .int .i64 hi, .int .i64 li, .int .i64 ea, .int .i64 la, .int .i64 no, .int .i64 mi], .int .i64 E]) ?_ rfl ?_; (next => simp [results, Try.results92, go_sem, gl, g0, g1, g2, g3, g4, g5, g6, g7, g8, g9, g10, g11]); refine ⟨?_, ?_⟩; (next => rfl); (next => (repeat (with_reducible first | exact Below.refl _ _ | assumption | refine Below.drewN _ ?_ | refine Below.drew ?_ | refine Below_alloc ?_ _ | refine Below.alloc ?_ (by first | (simp; done) | (simp; omega) | omega) _ | refine Below.setCell ?_ (by first | (simp; done) | (simp; omega) | omega) _ | refine Below_call ?_ (by assumption) | refine Below.trans ?_ (by assumption)))))

set_option maxRecDepth 100000 in
set_option maxHeartbeats 4000000 in
theorem track_openHits (m : TMod) (b : TBox) (l : List THit) (v : Value) (w : World) (h : HitsAt w v l) :
    Calls Try.prog 95 #[m.v, b.v, v] w fun e w' => e = .returned (.tuple #[m.v, .int .i64 (firstNZ [firstNZ [m.err, b.err], hitsE l])]) ∧ Below w.heap.size w w' := by
  have HO : Hid (∀ W, Calls Try.prog 92 #[m.v, b.v] W fun e w' => e = .returned (.tuple #[m.v, .int .i64 (firstNZ [m.err, b.err])]) ∧ Below W.heap.size W w') := hid (fun W => track_openBox m b W)
  have HC : Hid (∀ W, Below w.heap.size w W → Calls Try.prog 89 #[v] W fun e w' => e = .returned (.int .i64 (hitsE l)) ∧ Below W.heap.size W w') := hid (fun W hb => track_hitsErr l v W (h.below hb))
  have HFI : Hid (∀ v w, IntsAt w v [firstNZ [m.err, b.err], hitsE l] → Calls Try.prog 69 #[v] w fun e w' => e = .returned (.int .i64 (firstNZ [firstNZ [m.err, b.err], hitsE l])) ∧ w = w') := hid (fun v w h => track_first _ v w h)
  obtain ⟨ao, cap, rfl, _, _, _⟩ := h.opn
  clear h
  generalize firstNZ [firstNZ [m.err, b.err], hitsE l] = E at HFI ⊢
  generalize firstNZ [m.err, b.err] = EM at HO HFI
  generalize hitsE l = EB at HC HFI
  obtain ⟨px, py, pz, tm, tk, lo, hi, li, ea, la, no, mi⟩ := m
  obtain ⟨⟨lx, ly, lz⟩, ⟨hx, hy, hz⟩⟩ := b
  unfold TMod.v TBox.v at *
  simp only at *
  obtain ⟨W0, hW0⟩ : ∃ W0, W0 = ((w.alloc (.cells #[.int .i64 px, .int .i64 py, .int .i64 pz, .int .i64 tm, .int .i64 tk, .int .i64 lo, .int .i64 hi, .int .i64 li, .int .i64 ea, .int .i64 la, .int .i64 no, .int .i64 mi] 26)).alloc (.cells #[.int .i64 lx, .int .i64 ly, .int .i64 lz, .int .i64 hx, .int .i64 hy, .int .i64 hz] 75)).alloc (.cells #[.int .i64 0, .int .i64 0, .int .i64 0, .int .i64 0, .int .i64 0, .int .i64 0, .int .i64 0, .int .i64 0, .int .i64 0, .int .i64 0, .int .i64 0, .int .i64 0] 134) := ⟨_, rfl⟩
  have hbW0 : Below w.heap.size w W0 := by rw [hW0]; (repeat (with_reducible first | exact Below.refl _ _ | assumption | refine Below.drewN _ ?_ | refine Below.drew ?_ | refine Below_alloc ?_ _ | refine Below.alloc ?_ (by first | (simp; done) | (simp; omega) | omega) _ | refine Below.setCell ?_ (by first | (simp; done) | (simp; omega) | omega) _ | refine Below_call ?_ (by assumption) | refine Below.trans ?_ (by assumption)))
  obtain ⟨q0, q1, q2⟩ := al3 w _ _ _ _ _ _ W0 hW0
  have l1 := (Array.getElem?_eq_some_iff.1 q1).1
  have l2 := (Array.getElem?_eq_some_iff.1 q2).1
  have Q1 := hid q1
  have Q2 := hid q2
  have hzW0 := hbW0.size
  clear q0 q1 q2
  go_enter Try.func95, Try.ntmps95
  go_wp2_with (go_at_call 92; rw [← hW0]; refine (HO.out _).mono ?_; rintro _ w1 ⟨rfl, hb1⟩)
  have hz1 : W0.heap.size ≤ w1.heap.size := hb1.size
  obtain ⟨W2, hW2⟩ : ∃ W2, W2 = w1.alloc (.cells #[.int .i64 px, .int .i64 py, .int .i64 pz, .int .i64 tm, .int .i64 tk, .int .i64 lo, .int .i64 hi, .int .i64 li, .int .i64 ea, .int .i64 la, .int .i64 no, .int .i64 mi] 134) := ⟨_, rfl⟩
  have hb12 : Below w1.heap.size w1 W2 := by rw [hW2]; (repeat (with_reducible first | exact Below.refl _ _ | assumption | refine Below.drewN _ ?_ | refine Below.drew ?_ | refine Below_alloc ?_ _ | refine Below.alloc ?_ (by first | (simp; done) | (simp; omega) | omega) _ | refine Below.setCell ?_ (by first | (simp; done) | (simp; omega) | omega) _ | refine Below_call ?_ (by assumption) | refine Below.trans ?_ (by assumption)))
  have hb02 : Below W0.heap.size W0 W2 := hb1.trans (hb12.mono hz1)
  have r0 : W2.heap[w1.heap.size]? = some (.cells #[.int .i64 px, .int .i64 py, .int .i64 pz, .int .i64 tm, .int .i64 tk, .int .i64 lo, .int .i64 hi, .int .i64 li, .int .i64 ea, .int .i64 la, .int .i64 no, .int .i64 mi] 134 (0, 0)) := by rw [hW2]; exact heap_alloc_new w1 _
  rw [← hW2]
  clear hW2 hW0
  obtain ⟨m0, m1, m2, m3, m4, m5, m6, m7, m8, m9, m10, m11, ml⟩ := tw_cells (r0)
  have hlb : w.heap.size + 1 < W2.heap.size := by omega
  have R2 := hid ((hb02.block (w.heap.size + 1 + 1) l2).trans Q2.out)
  have hl2 := (Array.getElem?_eq_some_iff.1 R2.out).1
  have hbw2 : Below w.heap.size w W2 := hbW0.trans (hb02.mono hzW0)
  clear r0
  have fin : ∀ w5 : World, Below W2.heap.size W2 w5 → Below w.heap.size w w5 := fun w5 h => hbw2.trans (h.mono hbw2.size)
  refine wp_mixC (KeepB [w1.heap.size] W2) 7 [.q [0, 1, 2], .f [3, 4, 5, 6]] [.q [7]] (by kernel_rfl) (by kernel_rfl) ((KeepB.refl (by first | (simp; done) | (simp; omega))).drew) ?_
  intro Q' hQ'
  (rw [wpMixC]; simp only [pick, List.drop_succ_cons, List.drop_zero, List.head?_cons, Option.toList_some, List.cons_append, List.nil_append])
  (repeat (first | go_big_quiet_skip | (go_big_quiet_want; refine quiet_simple rfl ?_; go_big_quiet_op; go_big_quiet_on) | (go_big_quiet_want; refine quiet_agg12K (ty := 134) rfl rfl (by kernel_rfl) (by assumption) (by assumption) (by assumption) (by assumption) (by assumption) (by assumption) (by assumption) (by assumption) (by assumption) (by assumption) (by assumption) (by assumption) (by simp) ?_; simp only [Act.put, List.setIfInBounds_toArray, List.set_cons_succ, List.set_cons_zero]; go_big_quiet_on)))
  (try refine wpQuiet_nil ?_)
  (rw [wpMixC]; simp only [pick, List.drop_succ_cons, List.drop_zero, List.head?_cons, Option.toList_some, List.cons_append, List.nil_append])
  (rw [wpSteps]; go_wp2_with ((go_at_call 89; refine (HC.out _ (fin _ (by (repeat (with_reducible first | exact Below.refl _ _ | assumption | refine Below.drewN _ ?_ | refine Below.drew ?_ | refine Below_alloc ?_ _ | refine Below.alloc ?_ (by first | (simp; done) | (simp; omega) | omega) _ | refine Below.setCell ?_ (by first | (simp; done) | (simp; omega) | omega) _ | refine Below_call ?_ (by assumption) | refine Below.trans ?_ (by assumption)))))).mono ?_; rintro _ w3 ⟨rfl, hb3⟩)); rw [contF]; refine ⟨?_, ?_⟩; (next => (repeat (with_reducible first | assumption | exact KeepB.refl (by first | (simp; done) | (simp; omega)) | refine KeepB.drew ?_ | refine KeepB.alloc ?_ _ | refine KeepB.setCell ?_ (by first | (simp; done) | (simp; omega)) | refine KeepB.below ?_ (by assumption)))))
  (rw [wpSteps]; go_wp2_with (fail); rw [contF]; refine ⟨?_, ?_⟩; (next => (repeat (with_reducible first | assumption | exact KeepB.refl (by first | (simp; done) | (simp; omega)) | refine KeepB.drew ?_ | refine KeepB.alloc ?_ _ | refine KeepB.setCell ?_ (by first | (simp; done) | (simp; omega)) | refine KeepB.below ?_ (by assumption)))))
  (rw [wpSteps]; go_wp2_with ((go_at_call 69; have hb24 : Below W2.heap.size W2 w3 := (by (repeat (with_reducible first | exact Below.refl _ _ | assumption | refine Below.drewN _ ?_ | refine Below.drew ?_ | refine Below_alloc ?_ _ | refine Below.alloc ?_ (by first | (simp; done) | (simp; omega) | omega) _ | refine Below.setCell ?_ (by first | (simp; done) | (simp; omega) | omega) _ | refine Below_call ?_ (by assumption) | refine Below.trans ?_ (by assumption)))); obtain ⟨g0, g1, g2, g3, g4, g5, g6, g7, g8, g9, g10, g11, gl⟩ := tw_cells ((hb24.block (w.heap.size + 1 + 1) hl2).trans R2.out); obtain ⟨fg0, fg1, fg2, fg3, fg4, fg5, fg6, fg7, fg8, fg9, fg10, fg11⟩ := tw_frozen ((hb24.block (w.heap.size + 1 + 1) hl2).trans R2.out); have HB04 := hid (fin _ hb24); refine (HFI.out _ _ (intsAt_new _ _ _ _ _ rfl (by simp) (by first | rfl | simp))).mono ?_; rintro _ _ ⟨rfl, rfl⟩)); rw [contF]; refine ⟨?_, ?_⟩; (next => (repeat (with_reducible first | assumption | exact KeepB.refl (by first | (simp; done) | (simp; omega)) | refine KeepB.drew ?_ | refine KeepB.alloc ?_ _ | refine KeepB.setCell ?_ (by first | (simp; done) | (simp; omega)) | refine KeepB.below ?_ (by assumption)))))
  (rw [wpSteps]; go_wp2_with (fail); rw [contF]; refine ⟨?_, ?_⟩; (next => (repeat (with_reducible first | assumption | exact KeepB.refl (by first | (simp; done) | (simp; omega)) | refine KeepB.drew ?_ | refine KeepB.alloc ?_ _ | refine KeepB.setCell ?_ (by first | (simp; done) | (simp; omega)) | refine KeepB.below ?_ (by assumption)))))
  (rw [wpSteps])
  (rw [wpMixC])
  (rw [wpMix]; simp only [pick, List.drop_succ_cons, List.drop_zero, List.head?_cons, Option.toList_some, List.cons_append, List.nil_append])
  (repeat (first | (go_big_quiet_step (fail)) | (quiet_step (fail))))
  (try refine wpQuiet_nil ?_)
  (rw [wpMix])
  (refine hQ' _ _ ?_)
  go_wp2_with fail
  have hb04 := HB04.out
  ((try simp only [Exit.inBlock, Exit.then]); refine bodyPost_ret (v := .tuple #[.agg #[.int .i64 px, .int .i64 py, .int .i64 pz, .int .i64 tm, .int .i64 tk, .int .i64 lo, .int .i64 hi, .int .i64 li, .int .i64 ea, .int .i64 la, .int .i64 no, .int .i64 mi], .int .i64 E]) ?_ rfl ?_; (next => simp [results, Try.results95, go_sem, gl, g0, g1, g2, g3, g4, g5, g6, g7, g8, g9, g10, g11]); refine ⟨?_, ?_⟩; (next => rfl); (next => (repeat (with_reducible first | exact Below.refl _ _ | assumption | refine Below.drewN _ ?_ | refine Below.drew ?_ | refine Below_alloc ?_ _ | refine Below.alloc ?_ (by first | (simp; done) | (simp; omega) | omega) _ | refine Below.setCell ?_ (by first | (simp; done) | (simp; omega) | omega) _ | refine Below_call ?_ (by assumption) | refine Below.trans ?_ (by assumption)))))
end Go.Proofs.Ytlmdmpjfehpjeaa

/- Tracks: ranges of the program: sums, products, squares. -/
set_option linter.unusedVariables false
set_option linter.unusedSimpArgs false
namespace Go.Proofs.Ytlmdmpjfehpjeaa
open Go.RowKit

def Rg.v (r : Rg) : Value := .agg #[.int .i64 r.lo, .int .i64 r.hi]
set_option maxRecDepth 100000 in
set_option maxHeartbeats 4000000 in
theorem track_plus (r s : Rg) (w : World) (h1 : -4000000000000000000 ≤ r.lo ∧ r.lo ≤ 4000000000000000000) (h2 : -4000000000000000000 ≤ r.hi ∧ r.hi ≤ 4000000000000000000) (h3 : -4000000000000000000 ≤ s.lo ∧ s.lo ≤ 4000000000000000000) (h4 : -4000000000000000000 ≤ s.hi ∧ s.hi ≤ 4000000000000000000) :
    Calls Try.prog 129 #[r.v, s.v] w fun e w' => e = .returned (r.plus s).v ∧ Below w.heap.size w w' := by
  obtain ⟨a, b⟩ := r
  obtain ⟨c, d⟩ := s
  unfold Rg.v Rg.plus
  simp only at *
  go_enter Try.func129, Try.ntmps129
  go_wp2_with fail
  ((try simp only [Exit.inBlock, Exit.then]); refine bodyPost_ret (v := .agg #[.int .i64 (a + c), .int .i64 (b + d)]) ?_ rfl ?_; (next => simp [results, Try.results129, go_sem]); refine ⟨?_, ?_⟩; (next => rfl); (next => (repeat (with_reducible first | exact Below.refl _ _ | assumption | refine Below.drewN _ ?_ | refine Below.drew ?_ | refine Below_alloc ?_ _ | refine Below.alloc ?_ (by first | (simp; done) | (simp; omega) | omega) _ | refine Below.setCell ?_ (by first | (simp; done) | (simp; omega) | omega) _ | refine Below_call ?_ (by assumption) | refine Below.trans ?_ (by assumption)))))

set_option maxRecDepth 100000 in
set_option maxHeartbeats 4000000 in
theorem track_square (r : Rg) (w : World) (h1 : -3000000000 ≤ r.lo ∧ r.lo ≤ 3000000000) (h2 : -3000000000 ≤ r.hi ∧ r.hi ≤ 3000000000) :
    Calls Try.prog 130 #[r.v] w fun e w' => e = .returned r.square.v ∧ Below w.heap.size w w' := by
  obtain ⟨a, b⟩ := r
  simp only at *
  have g1 := mul_rg h1 h1 (C := 9000000000000000000) (by decide)
  have g2 := mul_rg h2 h2 (C := 9000000000000000000) (by decide)
  have HV : Hid ((⟨a, b⟩ : Rg).square = if a ≤ 0 ∧ 0 ≤ b then ⟨0, max (a * a) (b * b)⟩ else ⟨min (a * a) (b * b), max (a * a) (b * b)⟩) := hid rfl
  obtain ⟨A, hA⟩ : ∃ A, a * a = A := ⟨_, rfl⟩
  obtain ⟨B, hB⟩ : ∃ B, b * b = B := ⟨_, rfl⟩
  have k1 : IntKind.i64.wrap (a * a) = A := by rw [hA]; exact IntWalk.i64_in _ (by omega)
  have k2 : IntKind.i64.wrap (b * b) = B := by rw [hB]; exact IntWalk.i64_in _ (by omega)
  rw [hA] at g1 HV
  rw [hB] at g2 HV
  generalize (⟨a, b⟩ : Rg).square = Q at HV ⊢
  unfold Rg.v
  simp only
  obtain ⟨W, hW⟩ : ∃ W, W = (w.alloc (.cells #[.int .i64 a, .int .i64 b] 157)).alloc (.cells #[.int .i64 0, .int .i64 0] 157) := ⟨_, rfl⟩
  have hbW : Below w.heap.size w W := by rw [hW]; (repeat (with_reducible first | exact Below.refl _ _ | assumption | refine Below.drewN _ ?_ | refine Below.drew ?_ | refine Below_alloc ?_ _ | refine Below.alloc ?_ (by first | (simp; done) | (simp; omega) | omega) _ | refine Below.setCell ?_ (by first | (simp; done) | (simp; omega) | omega) _ | refine Below_call ?_ (by assumption) | refine Below.trans ?_ (by assumption)))
  obtain ⟨q0, q1, l0, l1⟩ := al2 w _ _ _ _ W hW
  obtain ⟨c0, c1, fc0, fc1, hlc⟩ := two_cells q0
  obtain ⟨g0, g1', fg0, fg1, hlg⟩ := two_cells q1
  clear q0 q1 hA hB fc0 fc1
  by_cases p1 : a ≤ 0
  · by_cases p2 : 0 ≤ b
    · have HQ : Hid (Q.lo = 0 ∧ Q.hi = max A B) := hid (by rw [HV.out, if_pos ⟨p1, p2⟩]; exact ⟨rfl, rfl⟩)
      go_enter Try.func130, Try.ntmps130
      go_wp2_with fail
      rw [← hW]
      clear hW
      refine wp_mixC (fun wc => Below (W.heap.size) W wc) 11 [.q [0, 1, 2, 3, 4, 5, 6, 7, 8, 9, 10]] [.q [11]] (by kernel_rfl) (by kernel_rfl) ((Below.refl _ _).drew) ?_
      intro Q' hQ'
      (rw [wpMixC]; simp only [pick, List.drop_succ_cons, List.drop_zero, List.head?_cons, Option.toList_some, List.cons_append, List.nil_append])
      (repeat (first | go_big_quiet_skip | (go_big_quiet_want; refine quiet_simple rfl ?_; go_big_quiet_op; go_big_quiet_on) | (go_big_quiet_want; refine quiet_cellB (ty := 3) rfl rfl (by kernel_rfl) (by assumption) (by first | omega | (simp; omega)) ?_; simp only [Act.put, List.setIfInBounds_toArray, List.set_cons_succ, List.set_cons_zero]; go_big_quiet_on)))
      (try refine wpQuiet_nil ?_)
      (rw [wpMixC])
      (rw [wpMix]; simp only [pick, List.drop_succ_cons, List.drop_zero, List.head?_cons, Option.toList_some, List.cons_append, List.nil_append])
      (repeat (first | (go_big_quiet_step (fail)) | (quiet_step (fail))))
      (try refine wpQuiet_nil ?_)
      (rw [wpMix])
      (refine hQ' _ _ ?_)
      go_wp2_with fail
      all_goals
        ((try simp only [Exit.inBlock, Exit.then]); refine bodyPost_ret (v := .agg #[.int .i64 0, .int .i64 (max A B)]) ?_ rfl ?_; (next => (simp [results, Try.results130, go_sem, hlg, g0, g1'] <;> omega)))
        exact ⟨by rw [HQ.out.1, HQ.out.2], by (repeat (with_reducible first | exact Below.refl _ _ | assumption | refine Below.drewN _ ?_ | refine Below.drew ?_ | refine Below_alloc ?_ _ | refine Below.alloc ?_ (by first | (simp; done) | (simp; omega) | omega) _ | refine Below.setCell ?_ (by first | (simp; done) | (simp; omega) | omega) _ | refine Below_call ?_ (by assumption) | refine Below.trans ?_ (by assumption)))⟩
    · have HQ : Hid (Q.lo = min A B ∧ Q.hi = max A B) := hid (by rw [HV.out, if_neg (fun h => p2 h.2)]; exact ⟨rfl, rfl⟩)
      go_enter Try.func130, Try.ntmps130
      go_wp2_with fail
      rw [← hW]
      clear hW
      refine wp_mixC (fun wc => Below (W.heap.size) W wc) 11 [.q [0, 1, 2, 3, 4, 5, 6, 7, 8, 9, 10]] [.q [11]] (by kernel_rfl) (by kernel_rfl) ((Below.refl _ _).drew) ?_
      intro Q' hQ'
      (rw [wpMixC]; simp only [pick, List.drop_succ_cons, List.drop_zero, List.head?_cons, Option.toList_some, List.cons_append, List.nil_append])
      (repeat (first | go_big_quiet_skip | (go_big_quiet_want; refine quiet_simple rfl ?_; go_big_quiet_op; go_big_quiet_on) | (go_big_quiet_want; refine quiet_cellB (ty := 3) rfl rfl (by kernel_rfl) (by assumption) (by first | omega | (simp; omega)) ?_; simp only [Act.put, List.setIfInBounds_toArray, List.set_cons_succ, List.set_cons_zero]; go_big_quiet_on)))
      (try refine wpQuiet_nil ?_)
      (rw [wpMixC])
      (rw [wpMix]; simp only [pick, List.drop_succ_cons, List.drop_zero, List.head?_cons, Option.toList_some, List.cons_append, List.nil_append])
      (repeat (first | (go_big_quiet_step (fail)) | (quiet_step (fail))))
      (try refine wpQuiet_nil ?_)
      (rw [wpMix])
      (refine hQ' _ _ ?_)
      go_wp2_with fail
      all_goals
        ((try simp only [Exit.inBlock, Exit.then]); refine bodyPost_ret (v := .agg #[.int .i64 (min A B), .int .i64 (max A B)]) ?_ rfl ?_; (next => (simp [results, Try.results130, go_sem, hlg, g0, g1'] <;> omega)))
        exact ⟨by rw [HQ.out.1, HQ.out.2], by (repeat (with_reducible first | exact Below.refl _ _ | assumption | refine Below.drewN _ ?_ | refine Below.drew ?_ | refine Below_alloc ?_ _ | refine Below.alloc ?_ (by first | (simp; done) | (simp; omega) | omega) _ | refine Below.setCell ?_ (by first | (simp; done) | (simp; omega) | omega) _ | refine Below_call ?_ (by assumption) | refine Below.trans ?_ (by assumption)))⟩
  · have HQ : Hid (Q.lo = min A B ∧ Q.hi = max A B) := hid (by rw [HV.out, if_neg (fun h => p1 h.1)]; exact ⟨rfl, rfl⟩)
    go_enter Try.func130, Try.ntmps130
    go_wp2_with fail
    rw [← hW]
    clear hW
    refine wp_mixC (fun wc => Below (W.heap.size) W wc) 11 [.q [0, 1, 2, 3, 4, 5, 6, 7, 8, 9, 10]] [.q [11]] (by kernel_rfl) (by kernel_rfl) ((Below.refl _ _).drew) ?_
    intro Q' hQ'
    (rw [wpMixC]; simp only [pick, List.drop_succ_cons, List.drop_zero, List.head?_cons, Option.toList_some, List.cons_append, List.nil_append])
    (repeat (first | go_big_quiet_skip | (go_big_quiet_want; refine quiet_simple rfl ?_; go_big_quiet_op; go_big_quiet_on) | (go_big_quiet_want; refine quiet_cellB (ty := 3) rfl rfl (by kernel_rfl) (by assumption) (by first | omega | (simp; omega)) ?_; simp only [Act.put, List.setIfInBounds_toArray, List.set_cons_succ, List.set_cons_zero]; go_big_quiet_on)))
    (try refine wpQuiet_nil ?_)
    (rw [wpMixC])
    (rw [wpMix]; simp only [pick, List.drop_succ_cons, List.drop_zero, List.head?_cons, Option.toList_some, List.cons_append, List.nil_append])
    (repeat (first | (go_big_quiet_step (fail)) | (quiet_step (fail))))
    (try refine wpQuiet_nil ?_)
    (rw [wpMix])
    (refine hQ' _ _ ?_)
    go_wp2_with fail
    all_goals
      ((try simp only [Exit.inBlock, Exit.then]); refine bodyPost_ret (v := .agg #[.int .i64 (min A B), .int .i64 (max A B)]) ?_ rfl ?_; (next => (simp [results, Try.results130, go_sem, hlg, g0, g1'] <;> omega)))
      exact ⟨by rw [HQ.out.1, HQ.out.2], by (repeat (with_reducible first | exact Below.refl _ _ | assumption | refine Below.drewN _ ?_ | refine Below.drew ?_ | refine Below_alloc ?_ _ | refine Below.alloc ?_ (by first | (simp; done) | (simp; omega) | omega) _ | refine Below.setCell ?_ (by first | (simp; done) | (simp; omega) | omega) _ | refine Below_call ?_ (by assumption) | refine Below.trans ?_ (by assumption)))⟩
set_option maxRecDepth 100000 in
set_option maxHeartbeats 4000000 in
theorem slices_Min (a b c d : Int) (v : Value) (w : World) (h : IntsAt w v [a, b, c, d]) :
    Calls Try.prog 145 #[v] w fun e w' => e = .returned (.int .i64 (mn4 a b c d)) ∧ Below w.heap.size w w' := by
  obtain ⟨ao, cap, rfl, h1, h2, h3⟩ := h.opn
  obtain ⟨g, off, rfl, hb, hc⟩ := h3 0 (by simp)
  have c0 := hc 0 (by simp)
  have c1 := hc 1 (by simp)
  have c2 := hc 2 (by simp)
  have c3 := hc 3 (by simp)
  rw [show nth [a, b, c, d] 0 = a from rfl, Nat.add_zero] at c0
  rw [show nth [a, b, c, d] 1 = b from rfl] at c1
  rw [show nth [a, b, c, d] 2 = c from rfl] at c2
  rw [show nth [a, b, c, d] 3 = d from rfl] at c3
  have HV : Hid (mn4 a b c d = min (min (min a b) c) d) := hid rfl
  generalize mn4 a b c d = R at HV ⊢
  simp only [List.length_cons, List.length_nil, Nat.zero_add, Nat.reduceAdd] at *
  clear hc h3 h
  unfold maxLen at h2
  go_enter Try.func145, Try.ntmps145
  go_wp2_with fail
  refine wp_loop_rounds 4 ?_
  repeat any_goals (rw [rounds_succ]; go_wp2_with fail)
  all_goals go_ret
  all_goals exact ⟨ret_int (by rw [HV.out]; omega), Below.refl _ _⟩
set_option maxRecDepth 100000 in
set_option maxHeartbeats 4000000 in
theorem slices_Max (a b c d : Int) (v : Value) (w : World) (h : IntsAt w v [a, b, c, d]) :
    Calls Try.prog 146 #[v] w fun e w' => e = .returned (.int .i64 (mx4 a b c d)) ∧ Below w.heap.size w w' := by
  obtain ⟨ao, cap, rfl, h1, h2, h3⟩ := h.opn
  obtain ⟨g, off, rfl, hb, hc⟩ := h3 0 (by simp)
  have c0 := hc 0 (by simp)
  have c1 := hc 1 (by simp)
  have c2 := hc 2 (by simp)
  have c3 := hc 3 (by simp)
  rw [show nth [a, b, c, d] 0 = a from rfl, Nat.add_zero] at c0
  rw [show nth [a, b, c, d] 1 = b from rfl] at c1
  rw [show nth [a, b, c, d] 2 = c from rfl] at c2
  rw [show nth [a, b, c, d] 3 = d from rfl] at c3
  have HV : Hid (mx4 a b c d = max (max (max a b) c) d) := hid rfl
  generalize mx4 a b c d = R at HV ⊢
  simp only [List.length_cons, List.length_nil, Nat.zero_add, Nat.reduceAdd] at *
  clear hc h3 h
  unfold maxLen at h2
  go_enter Try.func146, Try.ntmps146
  go_wp2_with fail
  refine wp_loop_rounds 4 ?_
  repeat any_goals (rw [rounds_succ]; go_wp2_with fail)
  all_goals go_ret
  all_goals exact ⟨ret_int (by rw [HV.out]; omega), Below.refl _ _⟩
end Go.Proofs.Ytlmdmpjfehpjeaa

/- Tracks: products of ranges. -/
set_option linter.unusedVariables false
set_option linter.unusedSimpArgs false
namespace Go.Proofs.Ytlmdmpjfehpjeaa
open Go.RowKit

theorem run_sl4 (b : Nat) (w : World) : (Instr.sliceAt 128 (.pointer (some ⟨b, 0, none⟩)) none none none).run Try.prog w = .ok (.slice (some ⟨b, 0, none⟩) 4 4) w := by kernel_rfl
theorem quiet_sl128 {o : Oper} {a : Act} {C : World → Prop} {K : Act → Prop} {x : Operand} {b : Nat} (ho : o.op = .slice 128 x none none none) (hx : a.eval x = .pointer (some ⟨b, 0, none⟩)) (hK : K (a.put o.dst (.slice (some ⟨b, 0, none⟩) 4 4))) : o.quiet Try.prog a C K :=
  quiet_val _ (fun w _ => by
    unfold execOp
    simp only [ho, hx, Option.map_none]
    simp [go_sem, run_sl4]) hK
set_option maxRecDepth 100000 in
set_option maxHeartbeats 4000000 in
theorem track_times (r s : Rg) (w : World) (h1 : -4000000000000000000 ≤ r.lo * s.lo ∧ r.lo * s.lo ≤ 4000000000000000000) (h2 : -4000000000000000000 ≤ r.lo * s.hi ∧ r.lo * s.hi ≤ 4000000000000000000) (h3 : -4000000000000000000 ≤ r.hi * s.lo ∧ r.hi * s.lo ≤ 4000000000000000000) (h4 : -4000000000000000000 ≤ r.hi * s.hi ∧ r.hi * s.hi ≤ 4000000000000000000) :
    Calls Try.prog 131 #[r.v, s.v] w fun e w' => e = .returned (r.times s).v ∧ Below w.heap.size w w' := by
  have HV : Hid ((r.times s).lo = mn4 (r.lo * s.lo) (r.lo * s.hi) (r.hi * s.lo) (r.hi * s.hi) ∧ (r.times s).hi = mx4 (r.lo * s.lo) (r.lo * s.hi) (r.hi * s.lo) (r.hi * s.hi)) := hid ⟨rfl, rfl⟩
  generalize r.times s = T at HV ⊢
  obtain ⟨a, b⟩ := r
  obtain ⟨c, d⟩ := s
  simp only at *
  obtain ⟨P1, hP1⟩ : ∃ P, a * c = P := ⟨_, rfl⟩
  obtain ⟨P2, hP2⟩ : ∃ P, a * d = P := ⟨_, rfl⟩
  obtain ⟨P3, hP3⟩ : ∃ P, b * c = P := ⟨_, rfl⟩
  obtain ⟨P4, hP4⟩ : ∃ P, b * d = P := ⟨_, rfl⟩
  rw [hP1] at h1 HV
  rw [hP2] at h2 HV
  rw [hP3] at h3 HV
  rw [hP4] at h4 HV
  have HMIN : Hid (∀ (v : Value) (w : World), IntsAt w v [P1, P2, P3, P4] → Calls Try.prog 145 #[v] w fun e w' => e = .returned (.int .i64 T.lo) ∧ Below w.heap.size w w') := hid (fun v w h => by rw [HV.out.1]; exact slices_Min _ _ _ _ v w h)
  have HMAX : Hid (∀ (v : Value) (w : World), IntsAt w v [P1, P2, P3, P4] → Calls Try.prog 146 #[v] w fun e w' => e = .returned (.int .i64 T.hi) ∧ Below w.heap.size w w') := hid (fun v w h => by rw [HV.out.2]; exact slices_Max _ _ _ _ v w h)
  clear HV
  obtain ⟨tl, th⟩ := T
  unfold Rg.v
  simp only at *
  obtain ⟨W0, hW0⟩ : ∃ W0, W0 = ((w.alloc (.cells #[.int .i64 a, .int .i64 b] 157)).alloc (.cells #[.int .i64 c, .int .i64 d] 157)).alloc (.cells #[.int .i64 0, .int .i64 0] 157) := ⟨_, rfl⟩
  have hbW0 : Below w.heap.size w W0 := by rw [hW0]; (repeat (with_reducible first | exact Below.refl _ _ | assumption | refine Below.drewN _ ?_ | refine Below.drew ?_ | refine Below_alloc ?_ _ | refine Below.alloc ?_ (by first | (simp; done) | (simp; omega) | omega) _ | refine Below.setCell ?_ (by first | (simp; done) | (simp; omega) | omega) _ | refine Below_call ?_ (by assumption) | refine Below.trans ?_ (by assumption)))
  obtain ⟨q0, q1, q2⟩ := al3 w _ _ _ _ _ _ W0 hW0
  have l2 := (Array.getElem?_eq_some_iff.1 q2).1
  have Q2 := hid q2
  have hzW0 := hbW0.size
  clear q0 q1 q2
  go_enter Try.func131, Try.ntmps131
  go_wp2_with fail
  rw [← hW0]
  obtain ⟨W, hW⟩ : ∃ W, W = W0.alloc (.cells #[.int .i64 P1, .int .i64 P2, .int .i64 P3, .int .i64 P4] 128) := ⟨_, rfl⟩
  have hbW : Below W0.heap.size W0 W := by rw [hW]; (repeat (with_reducible first | exact Below.refl _ _ | assumption | refine Below.drewN _ ?_ | refine Below.drew ?_ | refine Below_alloc ?_ _ | refine Below.alloc ?_ (by first | (simp; done) | (simp; omega) | omega) _ | refine Below.setCell ?_ (by first | (simp; done) | (simp; omega) | omega) _ | refine Below_call ?_ (by assumption) | refine Below.trans ?_ (by assumption)))
  have HI : Hid (∀ W', Below W.heap.size W W' → IntsAt W' (.slice (some ⟨W0.heap.size, 0, none⟩) 4 4) [P1, P2, P3, P4]) := hid (fun W' h => ((by rw [hW]; exact intsAt_new W0 128 [P1, P2, P3, P4] 4 W0.heap.size rfl (by omega) rfl) : IntsAt W _ _).below h)
  have R2 := hid ((hbW.block (w.heap.size + 1 + 1) l2).trans Q2.out)
  have hlW0 : W0.heap.size < W.heap.size := by rw [hW]; simp
  have hz0 : W0.heap.size = w.heap.size + 1 + 1 + 1 := by rw [hW0]; simp
  rw [← hW]
  rw [hz0] at HI hlW0
  clear hW hW0
  have fin : ∀ w5 : World, Below W.heap.size W w5 → Below w.heap.size w w5 := fun w5 h => (hbW0.trans (hbW.mono hzW0)).trans (h.mono (Nat.le_trans hzW0 hbW.size))
  have hlR := (Array.getElem?_eq_some_iff.1 R2.out).1
  refine wp_mixC (fun wc => Below ((w.heap.size + 1 + 1)) W wc) 5 [.q [0, 2], .f [1, 3], .q [4]] [.f [5]] (by kernel_rfl) (by kernel_rfl) ((Below.refl _ _).drew) ?_
  intro Q' hQ'
  (rw [wpMixC]; simp only [pick, List.drop_succ_cons, List.drop_zero, List.head?_cons, Option.toList_some, List.cons_append, List.nil_append])
  (repeat (first | go_big_quiet_skip | (go_big_quiet_want; refine quiet_simple rfl ?_; go_big_quiet_op; go_big_quiet_on) | (go_big_quiet_want; refine quiet_sl128 rfl rfl ?_; simp only [Act.put, List.setIfInBounds_toArray, List.set_cons_succ, List.set_cons_zero]; go_big_quiet_on)))
  (try refine wpQuiet_nil ?_)
  (rw [wpMixC]; simp only [pick, List.drop_succ_cons, List.drop_zero, List.head?_cons, Option.toList_some, List.cons_append, List.nil_append])
  (rw [wpSteps]; go_wp2_with ((go_at_call 145; have hbq : Below W.heap.size W W.drew := (by (repeat (with_reducible first | exact Below.refl _ _ | assumption | refine Below.drewN _ ?_ | refine Below.drew ?_ | refine Below_alloc ?_ _ | refine Below.alloc ?_ (by first | (simp; done) | (simp; omega) | omega) _ | refine Below.setCell ?_ (by first | (simp; done) | (simp; omega) | omega) _ | refine Below_call ?_ (by assumption) | refine Below.trans ?_ (by assumption)))); ((with_reducible refine (HMIN.out _ _ (HI.out _ hbq)).mono ?_); rintro _ w3 ⟨rfl, hb3⟩); have hz3 : W.heap.size ≤ w3.heap.size := hb3.size; have hbm3 : Below (w.heap.size + 1 + 1) W w3 := ((Below.refl (w.heap.size + 1 + 1) W).drew).trans (hb3.mono (by show _ ≤ W.heap.size; omega)))); rw [contF]; refine ⟨?_, ?_⟩; (next => (repeat (with_reducible first | exact Below.refl _ _ | assumption | refine Below.drewN _ ?_ | refine Below.drew ?_ | refine Below_alloc ?_ _ | refine Below.alloc ?_ (by first | (simp; done) | (simp; omega) | omega) _ | refine Below.setCell ?_ (by first | (simp; done) | (simp; omega) | omega) _ | refine Below_call ?_ (by assumption) | refine Below.trans ?_ (by assumption)))))
  (rw [wpSteps]; go_wp2_with ((go_at_call 146; have hbq3 : Below W.heap.size W w3 := (by (repeat (with_reducible first | exact Below.refl _ _ | assumption | refine Below.drewN _ ?_ | refine Below.drew ?_ | refine Below_alloc ?_ _ | refine Below.alloc ?_ (by first | (simp; done) | (simp; omega) | omega) _ | refine Below.setCell ?_ (by first | (simp; done) | (simp; omega) | omega) _ | refine Below_call ?_ (by assumption) | refine Below.trans ?_ (by assumption)))); ((with_reducible refine (HMAX.out _ _ (HI.out _ hbq3)).mono ?_); rintro _ w4 ⟨rfl, hb4⟩); have hbm4 : Below (w.heap.size + 1 + 1) W w4 := hbm3.trans (hb4.mono (by omega)); obtain ⟨g0, g1, fg0, fg1, hgl⟩ := two_cells (((hbq3.trans (hb4.mono hbq3.size)).block (w.heap.size + 1 + 1) hlR).trans R2.out))); rw [contF]; refine ⟨?_, ?_⟩; (next => (repeat (with_reducible first | exact Below.refl _ _ | assumption | refine Below.drewN _ ?_ | refine Below.drew ?_ | refine Below_alloc ?_ _ | refine Below.alloc ?_ (by first | (simp; done) | (simp; omega) | omega) _ | refine Below.setCell ?_ (by first | (simp; done) | (simp; omega) | omega) _ | refine Below_call ?_ (by assumption) | refine Below.trans ?_ (by assumption)))))
  (rw [wpSteps])
  (rw [wpMixC]; simp only [pick, List.drop_succ_cons, List.drop_zero, List.head?_cons, Option.toList_some, List.cons_append, List.nil_append])
  (repeat (first | go_big_quiet_skip | (go_big_quiet_want; refine quiet_simple rfl ?_; go_big_quiet_op; go_big_quiet_on) | (go_big_quiet_want; refine quiet_sl128 rfl rfl ?_; simp only [Act.put, List.setIfInBounds_toArray, List.set_cons_succ, List.set_cons_zero]; go_big_quiet_on)))
  (try refine wpQuiet_nil ?_)
  (rw [wpMixC])
  (rw [wpMix]; simp only [pick, List.drop_succ_cons, List.drop_zero, List.head?_cons, Option.toList_some, List.cons_append, List.nil_append])
  (go_wp2_with ((first | fail)); rw [contF])
  (rw [wpMix])
  (refine hQ' _ _ ?_)
  go_wp2_with fail
  have hbe := fin _ (hbq3.trans (hb4.mono hbq3.size))
  ((try simp only [Exit.inBlock, Exit.then]); refine bodyPost_ret (v := .agg #[.int .i64 tl, .int .i64 th]) ?_ rfl ?_; (next => simp [results, Try.results131, go_sem, hgl, g0, g1]); refine ⟨?_, ?_⟩; (next => rfl); (next => (repeat (with_reducible first | exact Below.refl _ _ | assumption | refine Below.drewN _ ?_ | refine Below.drew ?_ | refine Below_alloc ?_ _ | refine Below.alloc ?_ (by first | (simp; done) | (simp; omega) | omega) _ | refine Below.setCell ?_ (by first | (simp; done) | (simp; omega) | omega) _ | refine Below_call ?_ (by assumption) | refine Below.trans ?_ (by assumption)))))
end Go.Proofs.Ytlmdmpjfehpjeaa

/- Tracks: the squares of the steps of a box, by the program. -/
set_option linter.unusedVariables false
set_option linter.unusedSimpArgs false
namespace Go.Proofs.Ytlmdmpjfehpjeaa
open Go.RowKit

theorem Rg.square_sz {r : Rg} {A C : Int} (h1 : -A ≤ r.lo ∧ r.lo ≤ A) (h2 : -A ≤ r.hi ∧ r.hi ≤ A) (hC : A * A ≤ C) : (0 ≤ r.square.lo ∧ r.square.lo ≤ C) ∧ (0 ≤ r.square.hi ∧ r.square.hi ≤ C) := by
  have g1 := mul_rg h1 h1 hC
  have g2 := mul_rg h2 h2 hC
  have g3 := sq_nn r.lo
  have g4 := sq_nn r.hi
  unfold Rg.square
  split <;> simp only <;> omega
def TMod.canB (m : TMod) (b : TBox) : Bool := decide (m.lo ≤ b.squares.hi) && decide (b.squares.lo ≤ m.hi)
theorem canB_iff {m : TMod} {b : TBox} : m.canB b = true ↔ m.canBe b := by simp [TMod.canB, TMod.canBe]

set_option maxRecDepth 100000 in
set_option maxHeartbeats 8000000 in
theorem track_squares (m : TMod) (b : TBox) (w : World) (hl : b.lo.inS 20 = true) (hh : b.hi.inS 20 = true) :
    Calls Try.prog 93 #[m.v, b.v] w fun e w' => e = .returned (.tuple #[b.squares.v, .bool (m.canB b)]) ∧ Below w.heap.size w w' := by
  obtain ⟨a1, a2, a3⟩ := inS_iff.1 hl
  obtain ⟨b1, b2, b3⟩ := inS_iff.1 hh
  have s1 := Rg.square_sz (r := b.rx) (A := 20) (C := 400) a1 b1 (by decide)
  have s2 := Rg.square_sz (r := b.ry) (A := 20) (C := 400) a2 b2 (by decide)
  have s3 := Rg.square_sz (r := b.rz) (A := 20) (C := 400) a3 b3 (by decide)
  have HQ0 : Hid (∀ W, Calls Try.prog 130 #[b.rx.v] W fun e w' => e = .returned b.rx.square.v ∧ Below W.heap.size W w') := hid (fun W => track_square _ W (by show _ ≤ b.lo.x ∧ b.lo.x ≤ _; omega) (by show _ ≤ b.hi.x ∧ b.hi.x ≤ _; omega))
  have HQ1 : Hid (∀ W, Calls Try.prog 130 #[b.ry.v] W fun e w' => e = .returned b.ry.square.v ∧ Below W.heap.size W w') := hid (fun W => track_square _ W (by show _ ≤ b.lo.y ∧ b.lo.y ≤ _; omega) (by show _ ≤ b.hi.y ∧ b.hi.y ≤ _; omega))
  have HQ2 : Hid (∀ W, Calls Try.prog 130 #[b.rz.v] W fun e w' => e = .returned b.rz.square.v ∧ Below W.heap.size W w') := hid (fun W => track_square _ W (by show _ ≤ b.lo.z ∧ b.lo.z ≤ _; omega) (by show _ ≤ b.hi.z ∧ b.hi.z ≤ _; omega))
  have HS : Hid (b.squares = (((⟨0, 0⟩ : Rg).plus b.rx.square).plus b.ry.square).plus b.rz.square) := hid rfl
  have HCB : Hid (m.canB b = (decide (m.lo ≤ b.squares.hi) && decide (b.squares.lo ≤ m.hi))) := hid rfl
  generalize b.squares = P3 at HS HCB ⊢
  generalize m.canB b = CB at HCB ⊢
  have HP0 : Hid (∀ W, Calls Try.prog 129 #[(⟨0, 0⟩ : Rg).v, b.rx.square.v] W fun e w' => e = .returned ((⟨0, 0⟩ : Rg).plus b.rx.square).v ∧ Below W.heap.size W w') := hid (fun W => track_plus _ _ W (by simp only; omega) (by simp only; omega) (by omega) (by omega))
  have t1 : (0 ≤ ((⟨0, 0⟩ : Rg).plus b.rx.square).lo ∧ ((⟨0, 0⟩ : Rg).plus b.rx.square).lo ≤ 400) ∧ (0 ≤ ((⟨0, 0⟩ : Rg).plus b.rx.square).hi ∧ ((⟨0, 0⟩ : Rg).plus b.rx.square).hi ≤ 400) := by unfold Rg.plus; simp only; omega
  generalize (⟨0, 0⟩ : Rg).plus b.rx.square = P1 at HS HP0 t1
  have HP1 : Hid (∀ W, Calls Try.prog 129 #[P1.v, b.ry.square.v] W fun e w' => e = .returned (P1.plus b.ry.square).v ∧ Below W.heap.size W w') := hid (fun W => track_plus _ _ W (by omega) (by omega) (by omega) (by omega))
  have t2 : (0 ≤ (P1.plus b.ry.square).lo ∧ (P1.plus b.ry.square).lo ≤ 800) ∧ (0 ≤ (P1.plus b.ry.square).hi ∧ (P1.plus b.ry.square).hi ≤ 800) := by unfold Rg.plus; simp only; omega
  generalize P1.plus b.ry.square = P2 at HS HP1 t2
  have HP2 : Hid (∀ W, Calls Try.prog 129 #[P2.v, b.rz.square.v] W fun e w' => e = .returned P3.v ∧ Below W.heap.size W w') := hid (fun W => by rw [HS.out]; exact track_plus _ _ W (by omega) (by omega) (by omega) (by omega))
  clear HS
  generalize b.rx.square = Q0 at HQ0 HP0
  generalize b.ry.square = Q1 at HQ1 HP1
  generalize b.rz.square = Q2 at HQ2 HP2
  simp only [TBox.rx, TBox.ry, TBox.rz] at HQ0 HQ1 HQ2
  clear s1 s2 s3 t1 t2 a1 a2 a3 b1 b2 b3 hl hh
  obtain ⟨px, py, pz, tm, tk, lo, hi, li, ea, la, no, mi⟩ := m
  obtain ⟨⟨lx, ly, lz⟩, ⟨hx, hy, hz⟩⟩ := b
  obtain ⟨q0l, q0h⟩ := Q0
  obtain ⟨q1l, q1h⟩ := Q1
  obtain ⟨q2l, q2h⟩ := Q2
  obtain ⟨p1l, p1h⟩ := P1
  obtain ⟨p2l, p2h⟩ := P2
  obtain ⟨p3l, p3h⟩ := P3
  unfold TMod.v TBox.v Rg.v at *
  simp only at *
  obtain ⟨W0, hW0⟩ : ∃ W0, W0 = (((w.alloc (.cells #[.int .i64 px, .int .i64 py, .int .i64 pz, .int .i64 tm, .int .i64 tk, .int .i64 lo, .int .i64 hi, .int .i64 li, .int .i64 ea, .int .i64 la, .int .i64 no, .int .i64 mi] 134)).alloc (.cells #[.int .i64 lx, .int .i64 ly, .int .i64 lz, .int .i64 hx, .int .i64 hy, .int .i64 hz] 75)).alloc (.cells #[.int .i64 0, .int .i64 0] 157)).alloc (.cells #[.int .i64 0, .int .i64 0] 157) := ⟨_, rfl⟩
  have hbW0 : Below w.heap.size w W0 := by rw [hW0]; (repeat (with_reducible first | exact Below.refl _ _ | assumption | refine Below.drewN _ ?_ | refine Below.drew ?_ | refine Below_alloc ?_ _ | refine Below.alloc ?_ (by first | (simp; done) | (simp; omega) | omega) _ | refine Below.setCell ?_ (by first | (simp; done) | (simp; omega) | omega) _ | refine Below_call ?_ (by assumption) | refine Below.trans ?_ (by assumption)))
  obtain ⟨hz0, q0, q1, q2, q3⟩ := al4 w _ _ _ _ _ _ _ _ W0 hW0
  have H0 := hid q0
  have H1 := hid q1
  have H2 := hid q2
  have H3 := hid q3
  clear q0 q1 q2 q3
  go_enter Try.func93, Try.ntmps93
  go_wp2_with fail
  rw [← hW0]
  clear hW0
  go_loopw [8] (fun i wr => ∃ (k : Nat) (rl rh : Int), k ≤ 3 ∧ i = .int .i64 k ∧ Hid (wr.heap[w.heap.size + 1 + 1 + 1]? = some (.cells #[.int .i64 rl, .int .i64 rh] 157 (0, 0))) ∧ Hid ((k = 0 → rl = 0 ∧ rh = 0) ∧ (k = 1 → rl = p1l ∧ rh = p1h) ∧ (k = 2 → rl = p2l ∧ rh = p2h) ∧ (k = 3 → rl = p3l ∧ rh = p3h)) ∧ Below (w.heap.size + 1 + 1 + 1) W0 wr) (fun i _ => 3 - (intOf i).toNat)
  case atStart => exact ⟨0, 0, 0, by omega, rfl, H3, hid ⟨fun _ => ⟨rfl, rfl⟩, by omega, by omega, by omega⟩, Below.refl _ _⟩
  case round =>
    obtain ⟨k, rl, rh, hk, rfl, HR, HO, hbel⟩ := hrel
    have hzr := hbel.size
    obtain ⟨c0, c1, c2, c3, c4, c5, hlc⟩ := six_row ((hbel.block (w.heap.size + 1) (by omega)).trans H1.out)
    have hro := HR.out
    obtain ⟨s0, s1, fs0, fs1, hls⟩ := two_cells hro
    have R0 := hid ((hbel.block w.heap.size (by omega)).trans H0.out)
    have R2 := hid ((hbel.block (w.heap.size + 1 + 1) (by omega)).trans H2.out)
    have hbx : Below w.heap.size w wr := hbW0.trans (hbel.mono (by omega))
    have HBX := hid hbx
    clear hbx
    rcases (by omega : k = 0 ∨ k = 1 ∨ k = 2 ∨ k = 3) with rfl | rfl | rfl | rfl
    · obtain ⟨rfl, rfl⟩ := HO.out.1 rfl
      go_wp2_with fail
      refine wp_mixC (KeepB [w.heap.size + 1, w.heap.size + 1 + 1 + 1] wr) 12 [.q [0, 1, 2, 3, 4, 5, 6, 7, 8, 9], .f [10, 11]] [.f [12]] (by kernel_rfl) (by kernel_rfl) ((KeepB.refl (by first | (simp; done) | (simp; omega))).drew) ?_
      intro Q' hQ'
      (rw [wpMixC]; simp only [pick, List.drop_succ_cons, List.drop_zero, List.head?_cons, Option.toList_some, List.cons_append, List.nil_append])
      (repeat (first | go_big_quiet_skip | (go_big_quiet_want; refine quiet_simple rfl ?_; go_big_quiet_op; go_big_quiet_on) | (go_big_quiet_want; refine quiet_cellK (ty := 3) rfl rfl (by kernel_rfl) (by assumption) (by simp) ?_; simp only [Act.put, List.setIfInBounds_toArray, List.set_cons_succ, List.set_cons_zero]; go_big_quiet_on) | (go_big_quiet_want; refine quiet_agg2K (ty := 157) rfl rfl (by kernel_rfl) (by assumption) (by assumption) (by simp) ?_; simp only [Act.put, List.setIfInBounds_toArray, List.set_cons_succ, List.set_cons_zero]; go_big_quiet_on)))
      (try refine wpQuiet_nil ?_)
      (rw [wpMixC]; simp only [pick, List.drop_succ_cons, List.drop_zero, List.head?_cons, Option.toList_some, List.cons_append, List.nil_append])
      (rw [wpSteps]; go_wp2_with ((go_at_call 130; ((with_reducible refine (HQ0.out _).mono ?_); rintro _ w2 ⟨rfl, hb2⟩))); rw [contF]; refine ⟨?_, ?_⟩; (next => (repeat (with_reducible first | assumption | exact KeepB.refl (by first | (simp; done) | (simp; omega)) | refine KeepB.drew ?_ | refine KeepB.alloc ?_ _ | refine KeepB.setCell ?_ (by first | (simp; done) | (simp; omega)) | refine KeepB.below ?_ (by assumption)))))
      (rw [wpSteps]; go_wp2_with ((go_at_call 129; ((with_reducible refine (HP0.out _).mono ?_); rintro _ w3 ⟨rfl, hb3⟩); have hb13 : Below wr.heap.size wr w3 := (by (repeat (with_reducible first | exact Below.refl _ _ | assumption | refine Below.drewN _ ?_ | refine Below.drew ?_ | refine Below_alloc ?_ _ | refine Below.alloc ?_ (by first | (simp; done) | (simp; omega) | omega) _ | refine Below.setCell ?_ (by first | (simp; done) | (simp; omega) | omega) _ | refine Below_call ?_ (by assumption) | refine Below.trans ?_ (by assumption)))); have HB13 := hid hb13; have HR3 := hid ((hb13.block (w.heap.size + 1 + 1 + 1) hls).trans HR.out); obtain ⟨s0, s1, fs0, fs1, hls⟩ := two_cells HR3.out)); rw [contF]; refine ⟨?_, ?_⟩; (next => (repeat (with_reducible first | assumption | exact KeepB.refl (by first | (simp; done) | (simp; omega)) | refine KeepB.drew ?_ | refine KeepB.alloc ?_ _ | refine KeepB.setCell ?_ (by first | (simp; done) | (simp; omega)) | refine KeepB.below ?_ (by assumption)))))
      (rw [wpSteps])
      (rw [wpMixC])
      (rw [wpMix]; simp only [pick, List.drop_succ_cons, List.drop_zero, List.head?_cons, Option.toList_some, List.cons_append, List.nil_append])
      (go_wp2_with ((first | fail)); rw [contF])
      (rw [wpMix])
      (refine hQ' _ _ ?_)
      go_wp2_with fail
      go_roundw
      case rel => exact ⟨1, p1l, p1h, by omega, by go_num, hid (two_set HR3.out), hid ⟨by omega, fun _ => ⟨rfl, rfl⟩, by omega, by omega⟩, (hbel.trans (HB13.out.mono (by omega))).trans (((Below.refl _ _).setCell (by simp) _).setCell (by simp) _)⟩
      case measure => simp [intOf]
    · obtain ⟨rfl, rfl⟩ := HO.out.2.1 rfl
      go_wp2_with fail
      refine wp_mixC (KeepB [w.heap.size + 1, w.heap.size + 1 + 1 + 1] wr) 12 [.q [0, 1, 2, 3, 4, 5, 6, 7, 8, 9], .f [10, 11]] [.f [12]] (by kernel_rfl) (by kernel_rfl) ((KeepB.refl (by first | (simp; done) | (simp; omega))).drew) ?_
      intro Q' hQ'
      (rw [wpMixC]; simp only [pick, List.drop_succ_cons, List.drop_zero, List.head?_cons, Option.toList_some, List.cons_append, List.nil_append])
      (repeat (first | go_big_quiet_skip | (go_big_quiet_want; refine quiet_simple rfl ?_; go_big_quiet_op; go_big_quiet_on) | (go_big_quiet_want; refine quiet_cellK (ty := 3) rfl rfl (by kernel_rfl) (by assumption) (by simp) ?_; simp only [Act.put, List.setIfInBounds_toArray, List.set_cons_succ, List.set_cons_zero]; go_big_quiet_on) | (go_big_quiet_want; refine quiet_agg2K (ty := 157) rfl rfl (by kernel_rfl) (by assumption) (by assumption) (by simp) ?_; simp only [Act.put, List.setIfInBounds_toArray, List.set_cons_succ, List.set_cons_zero]; go_big_quiet_on)))
      (try refine wpQuiet_nil ?_)
      (rw [wpMixC]; simp only [pick, List.drop_succ_cons, List.drop_zero, List.head?_cons, Option.toList_some, List.cons_append, List.nil_append])
      (rw [wpSteps]; go_wp2_with ((go_at_call 130; ((with_reducible refine (HQ1.out _).mono ?_); rintro _ w2 ⟨rfl, hb2⟩))); rw [contF]; refine ⟨?_, ?_⟩; (next => (repeat (with_reducible first | assumption | exact KeepB.refl (by first | (simp; done) | (simp; omega)) | refine KeepB.drew ?_ | refine KeepB.alloc ?_ _ | refine KeepB.setCell ?_ (by first | (simp; done) | (simp; omega)) | refine KeepB.below ?_ (by assumption)))))
      (rw [wpSteps]; go_wp2_with ((go_at_call 129; ((with_reducible refine (HP1.out _).mono ?_); rintro _ w3 ⟨rfl, hb3⟩); have hb13 : Below wr.heap.size wr w3 := (by (repeat (with_reducible first | exact Below.refl _ _ | assumption | refine Below.drewN _ ?_ | refine Below.drew ?_ | refine Below_alloc ?_ _ | refine Below.alloc ?_ (by first | (simp; done) | (simp; omega) | omega) _ | refine Below.setCell ?_ (by first | (simp; done) | (simp; omega) | omega) _ | refine Below_call ?_ (by assumption) | refine Below.trans ?_ (by assumption)))); have HB13 := hid hb13; have HR3 := hid ((hb13.block (w.heap.size + 1 + 1 + 1) hls).trans HR.out); obtain ⟨s0, s1, fs0, fs1, hls⟩ := two_cells HR3.out)); rw [contF]; refine ⟨?_, ?_⟩; (next => (repeat (with_reducible first | assumption | exact KeepB.refl (by first | (simp; done) | (simp; omega)) | refine KeepB.drew ?_ | refine KeepB.alloc ?_ _ | refine KeepB.setCell ?_ (by first | (simp; done) | (simp; omega)) | refine KeepB.below ?_ (by assumption)))))
      (rw [wpSteps])
      (rw [wpMixC])
      (rw [wpMix]; simp only [pick, List.drop_succ_cons, List.drop_zero, List.head?_cons, Option.toList_some, List.cons_append, List.nil_append])
      (go_wp2_with ((first | fail)); rw [contF])
      (rw [wpMix])
      (refine hQ' _ _ ?_)
      go_wp2_with fail
      go_roundw
      case rel => exact ⟨2, p2l, p2h, by omega, by go_num, hid (two_set HR3.out), hid ⟨by omega, by omega, fun _ => ⟨rfl, rfl⟩, by omega⟩, (hbel.trans (HB13.out.mono (by omega))).trans (((Below.refl _ _).setCell (by simp) _).setCell (by simp) _)⟩
      case measure => simp [intOf]
    · obtain ⟨rfl, rfl⟩ := HO.out.2.2.1 rfl
      go_wp2_with fail
      refine wp_mixC (KeepB [w.heap.size + 1, w.heap.size + 1 + 1 + 1] wr) 12 [.q [0, 1, 2, 3, 4, 5, 6, 7, 8, 9], .f [10, 11]] [.f [12]] (by kernel_rfl) (by kernel_rfl) ((KeepB.refl (by first | (simp; done) | (simp; omega))).drew) ?_
      intro Q' hQ'
      (rw [wpMixC]; simp only [pick, List.drop_succ_cons, List.drop_zero, List.head?_cons, Option.toList_some, List.cons_append, List.nil_append])
      (repeat (first | go_big_quiet_skip | (go_big_quiet_want; refine quiet_simple rfl ?_; go_big_quiet_op; go_big_quiet_on) | (go_big_quiet_want; refine quiet_cellK (ty := 3) rfl rfl (by kernel_rfl) (by assumption) (by simp) ?_; simp only [Act.put, List.setIfInBounds_toArray, List.set_cons_succ, List.set_cons_zero]; go_big_quiet_on) | (go_big_quiet_want; refine quiet_agg2K (ty := 157) rfl rfl (by kernel_rfl) (by assumption) (by assumption) (by simp) ?_; simp only [Act.put, List.setIfInBounds_toArray, List.set_cons_succ, List.set_cons_zero]; go_big_quiet_on)))
      (try refine wpQuiet_nil ?_)
      (rw [wpMixC]; simp only [pick, List.drop_succ_cons, List.drop_zero, List.head?_cons, Option.toList_some, List.cons_append, List.nil_append])
      (rw [wpSteps]; go_wp2_with ((go_at_call 130; ((with_reducible refine (HQ2.out _).mono ?_); rintro _ w2 ⟨rfl, hb2⟩))); rw [contF]; refine ⟨?_, ?_⟩; (next => (repeat (with_reducible first | assumption | exact KeepB.refl (by first | (simp; done) | (simp; omega)) | refine KeepB.drew ?_ | refine KeepB.alloc ?_ _ | refine KeepB.setCell ?_ (by first | (simp; done) | (simp; omega)) | refine KeepB.below ?_ (by assumption)))))
      (rw [wpSteps]; go_wp2_with ((go_at_call 129; ((with_reducible refine (HP2.out _).mono ?_); rintro _ w3 ⟨rfl, hb3⟩); have hb13 : Below wr.heap.size wr w3 := (by (repeat (with_reducible first | exact Below.refl _ _ | assumption | refine Below.drewN _ ?_ | refine Below.drew ?_ | refine Below_alloc ?_ _ | refine Below.alloc ?_ (by first | (simp; done) | (simp; omega) | omega) _ | refine Below.setCell ?_ (by first | (simp; done) | (simp; omega) | omega) _ | refine Below_call ?_ (by assumption) | refine Below.trans ?_ (by assumption)))); have HB13 := hid hb13; have HR3 := hid ((hb13.block (w.heap.size + 1 + 1 + 1) hls).trans HR.out); obtain ⟨s0, s1, fs0, fs1, hls⟩ := two_cells HR3.out)); rw [contF]; refine ⟨?_, ?_⟩; (next => (repeat (with_reducible first | assumption | exact KeepB.refl (by first | (simp; done) | (simp; omega)) | refine KeepB.drew ?_ | refine KeepB.alloc ?_ _ | refine KeepB.setCell ?_ (by first | (simp; done) | (simp; omega)) | refine KeepB.below ?_ (by assumption)))))
      (rw [wpSteps])
      (rw [wpMixC])
      (rw [wpMix]; simp only [pick, List.drop_succ_cons, List.drop_zero, List.head?_cons, Option.toList_some, List.cons_append, List.nil_append])
      (go_wp2_with ((first | fail)); rw [contF])
      (rw [wpMix])
      (refine hQ' _ _ ?_)
      go_wp2_with fail
      go_roundw
      case rel => exact ⟨3, p3l, p3h, by omega, by go_num, hid (two_set HR3.out), hid ⟨by omega, by omega, by omega, fun _ => ⟨rfl, rfl⟩⟩, (hbel.trans (HB13.out.mono (by omega))).trans (((Below.refl _ _).setCell (by simp) _).setCell (by simp) _)⟩
      case measure => simp [intOf]
    · obtain ⟨rfl, rfl⟩ := HO.out.2.2.2 rfl
      obtain ⟨m0, m1, m2, m3, m4, m5, m6, m7, m8, m9, m10, m11, ml⟩ := tw_cells (R0.out)
      obtain ⟨g0, g1, fg0, fg1, hlg⟩ := two_cells R2.out
      have hbx := HBX.out
      clear fs0 fs1 hro
      by_cases e1 : lo ≤ rh
      · have e1' : decide (lo ≤ rh) = true := decide_eq_true e1
        have HV : Hid (CB = decide (rl ≤ hi)) := hid (by rw [HCB.out, e1']; rfl)
        go_wp2_with fail
        refine wp_mixC (KeepB [w.heap.size, w.heap.size + 1 + 1 + 1] wr) 18 [.q [0, 1, 2, 3, 4, 5, 6, 7, 8, 9, 10, 11, 12, 13, 14, 15, 16], .f [17]] [.q [18]] (by kernel_rfl) (by kernel_rfl) ((KeepB.refl (by first | (simp; done) | (simp; omega))).drew) ?_
        intro Q' hQ'
        (rw [wpMixC]; simp only [pick, List.drop_succ_cons, List.drop_zero, List.head?_cons, Option.toList_some, List.cons_append, List.nil_append])
        (repeat (first | go_big_quiet_skip | (go_big_quiet_want; refine quiet_simple rfl ?_; go_big_quiet_op; go_big_quiet_on) | (go_big_quiet_want; refine quiet_cellK (ty := 3) rfl rfl (by kernel_rfl) (by assumption) (by simp) ?_; simp only [Act.put, List.setIfInBounds_toArray, List.set_cons_succ, List.set_cons_zero]; go_big_quiet_on) | (go_big_quiet_want; refine quiet_agg2K (ty := 157) rfl rfl (by kernel_rfl) (by assumption) (by assumption) (by simp) ?_; simp only [Act.put, List.setIfInBounds_toArray, List.set_cons_succ, List.set_cons_zero]; go_big_quiet_on)))
        (try refine wpQuiet_nil ?_)
        (rw [wpMixC]; simp only [pick, List.drop_succ_cons, List.drop_zero, List.head?_cons, Option.toList_some, List.cons_append, List.nil_append])
        (rw [wpSteps]; go_wp2_with (fail); rw [contF]; refine ⟨?_, ?_⟩; (next => (repeat (with_reducible first | assumption | exact KeepB.refl (by first | (simp; done) | (simp; omega)) | refine KeepB.drew ?_ | refine KeepB.alloc ?_ _ | refine KeepB.setCell ?_ (by first | (simp; done) | (simp; omega)) | refine KeepB.below ?_ (by assumption)))))
        (rw [wpSteps])
        (rw [wpMixC])
        (rw [wpMix]; simp only [pick, List.drop_succ_cons, List.drop_zero, List.head?_cons, Option.toList_some, List.cons_append, List.nil_append])
        (repeat (first | (go_big_quiet_step (fail)) | (quiet_step (fail))))
        (try refine wpQuiet_nil ?_)
        (rw [wpMix])
        (refine hQ' _ _ ?_)
        go_wp2_with fail
        ((try simp only [Exit.inBlock, Exit.then]); refine bodyPost_ret (v := .tuple #[.agg #[.int .i64 rl, .int .i64 rh], .bool (decide (rl ≤ hi))]) ?_ rfl ?_; (next => simp [results, Try.results93, go_sem, hlg, g0, g1]))
        exact ⟨by rw [HV.out], by (repeat (with_reducible first | exact Below.refl _ _ | assumption | refine Below.drewN _ ?_ | refine Below.drew ?_ | refine Below_alloc ?_ _ | refine Below.alloc ?_ (by first | (simp; done) | (simp; omega) | omega) _ | refine Below.setCell ?_ (by first | (simp; done) | (simp; omega) | omega) _ | refine Below_call ?_ (by assumption) | refine Below.trans ?_ (by assumption)))⟩
      · have e1' : decide (lo ≤ rh) = false := decide_eq_false e1
        have HV : Hid (CB = false) := hid (by rw [HCB.out, e1']; rfl)
        go_wp2_with fail
        refine wp_mixC (KeepB [w.heap.size, w.heap.size + 1 + 1 + 1] wr) 18 [.q [0, 1, 2, 3, 4, 5, 6, 7, 8, 9, 10, 11, 12, 13, 14, 15, 16], .f [17]] [.q [18]] (by kernel_rfl) (by kernel_rfl) ((KeepB.refl (by first | (simp; done) | (simp; omega))).drew) ?_
        intro Q' hQ'
        (rw [wpMixC]; simp only [pick, List.drop_succ_cons, List.drop_zero, List.head?_cons, Option.toList_some, List.cons_append, List.nil_append])
        (repeat (first | go_big_quiet_skip | (go_big_quiet_want; refine quiet_simple rfl ?_; go_big_quiet_op; go_big_quiet_on) | (go_big_quiet_want; refine quiet_cellK (ty := 3) rfl rfl (by kernel_rfl) (by assumption) (by simp) ?_; simp only [Act.put, List.setIfInBounds_toArray, List.set_cons_succ, List.set_cons_zero]; go_big_quiet_on) | (go_big_quiet_want; refine quiet_agg2K (ty := 157) rfl rfl (by kernel_rfl) (by assumption) (by assumption) (by simp) ?_; simp only [Act.put, List.setIfInBounds_toArray, List.set_cons_succ, List.set_cons_zero]; go_big_quiet_on)))
        (try refine wpQuiet_nil ?_)
        (rw [wpMixC]; simp only [pick, List.drop_succ_cons, List.drop_zero, List.head?_cons, Option.toList_some, List.cons_append, List.nil_append])
        (rw [wpSteps]; go_wp2_with (fail); rw [contF]; refine ⟨?_, ?_⟩; (next => (repeat (with_reducible first | assumption | exact KeepB.refl (by first | (simp; done) | (simp; omega)) | refine KeepB.drew ?_ | refine KeepB.alloc ?_ _ | refine KeepB.setCell ?_ (by first | (simp; done) | (simp; omega)) | refine KeepB.below ?_ (by assumption)))))
        (rw [wpSteps])
        (rw [wpMixC])
        (rw [wpMix]; simp only [pick, List.drop_succ_cons, List.drop_zero, List.head?_cons, Option.toList_some, List.cons_append, List.nil_append])
        (repeat (first | (go_big_quiet_step (fail)) | (quiet_step (fail))))
        (try refine wpQuiet_nil ?_)
        (rw [wpMix])
        (refine hQ' _ _ ?_)
        go_wp2_with fail
        ((try simp only [Exit.inBlock, Exit.then]); refine bodyPost_ret (v := .tuple #[.agg #[.int .i64 rl, .int .i64 rh], .bool false]) ?_ rfl ?_; (next => simp [results, Try.results93, go_sem, hlg, g0, g1]))
        exact ⟨by rw [HV.out], by (repeat (with_reducible first | exact Below.refl _ _ | assumption | refine Below.drewN _ ?_ | refine Below.drew ?_ | refine Below_alloc ?_ _ | refine Below.alloc ?_ (by first | (simp; done) | (simp; omega) | omega) _ | refine Below.setCell ?_ (by first | (simp; done) | (simp; omega) | omega) _ | refine Below_call ?_ (by assumption) | refine Below.trans ?_ (by assumption)))⟩
end Go.Proofs.Ytlmdmpjfehpjeaa

/- A region with an operation that may come anywhere among the calls, and further ones behind it. -/
set_option linter.unusedVariables false
set_option linter.unusedSimpArgs false
namespace Go.Proofs.Ytlmdmpjfehpjeaa
open Go.RowKit

section
variable {P : Program} {md : Region.Mode} {ops : Array Oper} {Q : Exit → Act → World → Prop} {C : World → Prop}
def mixgB (l : List Oper) (n1 : Nat) (qs ks : List Nat) (j : Nat) (s1 s2 : List Stp) (Z : Array Bool) : Bool :=
  Region.noSelect l.toArray && phaseB .any l.toArray n1 && decide (qs.length + (ks.length + 1) + lenS s1 + lenS s2 = l.length) && qcB .any l.toArray n1 qs (Array.replicate l.length false) && fltB .any l.toArray j Z ks (runSet (Array.replicate l.length false) qs) && mixcB .any l.toArray n1 s2 s1 Z
/-- reads first, then operations in their order with one that may come anywhere among them, then more of them, then the tail. -/
theorem wp_mixG (C : World → Prop) {id : Nat} {a : Act} {w : World} {l : List Oper} (n1 : Nat) (qs ks : List Nat) (j : Nat) (s1 s2 : List Stp) (Z : Array Bool) (hm : P.follows .mixedOrders = true) (hB : mixgB l n1 qs ks j s1 s2 Z = true) (hC : C w.drew)
    (h : ∀ Q' : Exit → Act → World → Prop, (∀ a w, Q .normal a w → Q' .normal a w) → wpQuiet P l.toArray C (fun a' => wpFlt P l.toArray C (fun a'' w'' => wpMixC P l C Q' s2 s1 a'' w'') (pick l [j]) (pick l ks) a' w.drew) (pick l qs) a) :
    (Code.region id l.toArray true).wp P Q a w := by
  simp only [mixgB, Bool.and_eq_true, decide_eq_true_eq] at hB
  obtain ⟨⟨⟨⟨⟨hsel, hp⟩, hlen⟩, hq⟩, hf⟩, hB⟩ := hB
  refine Code.wp_mono (Q := noPan Q) (fun e a w hq => by cases e <;> first | exact hq | exact (hq : False).elim) ?_
  refine wp_region_any hm ?_
  have hQ : ∀ c a a' w, noPan Q (.panic c) a w → noPan Q (.panic c) a' w := fun c a a' w hq => hq
  have h1 := wpAnyC_q (C := C) hp hQ hsel (m := lenS s2) (n := ks.length + 1 + lenS s1) (X := fun a' _ => wpFlt P l.toArray C (fun a'' w'' => wpMixC P l C (noPan Q) s2 s1 a'' w'') (pick l [j]) (pick l ks) a' w.drew) qs (Array.replicate l.length false) a w.drew hC hq
    (fun a' hx => wpAnyC_flt (n := lenS s1) (Z := Z) (fun a'' w'' hC'' h'' => wpAnyC_mix (md := .any) hp hQ hsel s1 Z a'' w'' hC'' hB h'') ks _ a' w.drew hC hf hx)
    (h (noPan Q) fun _ _ h => h)
  have := wpAny_of_C (C := C) _ _ _ _ h1
  rw [show qs.length + (ks.length + 1 + lenS s1) + lenS s2 = l.toArray.size from by simp; omega] at this
  simpa using this
end
end Go.Proofs.Ytlmdmpjfehpjeaa

/- A region with an operation that may come anywhere among calls, between which there are others that only reckon. -/
set_option linter.unusedVariables false
set_option linter.unusedSimpArgs false
namespace Go.Proofs.Ytlmdmpjfehpjeaa
open Go.RowKit

theorem quiet_min {P : Program} {o : Oper} {a : Act} {C : World → Prop} {K : Act → Prop} {x y : Operand} {ts : Array TypeId} {m n r : Int} (ho : o.op = .call { callee := .builtin .min, args := #[x, y], argTypes := ts }) (hx : a.eval x = .int .i64 m) (hy : a.eval y = .int .i64 n)
    (hr : min m n = r) (hK : K (a.put o.dst (.int .i64 r))) : o.quiet P a C K :=
  quiet_val _ (fun w _ => by
    subst hr
    unfold execOp
    simp only [ho, resolve, invoke, builtin, Sem.run_bind, Sem.run_pure, Result.andThen_ok, List.map_toArray, List.map_cons, List.map_nil, hx, hy]
    simp [Builtin.min_, Builtin.min2, go_sem, Int.min_def]
    try (split <;> simp_all <;> omega)) hK
section
variable {P : Program} {md : Region.Mode} {ops : Array Oper} {Q : Exit → Act → World → Prop} {C : World → Prop}
def flat7 : List (Nat × List Nat) → List Stp
  | [] => []
  | (k, qs) :: rest => .f [k] :: .q qs :: flat7 rest
theorem lenS_append : ∀ (s t : List Stp), lenS (s ++ t) = lenS s + lenS t := by
  intro s
  induction s with
  | nil => intro t; simp [lenS]
  | cons x s ih =>
    intro t
    cases x <;> simp only [List.cons_append, lenS, ih] <;> omega
/-- calls in their order, each with what is reckoned behind it, and one operation beside them that may come anywhere. -/
def wpFl (P : Program) (l : List Oper) (C : World → Prop) (Q : Exit → Act → World → Prop) (s2 s1 : List Stp) (j : Nat) : List (Nat × List Nat) → Act → World → Prop
  | [], a, w => wpSteps P l.toArray C (fun a' w' => wpMixC P l C Q s2 s1 a' w') (pick l [j]) a w
  | (k, qs) :: rest, a, w => wpSteps P l.toArray C (fun a' w' => wpQuiet P l.toArray C (fun a'' => wpFl P l C Q s2 s1 j rest a'' w') (pick l qs) a') (pick l [k]) a w ∧ wpSteps P l.toArray C (fun a' w' => wpMixC P l C Q s2 (flat7 ((k, qs) :: rest) ++ s1) a' w') (pick l [j]) a w
def flB7 (md : Region.Mode) (ops : Array Oper) (n1 : Nat) (s2 s1 : List Stp) (j : Nat) : List (Nat × List Nat) → Array Bool → Bool
  | [], L => fB md ops [j] L && mixcB md ops n1 s2 s1 (runSet L [j])
  | (k, qs) :: rest, L => decide (Region.ready md ops L = [k, j]) && (ops[k]?).isSome && (ops[j]?).isSome && mixcB md ops n1 s2 (flat7 ((k, qs) :: rest) ++ s1) (runSet L [j]) && qcB md ops n1 qs (runSet L [k]) && flB7 md ops n1 s2 s1 j rest (runSet (runSet L [k]) qs)
theorem wpAnyC_fl {l : List Oper} {n1 j : Nat} {s2 s1 : List Stp} (hp : phaseB md l.toArray n1 = true) (hQ : ∀ c a a' w, Q (.panic c) a w → Q (.panic c) a' w) (hsel : Region.noSelect l.toArray = true) :
    ∀ (ks : List (Nat × List Nat)) (L : Array Bool) (a : Act) (w : World), C w → flB7 md l.toArray n1 s2 s1 j ks L = true → wpFl P l C Q s2 s1 j ks a w →
      wpAnyC P md l.toArray C Q n1 (lenS s2) (lenS (flat7 ks) + 1 + lenS s1) L a w := by
  intro ks
  induction ks with
  | nil =>
    intro L a w hC hB h
    simp only [flB7, Bool.and_eq_true] at hB
    have := wpAnyC_f (P := P) (Q := Q) (n1 := n1) (m := lenS s2) (n := lenS s1) (X := fun a' w' => wpMixC P l C Q s2 s1 a' w') [j] L a w hC hB.1 (fun a' w' hC' h' => wpAnyC_mix hp hQ hsel s1 _ a' w' hC' hB.2 h') h
    simpa [flat7, lenS] using this
  | cons kq ks ih =>
    obtain ⟨k, qs⟩ := kq
    intro L a w hC hB h
    simp only [flB7, Bool.and_eq_true, decide_eq_true_eq] at hB
    obtain ⟨⟨⟨⟨⟨hr, hk⟩, hj⟩, hm⟩, hq⟩, hB'⟩ := hB
    obtain ⟨ok, hok⟩ := Option.isSome_iff_exists.1 hk
    obtain ⟨oj, hoj⟩ := Option.isSome_iff_exists.1 hj
    have hok' : l[k]? = some ok := by simpa using hok
    have hoj' : l[j]? = some oj := by simpa using hoj
    obtain ⟨ha, hb⟩ := h
    rw [show lenS (flat7 ((k, qs) :: ks)) + 1 + lenS s1 = (qs.length + (lenS (flat7 ks) + 1 + lenS s1)) + 1 from by simp only [flat7, lenS, List.length_cons, List.length_nil]; omega]
    refine ⟨fun h1 => (by rw [hr] at h1; cases h1), fun i hi => ?_⟩
    rw [hr] at hi
    rcases (by simpa using hi : i = k ∨ i = j) with rfl | rfl
    · rw [pick_cons hok', wpSteps] at ha
      have hw : wpOp P l.toArray (contF fun a' w' => C w' ∧ wpSteps P l.toArray C (fun a' w' => wpQuiet P l.toArray C (fun a'' => wpFl P l C Q s2 s1 j ks a'' w') (pick l qs) a') (pick l []) a' w') i (fun a' w' => C w' ∧ wpSteps P l.toArray C (fun a' w' => wpQuiet P l.toArray C (fun a'' => wpFl P l C Q s2 s1 j ks a'' w') (pick l qs) a') (pick l []) a' w') a w := by
        unfold wpOp; simp only [hok]; exact ha
      refine wpOp_mono (fun a' w' h' => ⟨h'.1, ?_⟩) (wpOp_F hw)
      have h2 := h'.2
      rw [show pick l [] = [] from rfl, wpSteps] at h2
      exact wpAnyC_q (C := C) hp hQ hsel (m := lenS s2) (n := lenS (flat7 ks) + 1 + lenS s1) (X := fun a'' _ => wpFl P l C Q s2 s1 j ks a'' w') qs _ a' w' h'.1 hq (fun a'' hx => ih _ a'' w' h'.1 hB' hx) h2
    · rw [pick_cons hoj', wpSteps] at hb
      have hw : wpOp P l.toArray (contF fun a' w' => C w' ∧ wpSteps P l.toArray C (fun a' w' => wpMixC P l C Q s2 (flat7 ((k, qs) :: ks) ++ s1) a' w') (pick l []) a' w') i (fun a' w' => C w' ∧ wpSteps P l.toArray C (fun a' w' => wpMixC P l C Q s2 (flat7 ((k, qs) :: ks) ++ s1) a' w') (pick l []) a' w') a w := by
        unfold wpOp; simp only [hoj]; exact hb
      refine wpOp_mono (fun a' w' h' => ⟨h'.1, ?_⟩) (wpOp_F hw)
      have h2 := h'.2
      rw [show pick l [] = [] from rfl, wpSteps] at h2
      have h3 := wpAnyC_mix hp hQ hsel (flat7 ((k, qs) :: ks) ++ s1) _ a' w' h'.1 hm h2
      rw [lenS_append, show lenS (flat7 ((k, qs) :: ks)) + lenS s1 = qs.length + (lenS (flat7 ks) + 1 + lenS s1) from by simp only [flat7, lenS, List.length_cons, List.length_nil]; omega] at h3
      exact h3
def mixhB (l : List Oper) (n1 : Nat) (qs : List Nat) (ks : List (Nat × List Nat)) (j : Nat) (s1 s2 : List Stp) : Bool :=
  Region.noSelect l.toArray && phaseB .any l.toArray n1 && decide (qs.length + (lenS (flat7 ks) + 1 + lenS s1) + lenS s2 = l.length) && qcB .any l.toArray n1 qs (Array.replicate l.length false) && flB7 .any l.toArray n1 s2 s1 j ks (runSet (Array.replicate l.length false) qs)
theorem wp_mixH (C : World → Prop) {id : Nat} {a : Act} {w : World} {l : List Oper} (n1 : Nat) (qs : List Nat) (ks : List (Nat × List Nat)) (j : Nat) (s1 s2 : List Stp) (hm : P.follows .mixedOrders = true) (hB : mixhB l n1 qs ks j s1 s2 = true) (hC : C w.drew)
    (h : ∀ Q' : Exit → Act → World → Prop, (∀ a w, Q .normal a w → Q' .normal a w) → wpQuiet P l.toArray C (fun a' => wpFl P l C Q' s2 s1 j ks a' w.drew) (pick l qs) a) :
    (Code.region id l.toArray true).wp P Q a w := by
  simp only [mixhB, Bool.and_eq_true, decide_eq_true_eq] at hB
  obtain ⟨⟨⟨⟨hsel, hp⟩, hlen⟩, hq⟩, hf⟩ := hB
  refine Code.wp_mono (Q := noPan Q) (fun e a w hq => by cases e <;> first | exact hq | exact (hq : False).elim) ?_
  refine wp_region_any hm ?_
  have hQ : ∀ c a a' w, noPan Q (.panic c) a w → noPan Q (.panic c) a' w := fun c a a' w hq => hq
  have h1 := wpAnyC_q (C := C) hp hQ hsel (m := lenS s2) (n := lenS (flat7 ks) + 1 + lenS s1) (X := fun a' _ => wpFl P l C (noPan Q) s2 s1 j ks a' w.drew) qs (Array.replicate l.length false) a w.drew hC hq
    (fun a' hx => wpAnyC_fl hp hQ hsel ks _ a' w.drew hC hf hx)
    (h (noPan Q) fun _ _ h => h)
  have := wpAny_of_C (C := C) _ _ _ _ h1
  rw [show qs.length + (lenS (flat7 ks) + 1 + lenS s1) + lenS s2 = l.toArray.size from by simp; omega] at this
  simpa using this
end
end Go.Proofs.Ytlmdmpjfehpjeaa

/- Tracks: what the program reckons for one coordinate of a box. -/
set_option linter.unusedVariables false
set_option linter.unusedSimpArgs false
namespace Go.Proofs.Ytlmdmpjfehpjeaa
open Go.RowKit

def Rg.bd (r : Rg) (A : Int) : Prop := (-A ≤ r.lo ∧ r.lo ≤ A) ∧ (-A ≤ r.hi ∧ r.hi ≤ A)
theorem Rg.times_bd {r s : Rg} {A B C : Int} (h : r.bd A) (g : s.bd B) (hC : A * B ≤ C) : (r.times s).bd C := by
  have h1 := mul_rg h.1 g.1 hC
  have h2 := mul_rg h.1 g.2 hC
  have h3 := mul_rg h.2 g.1 hC
  have h4 := mul_rg h.2 g.2 hC
  unfold Rg.bd Rg.times mn4 mx4; simp only; omega
theorem Rg.plus_bd {r s : Rg} {A B C : Int} (h : r.bd A) (g : s.bd B) (hC : A + B ≤ C) : (r.plus s).bd C := by
  unfold Rg.bd Rg.plus at *; simp only; omega
theorem Rg.square_bd {r : Rg} {A C : Int} (h : r.bd A) (hC : A * A ≤ C) : r.square.bd C ∧ 0 ≤ r.square.lo ∧ 0 ≤ r.square.hi := by
  have := Rg.square_sz h.1 h.2 hC
  unfold Rg.bd; omega
/-- a call that returns a value and leaves old memory alone. -/
def CR (f : FuncId) (args : Array Value) (v : Value) : Prop := ∀ W, Calls Try.prog f args W fun e w' => e = .returned v ∧ Below W.heap.size W w'
/-- one coordinate's reckoning. -/
def Stg (tk d A : Int) (r P L P' L' : Rg) : Prop :=
  ∃ (R S U V : Rg) (TD : Int), IntKind.i64.wrap (tk * d) = TD ∧ CR 131 #[r.v, .agg #[.int .i64 (-A), .int .i64 (-A)]] R.v ∧ CR 129 #[R.v, .agg #[.int .i64 TD, .int .i64 TD]] S.v ∧ CR 131 #[S.v, r.v] U.v ∧ CR 129 #[P.v, U.v] P'.v ∧ CR 130 #[S.v] V.v ∧ CR 129 #[L.v, V.v] L'.v
theorem stg {tk d A : Int} {r P L : Rg} (htk : 1 ≤ tk ∧ tk ≤ 20) (hd : -2000 ≤ d ∧ d ≤ 2000) (hA : -1010101 ≤ A ∧ A ≤ 1010101) (hr : r.bd 20) (hP : P.bd 1000000000) (hL : L.bd 1000000000000000) :
    Stg tk d A r P L (P.plus ((restR tk r d A).times r)) (L.plus (restR tk r d A).square) ∧ ((restR tk r d A).times r).bd 404840400 ∧ ((restR tk r d A).square.bd 409739373680400 ∧ 0 ≤ (restR tk r d A).square.lo ∧ 0 ≤ (restR tk r d A).square.hi) := by
  have hT := mul_rg (x := tk) (y := d) (A := 20) (B := 2000) (C := 40000) (by omega) hd (by decide)
  have hn : (⟨-A, -A⟩ : Rg).bd 1010101 := by unfold Rg.bd; simp only; omega
  have hR := Rg.times_bd hr hn (C := 20202020) (by decide)
  have hTD : (⟨tk * d, tk * d⟩ : Rg).bd 40000 := ⟨hT, hT⟩
  have hS := Rg.plus_bd hR hTD (C := 20242020) (by decide)
  have hU := Rg.times_bd hS hr (C := 404840400) (by decide)
  have hV := Rg.square_bd hS (C := 409739373680400) (by decide)
  refine ⟨⟨r.times ⟨-A, -A⟩, restR tk r d A, (restR tk r d A).times r, (restR tk r d A).square, tk * d, IntWalk.i64_in _ (by omega), ?_, ?_, ?_, ?_, ?_, ?_⟩, hU, hV⟩
  · intro W
    have m1 := mul_rg hr.1 hn.1 (C := 20202020) (by decide)
    have m2 := mul_rg hr.2 hn.1 (C := 20202020) (by decide)
    exact track_times r ⟨-A, -A⟩ W (by simp only at *; omega) (by simp only at *; omega) (by simp only at *; omega) (by simp only at *; omega)
  · intro W
    exact track_plus _ ⟨tk * d, tk * d⟩ W (by have := hR.1; omega) (by have := hR.2; omega) (by simp only; omega) (by simp only; omega)
  · intro W
    have hS' : (restR tk r d A).bd 20242020 := hS
    have m1 := mul_rg hS'.1 hr.1 (C := 404840400) (by decide)
    have m2 := mul_rg hS'.1 hr.2 (C := 404840400) (by decide)
    have m3 := mul_rg hS'.2 hr.1 (C := 404840400) (by decide)
    have m4 := mul_rg hS'.2 hr.2 (C := 404840400) (by decide)
    exact track_times _ _ W (by omega) (by omega) (by omega) (by omega)
  · intro W
    have hU' : ((restR tk r d A).times r).bd 404840400 := hU
    unfold Rg.bd at hU' hP
    exact track_plus _ _ W (by omega) (by omega) (by omega) (by omega)
  · intro W
    have hS' : (restR tk r d A).bd 20242020 := hS
    unfold Rg.bd at hS'
    exact track_square _ W (by omega) (by omega)
  · intro W
    have hV' : (restR tk r d A).square.bd 409739373680400 := hV.1
    unfold Rg.bd at hV' hL
    exact track_plus _ _ W (by omega) (by omega) (by omega) (by omega)
/-- all three coordinates. -/
theorem stg3 {m : TMod} {b : TBox} {p : V3} {t : Int} (ho : m.Ok) (hl : b.lo.inS 20 = true) (hh : b.hi.inS 20 = true) (hp : p.inS 1000 = true) (ht : -1000101 ≤ t ∧ t ≤ 1000100) :
    ∃ P1 P2 L1 L2 : Rg, Stg m.tk (p.x - m.px) (t - m.tm) b.rx ⟨0, 0⟩ ⟨0, 0⟩ P1 L1 ∧ Stg m.tk (p.y - m.py) (t - m.tm) b.ry P1 L1 P2 L2 ∧ Stg m.tk (p.z - m.pz) (t - m.tm) b.rz P2 L2 (m.prodR b p t) (m.leftR b p t) ∧ (m.prodR b p t).bd 1214521200 ∧ (m.leftR b p t).bd 1229218121041200 ∧ 0 ≤ (m.leftR b p t).lo ∧ 0 ≤ (m.leftR b p t).hi := by
  obtain ⟨a1, a2, a3⟩ := inS_iff.1 hl
  obtain ⟨b1, b2, b3⟩ := inS_iff.1 hh
  obtain ⟨c1, c2, c3⟩ := inS_iff.1 hp
  have hA : -1010101 ≤ t - m.tm ∧ t - m.tm ≤ 1010101 := by have := ho.tm; omega
  have z : (⟨0, 0⟩ : Rg).bd 0 := by unfold Rg.bd; simp
  have zw : ∀ (C : Int), 0 ≤ C → (⟨0, 0⟩ : Rg).bd C := fun C h => by unfold Rg.bd; simp only; omega
  have s0 := stg (tk := m.tk) (d := p.x - m.px) (A := t - m.tm) (r := b.rx) (P := ⟨0, 0⟩) (L := ⟨0, 0⟩) ho.tk (by have := ho.px; omega) hA ⟨a1, b1⟩ (zw _ (by decide)) (zw _ (by decide))
  have p1 := Rg.plus_bd z s0.2.1 (C := 404840400) (by decide)
  have l1 := Rg.plus_bd z s0.2.2.1 (C := 409739373680400) (by decide)
  have w : ∀ {r : Rg} {A B : Int}, r.bd A → A ≤ B → r.bd B := fun h g => by unfold Rg.bd at *; omega
  have s1 := stg (tk := m.tk) (d := p.y - m.py) (A := t - m.tm) (r := b.ry) ho.tk (by have := ho.py; omega) hA ⟨a2, b2⟩ (w p1 (by decide)) (w l1 (by decide))
  have p2 := Rg.plus_bd p1 s1.2.1 (C := 809680800) (by decide)
  have l2 := Rg.plus_bd l1 s1.2.2.1 (C := 819478747360800) (by decide)
  have s2 := stg (tk := m.tk) (d := p.z - m.pz) (A := t - m.tm) (r := b.rz) ho.tk (by have := ho.pz; omega) hA ⟨a3, b3⟩ (w p2 (by decide)) (w l2 (by decide))
  have p3 := Rg.plus_bd p2 s2.2.1 (C := 1214521200) (by decide)
  have l3 := Rg.plus_bd l2 s2.2.2.1 (C := 1229218121041200) (by decide)
  have h0 := s0.2.2.2
  have h1 := s1.2.2.2
  have h2 := s2.2.2.2
  refine ⟨_, _, _, _, s0.1, s1.1, s2.1, p3, l3, ?_, ?_⟩
  · unfold TMod.leftR Rg.plus; simp only; omega
  · unfold TMod.leftR Rg.plus; simp only; omega
theorem two_set2 {w : World} {g h : Nat} {x y u v x' y' u' v' : Value} {t s : TypeId} (hg : w.heap[g]? = some (.cells #[x, y] t (0, 0))) (hh : w.heap[h]? = some (.cells #[u, v] s (0, 0))) (hne : g ≠ h) :
    ((((w.setCell ⟨g, 0, none⟩ x').setCell ⟨g, 1, none⟩ y').setCell ⟨h, 0, none⟩ u').setCell ⟨h, 1, none⟩ v').heap[g]? = some (.cells #[x', y'] t (0, 0)) ∧ ((((w.setCell ⟨g, 0, none⟩ x').setCell ⟨g, 1, none⟩ y').setCell ⟨h, 0, none⟩ u').setCell ⟨h, 1, none⟩ v').heap[h]? = some (.cells #[u', v'] s (0, 0)) := by
  have h1 := two_set (x' := x') (y' := y') hg
  have h2 : ((w.setCell ⟨g, 0, none⟩ x').setCell ⟨g, 1, none⟩ y').heap[h]? = some (.cells #[u, v] s (0, 0)) := by
    rw [heap_setCell_ne _ _ _ _ _ (Ne.symm hne), heap_setCell_ne _ _ _ _ _ (Ne.symm hne)]; exact hh
  refine ⟨?_, two_set (x' := u') (y' := v') h2⟩
  rw [heap_setCell_ne _ _ _ _ _ hne, heap_setCell_ne _ _ _ _ _ hne]; exact h1
theorem row_n2 {Q : Prop} {w w1 : World} {a : Array Value} {t : TypeId} (hb : Below (w.alloc (.cells a t)).heap.size (w.alloc (.cells a t)) w1) (k : w1.heap[w.heap.size]? = some (.cells a t (0, 0)) → Q) : Q := k ((hb.block _ (by simp)).trans (heap_alloc_new w _))
/-- the range of the fast parts. -/
theorem fast_bd {m : TMod} {b : TBox} (ho : m.Ok) (hl : b.lo.inS 20 = true) (hh : b.hi.inS 20 = true) (hc : m.canBe b) :
    (1 ≤ (m.fast b).lo ∧ (m.fast b).lo ≤ 1200) ∧ (1 ≤ (m.fast b).hi ∧ (m.fast b).hi ≤ 1200) ∧ IntKind.i64.wrap (max b.squares.lo m.lo - m.slow) = (m.fast b).lo ∧ IntKind.i64.wrap (min b.squares.hi m.hi - m.slow) = (m.fast b).hi := by
  obtain ⟨a1, a2, a3⟩ := inS_iff.1 hl
  obtain ⟨b1, b2, b3⟩ := inS_iff.1 hh
  have s1 := Rg.square_sz (r := b.rx) (A := 20) (C := 400) a1 b1 (by decide)
  have s2 := Rg.square_sz (r := b.ry) (A := 20) (C := 400) a2 b2 (by decide)
  have s3 := Rg.square_sz (r := b.rz) (A := 20) (C := 400) a3 b3 (by decide)
  have hsq : (0 ≤ b.squares.lo ∧ b.squares.lo ≤ 1200) ∧ (0 ≤ b.squares.hi ∧ b.squares.hi ≤ 1200) := by unfold TBox.squares Rg.plus; simp only; omega
  have h1 := ho.slo; have h2 := ho.slp; have h3 := ho.lo; have h4 := ho.hi; have h5 := ho.ord
  unfold TMod.canBe at hc
  have e1 : (m.fast b).lo = max b.squares.lo m.lo - m.slow := rfl
  have e2 : (m.fast b).hi = min b.squares.hi m.hi - m.slow := rfl
  refine ⟨by omega, by omega, ?_, ?_⟩
  · rw [e1]; exact IntWalk.i64_in _ (by omega)
  · rw [e2]; exact IntWalk.i64_in _ (by omega)
end Go.Proofs.Ytlmdmpjfehpjeaa
