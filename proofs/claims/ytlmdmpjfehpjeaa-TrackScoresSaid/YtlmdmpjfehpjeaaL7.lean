/- Tracks: places reached, by the reference. -/
import Derived.Test.YtlmdmpjfehpjeaaL6
set_option linter.unusedVariables false
set_option linter.unusedSimpArgs false
namespace Go.Proofs.Ytlmdmpjfehpjeaa
open Go.RowKit

theorem al3 (w : World) (a b c : Array Value) (t s r : TypeId) : ∀ W, W = ((w.alloc (.cells a t)).alloc (.cells b s)).alloc (.cells c r) →
    W.heap[w.heap.size]? = some (.cells a t (0, 0)) ∧ W.heap[w.heap.size + 1]? = some (.cells b s (0, 0)) ∧ W.heap[w.heap.size + 1 + 1]? = some (.cells c r (0, 0)) := by
  rintro W rfl
  refine ⟨?_, ?_, ?_⟩
  · rw [Below.heap_alloc _ _ _ (by simp <;> omega), Below.heap_alloc _ _ _ (by simp), heap_alloc_new]
  · rw [Below.heap_alloc _ _ _ (by simp)]
    have := heap_alloc_new (w.alloc (.cells a t)) (.cells b s)
    simpa using this
  · have := heap_alloc_new ((w.alloc (.cells a t)).alloc (.cells b s)) (.cells c r)
    simpa using this
theorem reach_slow {m : TMod} (ho : m.Ok) : ∃ A, IntKind.i64.wrap (m.li * m.tk) = A ∧ IntKind.i64.wrap (A * m.tk) = m.slow := by
  obtain ⟨h1, h2, h3, h4⟩ := slow_sz ho
  exact ⟨m.li * m.tk, IntWalk.i64_in _ (by omega), IntWalk.i64_in _ (by omega)⟩
set_option maxRecDepth 100000 in
set_option maxHeartbeats 4000000 in
theorem ref_Reached (m : TMod) (s p : V3) (t : Int) (w : World) (ho : m.Ok) (hs : s.inS 20 = true) (hpm : m.permit s) (hp : p.inS 1000 = true) (ht : -1000101 ≤ t ∧ t ≤ 1000100) :
    Calls Try.prog 22 #[m.v, s.v, p.v, .int .i64 t] w fun e w' => e = .returned (.bool (m.reached s p t)) ∧ Below w.heap.size w w' := by
  obtain ⟨n1, n2, n3, nS, na, nb, nc, nbb, nac⟩ := reach_nums ho hs hpm hp ht
  have HW : Hid (∀ W, Calls Try.prog 81 #[m.v, s.v, p.v, .int .i64 t] W fun e w' => e = .returned (m.way s p t).v ∧ Below W.heap.size W w') := hid (fun W => ref_way m s p t W ho hs hp ht)
  have HD1 : Hid (∀ W, Calls Try.prog 82 #[s.v, s.v] W fun e w' => e = .returned (.int .i64 (s.dot s)) ∧ Below W.heap.size W w') := hid (fun W => ref_Dot s s W n1.1 n1.2.1 n1.2.2)
  have HD2 : Hid (∀ W, Calls Try.prog 82 #[(m.way s p t).v, s.v] W fun e w' => e = .returned (.int .i64 ((m.way s p t).dot s)) ∧ Below W.heap.size W w') := hid (fun W => ref_Dot _ s W n2.1 n2.2.1 n2.2.2)
  have HD3 : Hid (∀ W, Calls Try.prog 82 #[(m.way s p t).v, (m.way s p t).v] W fun e w' => e = .returned (.int .i64 ((m.way s p t).dot (m.way s p t))) ∧ Below W.heap.size W w') := hid (fun W => ref_Dot _ _ W n3.1 n3.2.1 n3.2.2)
  have HE : Hid (m.reached s p t = reachB (s.dot s - m.slow) ((m.way s p t).dot s) ((m.way s p t).dot (m.way s p t))) := hid rfl
  obtain ⟨A, k1, k2⟩ := reach_slow ho
  have k3 : IntKind.i64.wrap (s.dot s - m.slow) = s.dot s - m.slow := IntWalk.i64_in _ (by omega)
  have k4 : IntKind.i64.wrap ((m.way s p t).dot s * (m.way s p t).dot s) = (m.way s p t).dot s * (m.way s p t).dot s := IntWalk.i64_in _ (by omega)
  have k5 : IntKind.i64.wrap ((s.dot s - m.slow) * (m.way s p t).dot (m.way s p t)) = (s.dot s - m.slow) * (m.way s p t).dot (m.way s p t) := IntWalk.i64_in _ (by omega)
  have HT := hid ht
  generalize m.reached s p t = R at HE ⊢
  generalize m.way s p t = V at HW HD2 HD3 HE nb nc nbb nac k4 k5
  generalize s.dot s = S at HD1 HE nS na nac k3 k5
  generalize m.slow = L at HE na nac k2 k3 k5
  generalize V.dot s = B at HD2 HE nb nbb k4
  generalize V.dot V = C at HD3 HE nc nac k5
  generalize hF : S - L = F at HE na nac k3 k5
  have k3' : IntKind.i64.wrap (S - L) = F := by rw [hF]; exact k3
  clear k3 hF
  obtain ⟨BB, hBB⟩ : ∃ BB, BB = B * B := ⟨_, rfl⟩
  rw [← hBB] at k4 nbb
  have hBB' : B * B = BB := hBB.symm
  obtain ⟨FC, hFC⟩ : ∃ FC, FC = F * C := ⟨_, rfl⟩
  rw [← hFC] at k5 nac
  have hFC' : F * C = FC := hFC.symm
  have HER : Hid (R = (decide (C = 0) || (decide (B ≤ 0) && decide (FC ≤ BB)))) := hid (by rw [HE.out, ← hFC', ← hBB']; rfl)
  obtain ⟨px, py, pz, tm, tk, lo, hi, li, ea, la, no, mi⟩ := m
  obtain ⟨sx, sy, sz⟩ := s
  obtain ⟨qx, qy, qz⟩ := p
  obtain ⟨vx, vy, vz⟩ := V
  unfold TMod.v V3.v at *
  simp only at *
  clear hBB hFC HE ho hs hpm hp ht n1 n2 n3
  obtain ⟨W0, hW0⟩ : ∃ W0, W0 = ((w.alloc (.cells #[.int .i64 px, .int .i64 py, .int .i64 pz, .int .i64 tm, .int .i64 tk, .int .i64 lo, .int .i64 hi, .int .i64 li, .int .i64 ea, .int .i64 la, .int .i64 no, .int .i64 mi] 26)).alloc (.cells #[.int .i64 sx, .int .i64 sy, .int .i64 sz] 22)).alloc (.cells #[.int .i64 qx, .int .i64 qy, .int .i64 qz] 22) := ⟨_, rfl⟩
  have hbW0 : Below w.heap.size w W0 := by rw [hW0]; (repeat (with_reducible first | exact Below.refl _ _ | assumption | refine Below.drewN _ ?_ | refine Below.drew ?_ | refine Below_alloc ?_ _ | refine Below.alloc ?_ (by first | (simp; done) | (simp; omega) | omega) _ | refine Below.setCell ?_ (by first | (simp; done) | (simp; omega) | omega) _ | refine Below_call ?_ (by assumption) | refine Below.trans ?_ (by assumption)))
  obtain ⟨q0, q1, q2⟩ := al3 w _ _ _ _ _ _ W0 hW0
  have l0 := (Array.getElem?_eq_some_iff.1 q0).1
  have l1 := (Array.getElem?_eq_some_iff.1 q1).1
  have H0 := hid q0
  have H1 := hid q1
  clear q0 q1 q2
  have GB : Hid ((C == 0) = decide (C = 0)) := hid (by by_cases h : C = 0 <;> simp [h])
  go_enter Try.func22, Try.ntmps22
  go_wp2_with (go_at_call 81; rw [← hW0]; refine (HW.out _).mono ?_; rintro _ w1 ⟨rfl, hb1⟩)
  have hz1 := hb1.size
  obtain ⟨W, hW⟩ : ∃ W, W = w1.alloc (.cells #[.int .i64 vx, .int .i64 vy, .int .i64 vz] 22) := ⟨_, rfl⟩
  have hbW : Below w1.heap.size w1 W := by rw [hW]; (repeat (with_reducible first | exact Below.refl _ _ | assumption | refine Below.drewN _ ?_ | refine Below.drew ?_ | refine Below_alloc ?_ _ | refine Below.alloc ?_ (by first | (simp; done) | (simp; omega) | omega) _ | refine Below.setCell ?_ (by first | (simp; done) | (simp; omega) | omega) _ | refine Below_call ?_ (by assumption) | refine Below.trans ?_ (by assumption)))
  have hb2 : Below w.heap.size w W := by (repeat (with_reducible first | exact Below.refl _ _ | assumption | refine Below.drewN _ ?_ | refine Below.drew ?_ | refine Below_alloc ?_ _ | refine Below.alloc ?_ (by first | (simp; done) | (simp; omega) | omega) _ | refine Below.setCell ?_ (by first | (simp; done) | (simp; omega) | omega) _ | refine Below_call ?_ (by assumption) | refine Below.trans ?_ (by assumption)))
  have hzW : W.heap.size = w1.heap.size + 1 := by rw [hW]; simp
  have r0 := ((hbW.block w.heap.size (by omega)).trans (hb1.block w.heap.size l0)).trans H0.out
  have r1 := ((hbW.block (w.heap.size + 1) (by omega)).trans (hb1.block (w.heap.size + 1) l1)).trans H1.out
  have r2 : W.heap[w1.heap.size]? = some (.cells #[.int .i64 vx, .int .i64 vy, .int .i64 vz] 22 (0, 0)) := by rw [hW]; exact heap_alloc_new w1 _
  rw [← hW]
  clear hW
  have c4 : W.cell? ⟨w.heap.size, 4, none⟩ = some (.int .i64 tk) := by rw [cell_of_row W _ 4 _ _ (0, 0) r0]; rfl
  have c7 : W.cell? ⟨w.heap.size, 7, none⟩ = some (.int .i64 li) := by rw [cell_of_row W _ 7 _ _ (0, 0) r0]; rfl
  obtain ⟨d0, d1, d2, fd0, fd1, fd2, hl1⟩ := three_cells r1
  obtain ⟨e0, e1, e2, fe0, fe1, fe2, hl2⟩ := three_cells r2
  have hl0 : w.heap.size < W.heap.size := by omega
  clear r0 r1 r2 fd0 fd1 fd2 fe0 fe1 fe2
  refine wp_mixC (fun wc => Below (W.heap.size) W wc) 20 [.q [0, 1, 3, 4, 5, 6, 7, 8, 9, 10, 12, 13, 15, 16], .f [2], .q [11], .f [14, 17], .q [18, 19]] [.q [20]] (by kernel_rfl) (by kernel_rfl) ((Below.refl _ _).drew) ?_
  intro Q' hQ'
  (rw [wpMixC]; simp only [pick, List.drop_succ_cons, List.drop_zero, List.head?_cons, Option.toList_some, List.cons_append, List.nil_append])
  (repeat (first | go_big_quiet_skip | (go_big_quiet_want; refine quiet_simple rfl ?_; go_big_quiet_op; go_big_quiet_on) | (go_big_quiet_want; refine quiet_cellB (ty := 3) rfl rfl (by kernel_rfl) (by assumption) (by first | omega | (simp; omega)) ?_; simp only [Act.put, List.setIfInBounds_toArray, List.set_cons_succ, List.set_cons_zero]; go_big_quiet_on) | (go_big_quiet_want; refine quiet_agg3B (ty := 22) rfl rfl (by kernel_rfl) (by assumption) (by assumption) (by assumption) (by first | omega | (simp; omega)) ?_; simp only [Act.put, List.setIfInBounds_toArray, List.set_cons_succ, List.set_cons_zero]; go_big_quiet_on)))
  (try refine wpQuiet_nil ?_)
  (rw [wpMixC]; simp only [pick, List.drop_succ_cons, List.drop_zero, List.head?_cons, Option.toList_some, List.cons_append, List.nil_append])
  (rw [wpSteps]; go_wp2_with ((first | (go_at_call 82; ((with_reducible refine (HD1.out _).mono ?_); rintro _ w2 ⟨rfl, hb2⟩)) | (go_at_call 82; ((with_reducible refine (HD2.out _).mono ?_); rintro _ w3 ⟨rfl, hb3⟩)) | (go_at_call 82; ((with_reducible refine (HD3.out _).mono ?_); rintro _ w4 ⟨rfl, hb4⟩)))); rw [contF]; refine ⟨?_, ?_⟩; (next => (repeat (with_reducible first | exact Below.refl _ _ | assumption | refine Below.drewN _ ?_ | refine Below.drew ?_ | refine Below_alloc ?_ _ | refine Below.alloc ?_ (by first | (simp; done) | (simp; omega) | omega) _ | refine Below.setCell ?_ (by first | (simp; done) | (simp; omega) | omega) _ | refine Below_call ?_ (by assumption) | refine Below.trans ?_ (by assumption)))))
  (rw [wpSteps])
  (rw [wpMixC]; simp only [pick, List.drop_succ_cons, List.drop_zero, List.head?_cons, Option.toList_some, List.cons_append, List.nil_append])
  (repeat (first | go_big_quiet_skip | (go_big_quiet_want; refine quiet_simple rfl ?_; go_big_quiet_op; go_big_quiet_on) | (go_big_quiet_want; refine quiet_cellB (ty := 3) rfl rfl (by kernel_rfl) (by assumption) (by first | omega | (simp; omega)) ?_; simp only [Act.put, List.setIfInBounds_toArray, List.set_cons_succ, List.set_cons_zero]; go_big_quiet_on) | (go_big_quiet_want; refine quiet_agg3B (ty := 22) rfl rfl (by kernel_rfl) (by assumption) (by assumption) (by assumption) (by first | omega | (simp; omega)) ?_; simp only [Act.put, List.setIfInBounds_toArray, List.set_cons_succ, List.set_cons_zero]; go_big_quiet_on)))
  (try refine wpQuiet_nil ?_)
  (rw [wpMixC]; simp only [pick, List.drop_succ_cons, List.drop_zero, List.head?_cons, Option.toList_some, List.cons_append, List.nil_append])
  (rw [wpSteps]; go_wp2_with ((first | (go_at_call 82; ((with_reducible refine (HD1.out _).mono ?_); rintro _ w2 ⟨rfl, hb2⟩)) | (go_at_call 82; ((with_reducible refine (HD2.out _).mono ?_); rintro _ w3 ⟨rfl, hb3⟩)) | (go_at_call 82; ((with_reducible refine (HD3.out _).mono ?_); rintro _ w4 ⟨rfl, hb4⟩)))); rw [contF]; refine ⟨?_, ?_⟩; (next => (repeat (with_reducible first | exact Below.refl _ _ | assumption | refine Below.drewN _ ?_ | refine Below.drew ?_ | refine Below_alloc ?_ _ | refine Below.alloc ?_ (by first | (simp; done) | (simp; omega) | omega) _ | refine Below.setCell ?_ (by first | (simp; done) | (simp; omega) | omega) _ | refine Below_call ?_ (by assumption) | refine Below.trans ?_ (by assumption)))))
  (rw [wpSteps]; go_wp2_with ((first | (go_at_call 82; ((with_reducible refine (HD1.out _).mono ?_); rintro _ w2 ⟨rfl, hb2⟩)) | (go_at_call 82; ((with_reducible refine (HD2.out _).mono ?_); rintro _ w3 ⟨rfl, hb3⟩)) | (go_at_call 82; ((with_reducible refine (HD3.out _).mono ?_); rintro _ w4 ⟨rfl, hb4⟩)))); rw [contF]; refine ⟨?_, ?_⟩; (next => (repeat (with_reducible first | exact Below.refl _ _ | assumption | refine Below.drewN _ ?_ | refine Below.drew ?_ | refine Below_alloc ?_ _ | refine Below.alloc ?_ (by first | (simp; done) | (simp; omega) | omega) _ | refine Below.setCell ?_ (by first | (simp; done) | (simp; omega) | omega) _ | refine Below_call ?_ (by assumption) | refine Below.trans ?_ (by assumption)))))
  (rw [wpSteps])
  (rw [wpMixC]; simp only [pick, List.drop_succ_cons, List.drop_zero, List.head?_cons, Option.toList_some, List.cons_append, List.nil_append])
  (repeat (first | go_big_quiet_skip | (go_big_quiet_want; refine quiet_simple rfl ?_; go_big_quiet_op; go_big_quiet_on) | (go_big_quiet_want; refine quiet_cellB (ty := 3) rfl rfl (by kernel_rfl) (by assumption) (by first | omega | (simp; omega)) ?_; simp only [Act.put, List.setIfInBounds_toArray, List.set_cons_succ, List.set_cons_zero]; go_big_quiet_on) | (go_big_quiet_want; refine quiet_agg3B (ty := 22) rfl rfl (by kernel_rfl) (by assumption) (by assumption) (by assumption) (by first | omega | (simp; omega)) ?_; simp only [Act.put, List.setIfInBounds_toArray, List.set_cons_succ, List.set_cons_zero]; go_big_quiet_on)))
  (try refine wpQuiet_nil ?_)
  (rw [wpMixC])
  (rw [wpMix]; simp only [pick, List.drop_succ_cons, List.drop_zero, List.head?_cons, Option.toList_some, List.cons_append, List.nil_append])
  (repeat (first | (go_big_quiet_step (fail)) | (quiet_step (fail))))
  (try refine wpQuiet_nil ?_)
  (rw [wpMix])
  (refine hQ' _ _ ?_)
  by_cases g1 : C = 0
  all_goals by_cases g2 : B ≤ 0
  all_goals by_cases g3 : FC ≤ BB
  all_goals
    go_wp2_with fail
    go_ret
    exact ⟨ret_bool (by rw [HER.out]; simp [GB.out, g1, g2, g3]), by (repeat (with_reducible first | exact Below.refl _ _ | assumption | refine Below.drewN _ ?_ | refine Below.drew ?_ | refine Below_alloc ?_ _ | refine Below.alloc ?_ (by first | (simp; done) | (simp; omega) | omega) _ | refine Below.setCell ?_ (by first | (simp; done) | (simp; omega) | omega) _ | refine Below_call ?_ (by assumption) | refine Below.trans ?_ (by assumption)))⟩
end Go.Proofs.Ytlmdmpjfehpjeaa

/- Tracks: places reached, by the program. -/
set_option linter.unusedVariables false
set_option linter.unusedSimpArgs false
namespace Go.Proofs.Ytlmdmpjfehpjeaa
open Go.RowKit

/-- what a coordinate of what is left is made of, step by step. -/
theorem left_steps {m : TMod} {s p : V3} {t : Int} (ho : m.Ok) (hs : s.inS 20 = true) (hp : p.inS 1000 = true) (ht : -1000101 ≤ t ∧ t ≤ 1000100) {k : Nat} (hk : k < 3) :
    ∃ T P, IntKind.i64.wrap (m.tk * (p.at k - m.pl.at k)) = T ∧ IntKind.i64.wrap ((t - m.tm) * s.at k) = P ∧ IntKind.i64.wrap (T - P) = (m.way s p t).at k := by
  obtain ⟨h1, h2, h3, h4⟩ := way_nums ho hs hp ht k
  refine ⟨m.tk * (p.at k - m.pl.at k), (t - m.tm) * s.at k, IntWalk.i64_in _ (by omega), IntWalk.i64_in _ (by omega), ?_⟩
  rw [way_at m s p t hk]
  exact IntWalk.i64_in _ (by omega)

theorem row_drew {w w1 : World} {a : Array Value} {t : TypeId} (hb : Below (w.alloc (.cells a t)).drew.heap.size (w.alloc (.cells a t)).drew w1) : w1.heap[w.heap.size]? = some (.cells a t (0, 0)) := (hb.block _ (by simp)).trans (heap_alloc_new w _)
theorem row_k {Q : Prop} {w w1 : World} {a : Array Value} {t : TypeId} (hb : Below (w.alloc (.cells a t)).drew.heap.size (w.alloc (.cells a t)).drew w1) (k : w1.heap[w.heap.size]? = some (.cells a t (0, 0)) → Q) : Q := k (row_drew hb)
set_option maxRecDepth 100000 in
set_option maxHeartbeats 8000000 in
theorem track_reached (m : TMod) (s p : V3) (t : Int) (w : World) (ho : m.Ok) (hs : s.inS 20 = true) (hpm : m.permit s) (hp : p.inS 1000 = true) (ht : -1000101 ≤ t ∧ t ≤ 1000100) :
    Calls Try.prog 75 #[m.v, s.v, .agg #[.int .i64 p.x, .int .i64 p.y, .int .i64 p.z, .int .i64 t]] w fun e w' => e = .returned (.bool (m.reached s p t)) ∧ Below w.heap.size w w' := by
  obtain ⟨n1, n2, n3, nS, na, nb, nc, nbb, nac⟩ := reach_nums ho hs hpm hp ht
  have hpl : m.pl.inS 100000000 = true := inS_iff.2 (by have h1 := ho.px; have h2 := ho.py; have h3 := ho.pz; unfold TMod.pl; simp only; omega)
  have hpp : p.inS 100000000 = true := inS_iff.2 (by have := inS_iff.1 hp; omega)
  have hat : IntKind.i64.wrap (t - m.tm) = t - m.tm := IntWalk.i64_in _ (by have := ho.tm; omega)
  have HS0 := hid (left_steps ho hs hp ht (k := 0) (by omega))
  have HS1 := hid (left_steps ho hs hp ht (k := 1) (by omega))
  have HS2 := hid (left_steps ho hs hp ht (k := 2) (by omega))
  have HMI : Hid (∀ W, Calls Try.prog 77 #[p.v, m.pl.v] W fun e w' => e = .returned (V3.v ⟨p.x - m.px, p.y - m.py, p.z - m.pz⟩) ∧ Below W.heap.size W w') := hid (fun W => track_minus p m.pl W hpp hpl)
  have HSL : Hid (∀ W, Calls Try.prog 121 #[m.v] W fun e w' => e = .returned (.int .i64 m.slow) ∧ Below W.heap.size W w') := hid (fun W => track_slow m W ho)
  have HD1 : Hid (∀ W, Calls Try.prog 78 #[s.v, s.v] W fun e w' => e = .returned (.int .i64 (s.dot s)) ∧ Below W.heap.size W w') := hid (fun W => track_dot s s W n1)
  have HD2 : Hid (∀ W, Calls Try.prog 78 #[(m.way s p t).v, s.v] W fun e w' => e = .returned (.int .i64 ((m.way s p t).dot s)) ∧ Below W.heap.size W w') := hid (fun W => track_dot _ s W n2)
  have HD3 : Hid (∀ W, Calls Try.prog 78 #[(m.way s p t).v, (m.way s p t).v] W fun e w' => e = .returned (.int .i64 ((m.way s p t).dot (m.way s p t))) ∧ Below W.heap.size W w') := hid (fun W => track_dot _ _ W n3)
  have HE : Hid (m.reached s p t = reachB (s.dot s - m.slow) ((m.way s p t).dot s) ((m.way s p t).dot (m.way s p t))) := hid rfl
  have k3 : IntKind.i64.wrap (s.dot s - m.slow) = s.dot s - m.slow := IntWalk.i64_in _ (by omega)
  have k4 : IntKind.i64.wrap ((m.way s p t).dot s * (m.way s p t).dot s) = (m.way s p t).dot s * (m.way s p t).dot s := IntWalk.i64_in _ (by omega)
  have k5 : IntKind.i64.wrap ((s.dot s - m.slow) * (m.way s p t).dot (m.way s p t)) = (s.dot s - m.slow) * (m.way s p t).dot (m.way s p t) := IntWalk.i64_in _ (by omega)
  generalize m.reached s p t = R at HE ⊢
  generalize m.way s p t = V at HS0 HS1 HS2 HD2 HD3 HE nb nc nbb nac k4 k5
  generalize s.dot s = S at HD1 HE nS na nac k3 k5
  generalize m.slow = L at HE na nac HSL k3 k5
  generalize V.dot s = B at HD2 HE nb nbb k4
  generalize V.dot V = C at HD3 HE nc nac k5
  generalize hF : S - L = F at HE na nac k3 k5
  have k3' : IntKind.i64.wrap (S - L) = F := by rw [hF]; exact k3
  clear k3 hF
  obtain ⟨BB, hBB⟩ : ∃ BB, BB = B * B := ⟨_, rfl⟩
  rw [← hBB] at k4 nbb
  have hBB' : B * B = BB := hBB.symm
  obtain ⟨FC, hFC⟩ : ∃ FC, FC = F * C := ⟨_, rfl⟩
  rw [← hFC] at k5 nac
  have hFC' : F * C = FC := hFC.symm
  have HER : Hid (R = (decide (C = 0) || (decide (B ≤ 0) && decide (FC ≤ BB)))) := hid (by rw [HE.out, ← hFC', ← hBB']; rfl)
  obtain ⟨px, py, pz, tm, tk, lo, hi, li, ea, la, no, mi⟩ := m
  obtain ⟨sx, sy, sz⟩ := s
  obtain ⟨qx, qy, qz⟩ := p
  obtain ⟨vx, vy, vz⟩ := V
  simp only [V3.at, TMod.pl, if_true, if_false, Nat.one_ne_zero, show ¬ ((2:Nat) = 0) from by decide, show ¬ ((2:Nat) = 1) from by decide] at HS0 HS1 HS2 HMI
  unfold TMod.v V3.v at *
  simp only at *
  generalize qx - px = dx at HS0 HMI
  generalize qy - py = dy at HS1 HMI
  generalize qz - pz = dz at HS2 HMI
  generalize hA : t - tm = A at HS0 HS1 HS2 hat
  have hat' : IntKind.i64.wrap (t - tm) = A := by rw [hA]; exact hat
  clear hBB hFC HE ho hs hpm hp ht n1 n2 n3 hpl hpp hA hat
  obtain ⟨W0, hW0⟩ : ∃ W0, W0 = ((w.alloc (.cells #[.int .i64 px, .int .i64 py, .int .i64 pz, .int .i64 tm, .int .i64 tk, .int .i64 lo, .int .i64 hi, .int .i64 li, .int .i64 ea, .int .i64 la, .int .i64 no, .int .i64 mi] 134)).alloc (.cells #[.int .i64 sx, .int .i64 sy, .int .i64 sz] 135)).alloc (.cells #[.int .i64 qx, .int .i64 qy, .int .i64 qz, .int .i64 t] 28) := ⟨_, rfl⟩
  have hbW0 : Below w.heap.size w W0 := by rw [hW0]; (repeat (with_reducible first | exact Below.refl _ _ | assumption | refine Below.drewN _ ?_ | refine Below.drew ?_ | refine Below_alloc ?_ _ | refine Below.alloc ?_ (by first | (simp; done) | (simp; omega) | omega) _ | refine Below.setCell ?_ (by first | (simp; done) | (simp; omega) | omega) _ | refine Below_call ?_ (by assumption) | refine Below.trans ?_ (by assumption)))
  obtain ⟨q0, q1, q2⟩ := al3 w _ _ _ _ _ _ W0 hW0
  have l0 := (Array.getElem?_eq_some_iff.1 q0).1
  have l1 := (Array.getElem?_eq_some_iff.1 q1).1
  have l2 := (Array.getElem?_eq_some_iff.1 q2).1
  have H0 := hid q0
  have H1 := hid q1
  have c0 : W0.cell? ⟨w.heap.size, 0, none⟩ = some (.int .i64 px) := by rw [cell_of_row W0 _ 0 _ _ (0, 0) q0]; rfl
  have c1 : W0.cell? ⟨w.heap.size, 1, none⟩ = some (.int .i64 py) := by rw [cell_of_row W0 _ 1 _ _ (0, 0) q0]; rfl
  have c2 : W0.cell? ⟨w.heap.size, 2, none⟩ = some (.int .i64 pz) := by rw [cell_of_row W0 _ 2 _ _ (0, 0) q0]; rfl
  have c3 : W0.cell? ⟨w.heap.size, 3, none⟩ = some (.int .i64 tm) := by rw [cell_of_row W0 _ 3 _ _ (0, 0) q0]; rfl
  have e0 : W0.cell? ⟨w.heap.size + 1 + 1, 0, none⟩ = some (.int .i64 qx) := by rw [cell_of_row W0 _ 0 _ _ (0, 0) q2]; rfl
  have e1 : W0.cell? ⟨w.heap.size + 1 + 1, 1, none⟩ = some (.int .i64 qy) := by rw [cell_of_row W0 _ 1 _ _ (0, 0) q2]; rfl
  have e2 : W0.cell? ⟨w.heap.size + 1 + 1, 2, none⟩ = some (.int .i64 qz) := by rw [cell_of_row W0 _ 2 _ _ (0, 0) q2]; rfl
  have e3 : W0.cell? ⟨w.heap.size + 1 + 1, 3, none⟩ = some (.int .i64 t) := by rw [cell_of_row W0 _ 3 _ _ (0, 0) q2]; rfl
  clear q0 q1 q2
  have GB : Hid ((C == 0) = decide (C = 0)) := hid (by by_cases h : C = 0 <;> simp [h])
  go_enter Try.func75, Try.ntmps75
  go_wp2_with fail
  rw [← hW0]
  clear hW0
  refine wp_mixC (fun wc => Below (W0.heap.size) W0 wc) 14 [.q [0, 1, 2, 3, 4, 6, 7, 8, 9, 10, 11], .p 5 12, .f [13]] [.q [14]] (by kernel_rfl) (by kernel_rfl) ((Below.refl _ _).drew) ?_
  intro Q' hQ'
  (rw [wpMixC]; simp only [pick, List.drop_succ_cons, List.drop_zero, List.head?_cons, Option.toList_some, List.cons_append, List.nil_append])
  (repeat (first | go_big_quiet_skip | (go_big_quiet_want; refine quiet_simple rfl ?_; go_big_quiet_op; go_big_quiet_on) | (go_big_quiet_want; refine quiet_cellB (ty := 3) rfl rfl (by kernel_rfl) (by assumption) (by first | omega | (simp; omega)) ?_; simp only [Act.put, List.setIfInBounds_toArray, List.set_cons_succ, List.set_cons_zero]; go_big_quiet_on) | (go_big_quiet_want; refine quiet_agg3B (ty := 22) rfl rfl (by kernel_rfl) (by assumption) (by assumption) (by assumption) (by first | omega | (simp; omega)) ?_; simp only [Act.put, List.setIfInBounds_toArray, List.set_cons_succ, List.set_cons_zero]; go_big_quiet_on)))
  (try refine wpQuiet_nil ?_)
  (rw [wpMixC]; simp only [pick, List.drop_succ_cons, List.drop_zero, List.head?_cons, Option.toList_some, List.cons_append, List.nil_append])
  (refine ⟨?_, ?_⟩)
  all_goals (rw [wpSteps]; go_wp2_with ((go_at_call 77; refine (HMI.out _).mono ?_; rintro _ w1 ⟨rfl, hb1⟩; (try (refine row_k hb1 (fun hrow => ?_); obtain ⟨f0, f1, f2, ff0, ff1, ff2, hlf⟩ := three_cells hrow)))); rw [contF]; refine ⟨?_, ?_⟩; (next => (repeat (with_reducible first | exact Below.refl _ _ | assumption | refine Below.drewN _ ?_ | refine Below.drew ?_ | refine Below_alloc ?_ _ | refine Below.alloc ?_ (by first | (simp; done) | (simp; omega) | omega) _ | refine Below.setCell ?_ (by first | (simp; done) | (simp; omega) | omega) _ | refine Below_call ?_ (by assumption) | refine Below.trans ?_ (by assumption)))))
  all_goals (rw [wpSteps]; go_wp2_with ((go_at_call 77; refine (HMI.out _).mono ?_; rintro _ w1 ⟨rfl, hb1⟩; (try (refine row_k hb1 (fun hrow => ?_); obtain ⟨f0, f1, f2, ff0, ff1, ff2, hlf⟩ := three_cells hrow)))); rw [contF]; refine ⟨?_, ?_⟩; (next => (repeat (with_reducible first | exact Below.refl _ _ | assumption | refine Below.drewN _ ?_ | refine Below.drew ?_ | refine Below_alloc ?_ _ | refine Below.alloc ?_ (by first | (simp; done) | (simp; omega) | omega) _ | refine Below.setCell ?_ (by first | (simp; done) | (simp; omega) | omega) _ | refine Below_call ?_ (by assumption) | refine Below.trans ?_ (by assumption)))))
  all_goals (rw [wpSteps])
  all_goals (rw [wpMixC]; simp only [pick, List.drop_succ_cons, List.drop_zero, List.head?_cons, Option.toList_some, List.cons_append, List.nil_append])
  all_goals (rw [wpSteps]; go_wp2_with (fail); rw [contF]; refine ⟨?_, ?_⟩; (next => (repeat (with_reducible first | exact Below.refl _ _ | assumption | refine Below.drewN _ ?_ | refine Below.drew ?_ | refine Below_alloc ?_ _ | refine Below.alloc ?_ (by first | (simp; done) | (simp; omega) | omega) _ | refine Below.setCell ?_ (by first | (simp; done) | (simp; omega) | omega) _ | refine Below_call ?_ (by assumption) | refine Below.trans ?_ (by assumption)))))
  all_goals (rw [wpSteps])
  all_goals (rw [wpMixC])
  all_goals (rw [wpMix]; simp only [pick, List.drop_succ_cons, List.drop_zero, List.head?_cons, Option.toList_some, List.cons_append, List.nil_append])
  all_goals (repeat (first | (go_big_quiet_step (fail)) | (quiet_step (fail))))
  all_goals (try refine wpQuiet_nil ?_)
  all_goals (rw [wpMix])
  all_goals (refine hQ' _ _ ?_)
  all_goals first
    | (have hb2 : Below W0.heap.size W0 w1 := by (repeat (with_reducible first | exact Below.refl _ _ | assumption | refine Below.drewN _ ?_ | refine Below.drew ?_ | refine Below_alloc ?_ _ | refine Below.alloc ?_ (by first | (simp; done) | (simp; omega) | omega) _ | refine Below.setCell ?_ (by first | (simp; done) | (simp; omega) | omega) _ | refine Below_call ?_ (by assumption) | refine Below.trans ?_ (by assumption)))
       obtain ⟨W, hW⟩ : ∃ W, W = w1.alloc (.cells #[.int .i64 dx, .int .i64 dy, .int .i64 dz] 135) := ⟨_, rfl⟩
       have hrow : W.heap[w1.heap.size]? = some (.cells #[.int .i64 dx, .int .i64 dy, .int .i64 dz] 135 (0, 0)) := by rw [hW]; exact heap_alloc_new w1 _
       have hgg : W0.heap.size ≤ w1.heap.size := hb2.size
       have hbb : Below W0.heap.size W0 W := by rw [hW]; (repeat (with_reducible first | exact Below.refl _ _ | assumption | refine Below.drewN _ ?_ | refine Below.drew ?_ | refine Below_alloc ?_ _ | refine Below.alloc ?_ (by first | (simp; done) | (simp; omega) | omega) _ | refine Below.setCell ?_ (by first | (simp; done) | (simp; omega) | omega) _ | refine Below_call ?_ (by assumption) | refine Below.trans ?_ (by assumption)))
       rw [← hW]
       generalize w1.heap.size = g at hrow hgg ⊢
       clear hW hb1 hb2)
    | (have hb2 : Below W0.heap.size W0 w1 := by (repeat (with_reducible first | exact Below.refl _ _ | assumption | refine Below.drewN _ ?_ | refine Below.drew ?_ | refine Below_alloc ?_ _ | refine Below.alloc ?_ (by first | (simp; done) | (simp; omega) | omega) _ | refine Below.setCell ?_ (by first | (simp; done) | (simp; omega) | omega) _ | refine Below_call ?_ (by assumption) | refine Below.trans ?_ (by assumption)))
       obtain ⟨W, hW⟩ : ∃ W, W = ((w1.setCell ⟨W0.heap.size, 0, none⟩ (.int .i64 dx)).setCell ⟨W0.heap.size, 1, none⟩ (.int .i64 dy)).setCell ⟨W0.heap.size, 2, none⟩ (.int .i64 dz) := ⟨_, rfl⟩
       have hrow : W.heap[W0.heap.size]? = some (.cells #[.int .i64 dx, .int .i64 dy, .int .i64 dz] 135 (0, 0)) := by rw [hW]; exact heap_setCell_same _ _ 2 _ _ (.int .i64 dz) (heap_setCell_same _ _ 1 _ _ (.int .i64 dy) (heap_setCell_same _ _ 0 _ _ (.int .i64 dx) hrow))
       have hbb : Below W0.heap.size W0 W := by rw [hW]; (repeat (with_reducible first | exact Below.refl _ _ | assumption | refine Below.drewN _ ?_ | refine Below.drew ?_ | refine Below_alloc ?_ _ | refine Below.alloc ?_ (by first | (simp; done) | (simp; omega) | omega) _ | refine Below.setCell ?_ (by first | (simp; done) | (simp; omega) | omega) _ | refine Below_call ?_ (by assumption) | refine Below.trans ?_ (by assumption)))
       rw [← hW]
       obtain ⟨g, hg⟩ : ∃ g, g = W0.heap.size := ⟨_, rfl⟩
       have hgg : W0.heap.size ≤ g := by omega
       rw [← hg] at hrow ⊢
       clear hW hg hb1 hb2 f0 f1 f2 ff0 ff1 ff2 hlf)
  all_goals
    have hlg := (Array.getElem?_eq_some_iff.1 hrow).1
    have hzWW : W0.heap.size ≤ W.heap.size := hbb.size
    obtain ⟨W2, hW2⟩ : ∃ W2, W2 = W.alloc (.cells #[.int .i64 0, .int .i64 0, .int .i64 0] 135) := ⟨_, rfl⟩
    have hb2 : Below W.heap.size W W2 := by rw [hW2]; (repeat (with_reducible first | exact Below.refl _ _ | assumption | refine Below.drewN _ ?_ | refine Below.drew ?_ | refine Below_alloc ?_ _ | refine Below.alloc ?_ (by first | (simp; done) | (simp; omega) | omega) _ | refine Below.setCell ?_ (by first | (simp; done) | (simp; omega) | omega) _ | refine Below_call ?_ (by assumption) | refine Below.trans ?_ (by assumption)))
    have R9 : Hid (W2.heap[W.heap.size]? = some (.cells #[.int .i64 0, .int .i64 0, .int .i64 0] 135 (0, 0))) := hid (by rw [hW2]; exact heap_alloc_new W _)
    have R0 := hid ((hb2.block w.heap.size (by omega)).trans ((hbb.block w.heap.size l0).trans H0.out))
    have R1 := hid ((hb2.block (w.heap.size + 1) (by omega)).trans ((hbb.block (w.heap.size + 1) l1).trans H1.out))
    have RG := hid ((hb2.block g hlg).trans hrow)
    have hbx : Below w.heap.size w W2 := (hbW0.trans (hbb.mono (by omega))).trans (hb2.mono (by omega))
    go_wp2_with fail
    rw [← hW2]
    clear hW2 hrow
    go_loopw [25] (fun i wr => ∃ (k : Nat) (o0 o1 o2 : Int), k ≤ 3 ∧ i = .int .i64 k ∧ Hid (wr.heap[W.heap.size]? = some (.cells #[.int .i64 o0, .int .i64 o1, .int .i64 o2] 135 (0, 0))) ∧ Hid ((0 < k → o0 = vx) ∧ (1 < k → o1 = vy) ∧ (2 < k → o2 = vz)) ∧ Below W.heap.size W2 wr) (fun i _ => 3 - (intOf i).toNat)
    case atStart => exact ⟨0, 0, 0, 0, by omega, rfl, R9, hid ⟨by omega, by omega, by omega⟩, Below.refl _ _⟩
    case round =>
      obtain ⟨k, o0, o1, o2, hk, rfl, HR, HO, hbel⟩ := hrel
      have hzw := hbel.size
      have r0 := (hbel.block w.heap.size (by omega)).trans R0.out
      have r1 := (hbel.block (w.heap.size + 1) (by omega)).trans R1.out
      have rg := (hbel.block g hlg).trans RG.out
      have hby : Below w.heap.size w wr := hbx.trans (hbel.mono (by omega))
      have a4 : wr.cell? ⟨w.heap.size, 4, none⟩ = some (.int .i64 tk) := by rw [cell_of_row wr _ 4 _ _ (0, 0) r0]; rfl
      obtain ⟨b0, b1, b2, fb0, fb1, fb2, hl1⟩ := three_cells r1
      obtain ⟨d0, d1, d2, fd0, fd1, fd2, hlg'⟩ := three_cells rg
      have hro := HR.out
      obtain ⟨f0, f1, f2, ff0, ff1, ff2, hl9⟩ := three_cells hro
      have hl0 : w.heap.size < wr.heap.size := (Array.getElem?_eq_some_iff.1 r0).1
      clear c0 c1 c2 c3 e0 e1 e2 e3 fb0 fb1 fb2 fd0 fd1 fd2 hro r0 r1 rg
      have hl0W : w.heap.size < W.heap.size := by omega
      have hl1W : w.heap.size + 1 < W.heap.size := by omega
      rcases (by omega : k = 0 ∨ k = 1 ∨ k = 2 ∨ k = 3) with rfl | rfl | rfl | rfl
      · obtain ⟨T, P, k1, k2, k6⟩ := HS0.out
        go_wp2_with fail
        refine wp_mixC (fun wc => Below (W.heap.size) wr wc) 14 [.q [0, 1, 2, 3, 4, 5, 6, 7, 8, 9, 10, 11, 12, 13]] [.q [14], .f [15]] (by kernel_rfl) (by kernel_rfl) ((Below.refl _ _).drew) ?_
        intro Q' hQ'
        (rw [wpMixC]; simp only [pick, List.drop_succ_cons, List.drop_zero, List.head?_cons, Option.toList_some, List.cons_append, List.nil_append])
        (repeat (first | go_big_quiet_skip | (go_big_quiet_want; refine quiet_simple rfl ?_; go_big_quiet_op; go_big_quiet_on) | (go_big_quiet_want; refine quiet_cellB (ty := 3) rfl rfl (by kernel_rfl) (by assumption) (by first | omega | (simp; omega)) ?_; simp only [Act.put, List.setIfInBounds_toArray, List.set_cons_succ, List.set_cons_zero]; go_big_quiet_on)))
        (try refine wpQuiet_nil ?_)
        (rw [wpMixC])
        (rw [wpMix]; simp only [pick, List.drop_succ_cons, List.drop_zero, List.head?_cons, Option.toList_some, List.cons_append, List.nil_append])
        (repeat (first | (go_big_quiet_step (fail)) | (quiet_step (fail))))
        (try refine wpQuiet_nil ?_)
        (rw [wpMix]; simp only [pick, List.drop_succ_cons, List.drop_zero, List.head?_cons, Option.toList_some, List.cons_append, List.nil_append])
        (go_wp2_with ((first | fail)); rw [contF])
        (rw [wpMix])
        (refine hQ' _ _ ?_)
        go_wp2_with fail
        go_roundw
        case rel => exact ⟨1, vx, o1, o2, by omega, by go_num, hid (heap_setCell_same _ _ 0 _ _ _ HR.out), hid ⟨fun _ => rfl, fun h => absurd h (by omega), fun h => absurd h (by omega)⟩, by (repeat (with_reducible first | exact Below.refl _ _ | assumption | refine Below.drewN _ ?_ | refine Below.drew ?_ | refine Below_alloc ?_ _ | refine Below.alloc ?_ (by first | (simp; done) | (simp; omega) | omega) _ | refine Below.setCell ?_ (by first | (simp; done) | (simp; omega) | omega) _ | refine Below_call ?_ (by assumption) | refine Below.trans ?_ (by assumption)))⟩
        case measure => simp [intOf]
      · obtain ⟨T, P, k1, k2, k6⟩ := HS1.out
        go_wp2_with fail
        refine wp_mixC (fun wc => Below (W.heap.size) wr wc) 14 [.q [0, 1, 2, 3, 4, 5, 6, 7, 8, 9, 10, 11, 12, 13]] [.q [14], .f [15]] (by kernel_rfl) (by kernel_rfl) ((Below.refl _ _).drew) ?_
        intro Q' hQ'
        (rw [wpMixC]; simp only [pick, List.drop_succ_cons, List.drop_zero, List.head?_cons, Option.toList_some, List.cons_append, List.nil_append])
        (repeat (first | go_big_quiet_skip | (go_big_quiet_want; refine quiet_simple rfl ?_; go_big_quiet_op; go_big_quiet_on) | (go_big_quiet_want; refine quiet_cellB (ty := 3) rfl rfl (by kernel_rfl) (by assumption) (by first | omega | (simp; omega)) ?_; simp only [Act.put, List.setIfInBounds_toArray, List.set_cons_succ, List.set_cons_zero]; go_big_quiet_on)))
        (try refine wpQuiet_nil ?_)
        (rw [wpMixC])
        (rw [wpMix]; simp only [pick, List.drop_succ_cons, List.drop_zero, List.head?_cons, Option.toList_some, List.cons_append, List.nil_append])
        (repeat (first | (go_big_quiet_step (fail)) | (quiet_step (fail))))
        (try refine wpQuiet_nil ?_)
        (rw [wpMix]; simp only [pick, List.drop_succ_cons, List.drop_zero, List.head?_cons, Option.toList_some, List.cons_append, List.nil_append])
        (go_wp2_with ((first | fail)); rw [contF])
        (rw [wpMix])
        (refine hQ' _ _ ?_)
        go_wp2_with fail
        go_roundw
        case rel => exact ⟨2, o0, vy, o2, by omega, by go_num, hid (heap_setCell_same _ _ 1 _ _ _ HR.out), hid ⟨fun _ => HO.out.1 (by omega), fun h => rfl, fun h => absurd h (by omega)⟩, by (repeat (with_reducible first | exact Below.refl _ _ | assumption | refine Below.drewN _ ?_ | refine Below.drew ?_ | refine Below_alloc ?_ _ | refine Below.alloc ?_ (by first | (simp; done) | (simp; omega) | omega) _ | refine Below.setCell ?_ (by first | (simp; done) | (simp; omega) | omega) _ | refine Below_call ?_ (by assumption) | refine Below.trans ?_ (by assumption)))⟩
        case measure => simp [intOf]
      · obtain ⟨T, P, k1, k2, k6⟩ := HS2.out
        go_wp2_with fail
        refine wp_mixC (fun wc => Below (W.heap.size) wr wc) 14 [.q [0, 1, 2, 3, 4, 5, 6, 7, 8, 9, 10, 11, 12, 13]] [.q [14], .f [15]] (by kernel_rfl) (by kernel_rfl) ((Below.refl _ _).drew) ?_
        intro Q' hQ'
        (rw [wpMixC]; simp only [pick, List.drop_succ_cons, List.drop_zero, List.head?_cons, Option.toList_some, List.cons_append, List.nil_append])
        (repeat (first | go_big_quiet_skip | (go_big_quiet_want; refine quiet_simple rfl ?_; go_big_quiet_op; go_big_quiet_on) | (go_big_quiet_want; refine quiet_cellB (ty := 3) rfl rfl (by kernel_rfl) (by assumption) (by first | omega | (simp; omega)) ?_; simp only [Act.put, List.setIfInBounds_toArray, List.set_cons_succ, List.set_cons_zero]; go_big_quiet_on)))
        (try refine wpQuiet_nil ?_)
        (rw [wpMixC])
        (rw [wpMix]; simp only [pick, List.drop_succ_cons, List.drop_zero, List.head?_cons, Option.toList_some, List.cons_append, List.nil_append])
        (repeat (first | (go_big_quiet_step (fail)) | (quiet_step (fail))))
        (try refine wpQuiet_nil ?_)
        (rw [wpMix]; simp only [pick, List.drop_succ_cons, List.drop_zero, List.head?_cons, Option.toList_some, List.cons_append, List.nil_append])
        (go_wp2_with ((first | fail)); rw [contF])
        (rw [wpMix])
        (refine hQ' _ _ ?_)
        go_wp2_with fail
        go_roundw
        case rel => exact ⟨3, o0, o1, vz, by omega, by go_num, hid (heap_setCell_same _ _ 2 _ _ _ HR.out), hid ⟨fun _ => HO.out.1 (by omega), fun _ => HO.out.2.1 (by omega), fun _ => rfl⟩, by (repeat (with_reducible first | exact Below.refl _ _ | assumption | refine Below.drewN _ ?_ | refine Below.drew ?_ | refine Below_alloc ?_ _ | refine Below.alloc ?_ (by first | (simp; done) | (simp; omega) | omega) _ | refine Below.setCell ?_ (by first | (simp; done) | (simp; omega) | omega) _ | refine Below_call ?_ (by assumption) | refine Below.trans ?_ (by assumption)))⟩
        case measure => simp [intOf]
      · have r0x := (hbel.block w.heap.size (by omega)).trans R0.out
        obtain rfl := HO.out.1 (by omega)
        obtain rfl := HO.out.2.1 (by omega)
        obtain rfl := HO.out.2.2 (by omega)
        go_wp2_with fail
        have hB3 := hid hby
        have R0z := hid r0x
        have R1z := hid ((hbel.block (w.heap.size + 1) (by omega)).trans R1.out)
        clear r0x
        refine wp_mixC (fun wc => Below (wr.heap.size) wr wc) 7 [.q [0, 1, 3, 4], .f [2, 5], .q [6]] [.q [7]] (by kernel_rfl) (by kernel_rfl) ((Below.refl _ _).drew) ?_
        intro Q' hQ'
        (rw [wpMixC]; simp only [pick, List.drop_succ_cons, List.drop_zero, List.head?_cons, Option.toList_some, List.cons_append, List.nil_append])
        (repeat (first | go_big_quiet_skip | (go_big_quiet_want; refine quiet_simple rfl ?_; go_big_quiet_op; go_big_quiet_on) | (go_big_quiet_want; refine quiet_agg3B (ty := 135) rfl rfl (by kernel_rfl) (by assumption) (by assumption) (by assumption) (by first | omega | (simp; omega)) ?_; simp only [Act.put, List.setIfInBounds_toArray, List.set_cons_succ, List.set_cons_zero]; go_big_quiet_on)))
        (try refine wpQuiet_nil ?_)
        (rw [wpMixC]; simp only [pick, List.drop_succ_cons, List.drop_zero, List.head?_cons, Option.toList_some, List.cons_append, List.nil_append])
        (rw [wpSteps]; go_wp2_with ((first | (go_at_call 78; ((with_reducible refine (HD2.out _).mono ?_); rintro _ w3 ⟨rfl, hb3⟩)) | (go_at_call 78; ((with_reducible refine (HD3.out _).mono ?_); rintro _ w4 ⟨rfl, hb4⟩)))); rw [contF]; refine ⟨?_, ?_⟩; (next => (repeat (with_reducible first | exact Below.refl _ _ | assumption | refine Below.drewN _ ?_ | refine Below.drew ?_ | refine Below_alloc ?_ _ | refine Below.alloc ?_ (by first | (simp; done) | (simp; omega) | omega) _ | refine Below.setCell ?_ (by first | (simp; done) | (simp; omega) | omega) _ | refine Below_call ?_ (by assumption) | refine Below.trans ?_ (by assumption)))))
        (rw [wpSteps]; go_wp2_with ((first | (go_at_call 78; ((with_reducible refine (HD2.out _).mono ?_); rintro _ w3 ⟨rfl, hb3⟩)) | (go_at_call 78; ((with_reducible refine (HD3.out _).mono ?_); rintro _ w4 ⟨rfl, hb4⟩)))); rw [contF]; refine ⟨?_, ?_⟩; (next => (repeat (with_reducible first | exact Below.refl _ _ | assumption | refine Below.drewN _ ?_ | refine Below.drew ?_ | refine Below_alloc ?_ _ | refine Below.alloc ?_ (by first | (simp; done) | (simp; omega) | omega) _ | refine Below.setCell ?_ (by first | (simp; done) | (simp; omega) | omega) _ | refine Below_call ?_ (by assumption) | refine Below.trans ?_ (by assumption)))))
        (rw [wpSteps])
        (rw [wpMixC]; simp only [pick, List.drop_succ_cons, List.drop_zero, List.head?_cons, Option.toList_some, List.cons_append, List.nil_append])
        (repeat (first | go_big_quiet_skip | (go_big_quiet_want; refine quiet_simple rfl ?_; go_big_quiet_op; go_big_quiet_on) | (go_big_quiet_want; refine quiet_agg3B (ty := 135) rfl rfl (by kernel_rfl) (by assumption) (by assumption) (by assumption) (by first | omega | (simp; omega)) ?_; simp only [Act.put, List.setIfInBounds_toArray, List.set_cons_succ, List.set_cons_zero]; go_big_quiet_on)))
        (try refine wpQuiet_nil ?_)
        (rw [wpMixC])
        (rw [wpMix]; simp only [pick, List.drop_succ_cons, List.drop_zero, List.head?_cons, Option.toList_some, List.cons_append, List.nil_append])
        (repeat (first | (go_big_quiet_step (fail)) | (quiet_step (fail))))
        (try refine wpQuiet_nil ?_)
        (rw [wpMix])
        (refine hQ' _ _ ?_)
        go_wp2_with fail
        have hb5 : Below wr.heap.size wr w4 := by (repeat (with_reducible first | exact Below.refl _ _ | assumption | refine Below.drewN _ ?_ | refine Below.drew ?_ | refine Below_alloc ?_ _ | refine Below.alloc ?_ (by first | (simp; done) | (simp; omega) | omega) _ | refine Below.setCell ?_ (by first | (simp; done) | (simp; omega) | omega) _ | refine Below_call ?_ (by assumption) | refine Below.trans ?_ (by assumption)))
        have hb6 : Below w.heap.size w w4 := hB3.out.trans (hb5.mono (by omega))
        have hB6 := hid hb6
        have y0 := (hb5.block w.heap.size (by omega)).trans R0z.out
        have y1 := (hb5.block (w.heap.size + 1) (by omega)).trans R1z.out
        obtain ⟨s0, s1, s2, fs0, fs1, fs2, hls⟩ := three_cells y1
        have m0 : w4.cell? ⟨w.heap.size, 0, none⟩ = some (.int .i64 px) := by rw [cell_of_row w4 _ 0 _ _ (0, 0) y0]; rfl
        have m1 : w4.cell? ⟨w.heap.size, 1, none⟩ = some (.int .i64 py) := by rw [cell_of_row w4 _ 1 _ _ (0, 0) y0]; rfl
        have m2 : w4.cell? ⟨w.heap.size, 2, none⟩ = some (.int .i64 pz) := by rw [cell_of_row w4 _ 2 _ _ (0, 0) y0]; rfl
        have m3 : w4.cell? ⟨w.heap.size, 3, none⟩ = some (.int .i64 tm) := by rw [cell_of_row w4 _ 3 _ _ (0, 0) y0]; rfl
        have m4 : w4.cell? ⟨w.heap.size, 4, none⟩ = some (.int .i64 tk) := by rw [cell_of_row w4 _ 4 _ _ (0, 0) y0]; rfl
        have m5 : w4.cell? ⟨w.heap.size, 5, none⟩ = some (.int .i64 lo) := by rw [cell_of_row w4 _ 5 _ _ (0, 0) y0]; rfl
        have m6 : w4.cell? ⟨w.heap.size, 6, none⟩ = some (.int .i64 hi) := by rw [cell_of_row w4 _ 6 _ _ (0, 0) y0]; rfl
        have m7 : w4.cell? ⟨w.heap.size, 7, none⟩ = some (.int .i64 li) := by rw [cell_of_row w4 _ 7 _ _ (0, 0) y0]; rfl
        have m8 : w4.cell? ⟨w.heap.size, 8, none⟩ = some (.int .i64 ea) := by rw [cell_of_row w4 _ 8 _ _ (0, 0) y0]; rfl
        have m9 : w4.cell? ⟨w.heap.size, 9, none⟩ = some (.int .i64 la) := by rw [cell_of_row w4 _ 9 _ _ (0, 0) y0]; rfl
        have m10 : w4.cell? ⟨w.heap.size, 10, none⟩ = some (.int .i64 no) := by rw [cell_of_row w4 _ 10 _ _ (0, 0) y0]; rfl
        have m11 : w4.cell? ⟨w.heap.size, 11, none⟩ = some (.int .i64 mi) := by rw [cell_of_row w4 _ 11 _ _ (0, 0) y0]; rfl
        have hlm : w.heap.size < w4.heap.size := (Array.getElem?_eq_some_iff.1 y0).1
        clear y0 y1 fs0 fs1 fs2 hb3 hb4 hb5 f0 f1 f2 ff0 ff1 ff2 b0 b1 b2 d0 d1 d2 a4 hby hbel
        by_cases g1 : C = 0
        · have g1a : (C == 0) = true := by simpa using g1
          have HV : Hid (R = true) := hid (by rw [HER.out]; simp [g1])
          clear g1
          refine wp_mixC (fun wc => Below (w4.heap.size) w4 wc) 20 [.q [0, 1, 2, 3, 4, 5, 6, 7, 8, 9, 10, 12, 15], .f [11, 13], .q [14, 16, 17, 18, 19]] [.q [20]] (by kernel_rfl) (by kernel_rfl) ((Below.refl _ _).drew) ?_
          intro Q' hQ'
          (rw [wpMixC]; simp only [pick, List.drop_succ_cons, List.drop_zero, List.head?_cons, Option.toList_some, List.cons_append, List.nil_append])
          (repeat (first | go_big_quiet_skip | (go_big_quiet_want; refine quiet_simple rfl ?_; go_big_quiet_op; go_big_quiet_on) | (go_big_quiet_want; refine quiet_agg12B (ty := 134) rfl rfl (by kernel_rfl) (by assumption) (by assumption) (by assumption) (by assumption) (by assumption) (by assumption) (by assumption) (by assumption) (by assumption) (by assumption) (by assumption) (by assumption) (by first | omega | (simp; omega)) ?_; simp only [Act.put, List.setIfInBounds_toArray, List.set_cons_succ, List.set_cons_zero]; go_big_quiet_on) | (go_big_quiet_want; refine quiet_agg3B (ty := 135) rfl rfl (by kernel_rfl) (by assumption) (by assumption) (by assumption) (by first | omega | (simp; omega)) ?_; simp only [Act.put, List.setIfInBounds_toArray, List.set_cons_succ, List.set_cons_zero]; go_big_quiet_on)))
          (try refine wpQuiet_nil ?_)
          (rw [wpMixC]; simp only [pick, List.drop_succ_cons, List.drop_zero, List.head?_cons, Option.toList_some, List.cons_append, List.nil_append])
          (rw [wpSteps]; go_wp2_with ((go_at_call 78; ((with_reducible refine (HD1.out _).mono ?_); rintro _ w5 ⟨rfl, hb5⟩))); rw [contF]; refine ⟨?_, ?_⟩; (next => (repeat (with_reducible first | exact Below.refl _ _ | assumption | refine Below.drewN _ ?_ | refine Below.drew ?_ | refine Below_alloc ?_ _ | refine Below.alloc ?_ (by first | (simp; done) | (simp; omega) | omega) _ | refine Below.setCell ?_ (by first | (simp; done) | (simp; omega) | omega) _ | refine Below_call ?_ (by assumption) | refine Below.trans ?_ (by assumption)))))
          (rw [wpSteps]; go_wp2_with ((go_at_call 121; ((with_reducible refine (HSL.out _).mono ?_); rintro _ w6 ⟨rfl, hb6'⟩))); rw [contF]; refine ⟨?_, ?_⟩; (next => (repeat (with_reducible first | exact Below.refl _ _ | assumption | refine Below.drewN _ ?_ | refine Below.drew ?_ | refine Below_alloc ?_ _ | refine Below.alloc ?_ (by first | (simp; done) | (simp; omega) | omega) _ | refine Below.setCell ?_ (by first | (simp; done) | (simp; omega) | omega) _ | refine Below_call ?_ (by assumption) | refine Below.trans ?_ (by assumption)))))
          (rw [wpSteps])
          (rw [wpMixC]; simp only [pick, List.drop_succ_cons, List.drop_zero, List.head?_cons, Option.toList_some, List.cons_append, List.nil_append])
          (repeat (first | go_big_quiet_skip | (go_big_quiet_want; refine quiet_simple rfl ?_; go_big_quiet_op; go_big_quiet_on) | (go_big_quiet_want; refine quiet_agg12B (ty := 134) rfl rfl (by kernel_rfl) (by assumption) (by assumption) (by assumption) (by assumption) (by assumption) (by assumption) (by assumption) (by assumption) (by assumption) (by assumption) (by assumption) (by assumption) (by first | omega | (simp; omega)) ?_; simp only [Act.put, List.setIfInBounds_toArray, List.set_cons_succ, List.set_cons_zero]; go_big_quiet_on) | (go_big_quiet_want; refine quiet_agg3B (ty := 135) rfl rfl (by kernel_rfl) (by assumption) (by assumption) (by assumption) (by first | omega | (simp; omega)) ?_; simp only [Act.put, List.setIfInBounds_toArray, List.set_cons_succ, List.set_cons_zero]; go_big_quiet_on)))
          (try refine wpQuiet_nil ?_)
          (rw [wpMixC])
          (rw [wpMix]; simp only [pick, List.drop_succ_cons, List.drop_zero, List.head?_cons, Option.toList_some, List.cons_append, List.nil_append])
          (repeat (first | (go_big_quiet_step (fail)) | (quiet_step (fail))))
          (try refine wpQuiet_nil ?_)
          (rw [wpMix])
          (refine hQ' _ _ ?_)
          go_wp2_with fail
          go_ret
          exact ⟨ret_bool (by rw [HV.out]), by (repeat (with_reducible first | exact Below.refl _ _ | assumption | refine Below.drewN _ ?_ | refine Below.drew ?_ | refine Below_alloc ?_ _ | refine Below.alloc ?_ (by first | (simp; done) | (simp; omega) | omega) _ | refine Below.setCell ?_ (by first | (simp; done) | (simp; omega) | omega) _ | refine Below_call ?_ (by assumption) | refine Below.trans ?_ (by assumption)))⟩
        · have g1a : (C == 0) = false := by simpa using g1
          by_cases g2 : B ≤ 0
          · have g2a : decide (B ≤ 0) = true := by simpa using g2
            have HV : Hid (R = decide (FC ≤ BB)) := hid (by rw [HER.out]; simp [g1, g2])
            refine wp_mixC (fun wc => Below (w4.heap.size) w4 wc) 20 [.q [0, 1, 2, 3, 4, 5, 6, 7, 8, 9, 10, 12, 15], .f [11, 13], .q [14, 16, 17, 18, 19]] [.q [20]] (by kernel_rfl) (by kernel_rfl) ((Below.refl _ _).drew) ?_
            intro Q' hQ'
            (rw [wpMixC]; simp only [pick, List.drop_succ_cons, List.drop_zero, List.head?_cons, Option.toList_some, List.cons_append, List.nil_append])
            (repeat (first | go_big_quiet_skip | (go_big_quiet_want; refine quiet_simple rfl ?_; go_big_quiet_op; go_big_quiet_on) | (go_big_quiet_want; refine quiet_agg12B (ty := 134) rfl rfl (by kernel_rfl) (by assumption) (by assumption) (by assumption) (by assumption) (by assumption) (by assumption) (by assumption) (by assumption) (by assumption) (by assumption) (by assumption) (by assumption) (by first | omega | (simp; omega)) ?_; simp only [Act.put, List.setIfInBounds_toArray, List.set_cons_succ, List.set_cons_zero]; go_big_quiet_on) | (go_big_quiet_want; refine quiet_agg3B (ty := 135) rfl rfl (by kernel_rfl) (by assumption) (by assumption) (by assumption) (by first | omega | (simp; omega)) ?_; simp only [Act.put, List.setIfInBounds_toArray, List.set_cons_succ, List.set_cons_zero]; go_big_quiet_on)))
            (try refine wpQuiet_nil ?_)
            (rw [wpMixC]; simp only [pick, List.drop_succ_cons, List.drop_zero, List.head?_cons, Option.toList_some, List.cons_append, List.nil_append])
            (rw [wpSteps]; go_wp2_with ((go_at_call 78; ((with_reducible refine (HD1.out _).mono ?_); rintro _ w5 ⟨rfl, hb5⟩))); rw [contF]; refine ⟨?_, ?_⟩; (next => (repeat (with_reducible first | exact Below.refl _ _ | assumption | refine Below.drewN _ ?_ | refine Below.drew ?_ | refine Below_alloc ?_ _ | refine Below.alloc ?_ (by first | (simp; done) | (simp; omega) | omega) _ | refine Below.setCell ?_ (by first | (simp; done) | (simp; omega) | omega) _ | refine Below_call ?_ (by assumption) | refine Below.trans ?_ (by assumption)))))
            (rw [wpSteps]; go_wp2_with ((go_at_call 121; ((with_reducible refine (HSL.out _).mono ?_); rintro _ w6 ⟨rfl, hb6'⟩))); rw [contF]; refine ⟨?_, ?_⟩; (next => (repeat (with_reducible first | exact Below.refl _ _ | assumption | refine Below.drewN _ ?_ | refine Below.drew ?_ | refine Below_alloc ?_ _ | refine Below.alloc ?_ (by first | (simp; done) | (simp; omega) | omega) _ | refine Below.setCell ?_ (by first | (simp; done) | (simp; omega) | omega) _ | refine Below_call ?_ (by assumption) | refine Below.trans ?_ (by assumption)))))
            (rw [wpSteps])
            (rw [wpMixC]; simp only [pick, List.drop_succ_cons, List.drop_zero, List.head?_cons, Option.toList_some, List.cons_append, List.nil_append])
            (repeat (first | go_big_quiet_skip | (go_big_quiet_want; refine quiet_simple rfl ?_; go_big_quiet_op; go_big_quiet_on) | (go_big_quiet_want; refine quiet_agg12B (ty := 134) rfl rfl (by kernel_rfl) (by assumption) (by assumption) (by assumption) (by assumption) (by assumption) (by assumption) (by assumption) (by assumption) (by assumption) (by assumption) (by assumption) (by assumption) (by first | omega | (simp; omega)) ?_; simp only [Act.put, List.setIfInBounds_toArray, List.set_cons_succ, List.set_cons_zero]; go_big_quiet_on) | (go_big_quiet_want; refine quiet_agg3B (ty := 135) rfl rfl (by kernel_rfl) (by assumption) (by assumption) (by assumption) (by first | omega | (simp; omega)) ?_; simp only [Act.put, List.setIfInBounds_toArray, List.set_cons_succ, List.set_cons_zero]; go_big_quiet_on)))
            (try refine wpQuiet_nil ?_)
            (rw [wpMixC])
            (rw [wpMix]; simp only [pick, List.drop_succ_cons, List.drop_zero, List.head?_cons, Option.toList_some, List.cons_append, List.nil_append])
            (repeat (first | (go_big_quiet_step (fail)) | (quiet_step (fail))))
            (try refine wpQuiet_nil ?_)
            (rw [wpMix])
            (refine hQ' _ _ ?_)
            go_wp2_with fail
            go_ret
            exact ⟨ret_bool (by rw [HV.out]), by (repeat (with_reducible first | exact Below.refl _ _ | assumption | refine Below.drewN _ ?_ | refine Below.drew ?_ | refine Below_alloc ?_ _ | refine Below.alloc ?_ (by first | (simp; done) | (simp; omega) | omega) _ | refine Below.setCell ?_ (by first | (simp; done) | (simp; omega) | omega) _ | refine Below_call ?_ (by assumption) | refine Below.trans ?_ (by assumption)))⟩
          · have g2a : decide (B ≤ 0) = false := by simpa using g2
            have HV : Hid (R = false) := hid (by rw [HER.out]; simp [g1, g2])
            refine wp_mixC (fun wc => Below (w4.heap.size) w4 wc) 20 [.q [0, 1, 2, 3, 4, 5, 6, 7, 8, 9, 10, 12, 15], .f [11, 13], .q [14, 16, 17, 18, 19]] [.q [20]] (by kernel_rfl) (by kernel_rfl) ((Below.refl _ _).drew) ?_
            intro Q' hQ'
            (rw [wpMixC]; simp only [pick, List.drop_succ_cons, List.drop_zero, List.head?_cons, Option.toList_some, List.cons_append, List.nil_append])
            (repeat (first | go_big_quiet_skip | (go_big_quiet_want; refine quiet_simple rfl ?_; go_big_quiet_op; go_big_quiet_on) | (go_big_quiet_want; refine quiet_agg12B (ty := 134) rfl rfl (by kernel_rfl) (by assumption) (by assumption) (by assumption) (by assumption) (by assumption) (by assumption) (by assumption) (by assumption) (by assumption) (by assumption) (by assumption) (by assumption) (by first | omega | (simp; omega)) ?_; simp only [Act.put, List.setIfInBounds_toArray, List.set_cons_succ, List.set_cons_zero]; go_big_quiet_on) | (go_big_quiet_want; refine quiet_agg3B (ty := 135) rfl rfl (by kernel_rfl) (by assumption) (by assumption) (by assumption) (by first | omega | (simp; omega)) ?_; simp only [Act.put, List.setIfInBounds_toArray, List.set_cons_succ, List.set_cons_zero]; go_big_quiet_on)))
            (try refine wpQuiet_nil ?_)
            (rw [wpMixC]; simp only [pick, List.drop_succ_cons, List.drop_zero, List.head?_cons, Option.toList_some, List.cons_append, List.nil_append])
            (rw [wpSteps]; go_wp2_with ((go_at_call 78; ((with_reducible refine (HD1.out _).mono ?_); rintro _ w5 ⟨rfl, hb5⟩))); rw [contF]; refine ⟨?_, ?_⟩; (next => (repeat (with_reducible first | exact Below.refl _ _ | assumption | refine Below.drewN _ ?_ | refine Below.drew ?_ | refine Below_alloc ?_ _ | refine Below.alloc ?_ (by first | (simp; done) | (simp; omega) | omega) _ | refine Below.setCell ?_ (by first | (simp; done) | (simp; omega) | omega) _ | refine Below_call ?_ (by assumption) | refine Below.trans ?_ (by assumption)))))
            (rw [wpSteps]; go_wp2_with ((go_at_call 121; ((with_reducible refine (HSL.out _).mono ?_); rintro _ w6 ⟨rfl, hb6'⟩))); rw [contF]; refine ⟨?_, ?_⟩; (next => (repeat (with_reducible first | exact Below.refl _ _ | assumption | refine Below.drewN _ ?_ | refine Below.drew ?_ | refine Below_alloc ?_ _ | refine Below.alloc ?_ (by first | (simp; done) | (simp; omega) | omega) _ | refine Below.setCell ?_ (by first | (simp; done) | (simp; omega) | omega) _ | refine Below_call ?_ (by assumption) | refine Below.trans ?_ (by assumption)))))
            (rw [wpSteps])
            (rw [wpMixC]; simp only [pick, List.drop_succ_cons, List.drop_zero, List.head?_cons, Option.toList_some, List.cons_append, List.nil_append])
            (repeat (first | go_big_quiet_skip | (go_big_quiet_want; refine quiet_simple rfl ?_; go_big_quiet_op; go_big_quiet_on) | (go_big_quiet_want; refine quiet_agg12B (ty := 134) rfl rfl (by kernel_rfl) (by assumption) (by assumption) (by assumption) (by assumption) (by assumption) (by assumption) (by assumption) (by assumption) (by assumption) (by assumption) (by assumption) (by assumption) (by first | omega | (simp; omega)) ?_; simp only [Act.put, List.setIfInBounds_toArray, List.set_cons_succ, List.set_cons_zero]; go_big_quiet_on) | (go_big_quiet_want; refine quiet_agg3B (ty := 135) rfl rfl (by kernel_rfl) (by assumption) (by assumption) (by assumption) (by first | omega | (simp; omega)) ?_; simp only [Act.put, List.setIfInBounds_toArray, List.set_cons_succ, List.set_cons_zero]; go_big_quiet_on)))
            (try refine wpQuiet_nil ?_)
            (rw [wpMixC])
            (rw [wpMix]; simp only [pick, List.drop_succ_cons, List.drop_zero, List.head?_cons, Option.toList_some, List.cons_append, List.nil_append])
            (repeat (first | (go_big_quiet_step (fail)) | (quiet_step (fail))))
            (try refine wpQuiet_nil ?_)
            (rw [wpMix])
            (refine hQ' _ _ ?_)
            go_wp2_with fail
            go_ret
            exact ⟨ret_bool (by rw [HV.out]), by (repeat (with_reducible first | exact Below.refl _ _ | assumption | refine Below.drewN _ ?_ | refine Below.drew ?_ | refine Below_alloc ?_ _ | refine Below.alloc ?_ (by first | (simp; done) | (simp; omega) | omega) _ | refine Below.setCell ?_ (by first | (simp; done) | (simp; omega) | omega) _ | refine Below_call ?_ (by assumption) | refine Below.trans ?_ (by assumption)))⟩
end Go.Proofs.Ytlmdmpjfehpjeaa

/- Tracks: models opened by the program. -/
set_option linter.unusedVariables false
set_option linter.unusedSimpArgs false
namespace Go.Proofs.Ytlmdmpjfehpjeaa
open Go.RowKit

set_option maxRecDepth 100000 in
set_option maxHeartbeats 2000000 in
theorem track_momentErr (p : V3) (t : Int) (w : World) : Calls Try.prog 74 #[.agg #[.int .i64 p.x, .int .i64 p.y, .int .i64 p.z, .int .i64 t]] w fun e w' => e = .returned (.int .i64 (momE p t)) ∧ Below w.heap.size w w' := by
  have HP : Hid (∀ W, Calls Try.prog 70 #[p.v] W fun e w' => e = .returned (.int .i64 (plE p)) ∧ Below W.heap.size W w') := hid (fun W => track_placeErr p W)
  have HE : Hid (momE p t = firstNZ [plE p, unl (inB t (-1000000) 1000000) 2]) := hid rfl
  generalize plE p = P at HP HE
  generalize momE p t = E at HE ⊢
  obtain ⟨x, y, z⟩ := p
  unfold V3.v at *
  simp only at *
  generalize hB : inB t (-1000000) 1000000 = B at HE
  have HB := hid hB
  clear hB
  obtain ⟨W, hW⟩ : ∃ W, W = w.alloc (.cells #[.int .i64 x, .int .i64 y, .int .i64 z, .int .i64 t] 28) := ⟨_, rfl⟩
  have hbW : Below w.heap.size w W := by rw [hW]; (repeat (with_reducible first | exact Below.refl _ _ | assumption | refine Below.drewN _ ?_ | refine Below.drew ?_ | refine Below_alloc ?_ _ | refine Below.alloc ?_ (by first | (simp; done) | (simp; omega) | omega) _ | refine Below.setCell ?_ (by first | (simp; done) | (simp; omega) | omega) _ | refine Below_call ?_ (by assumption) | refine Below.trans ?_ (by assumption)))
  have q0 : W.heap[w.heap.size]? = some (.cells #[.int .i64 x, .int .i64 y, .int .i64 z, .int .i64 t] 28 (0, 0)) := by rw [hW]; exact heap_alloc_new w _
  have c0 : W.cell? ⟨w.heap.size, 0, none⟩ = some (.int .i64 x) := by rw [cell_of_row W _ 0 _ _ (0, 0) q0]; rfl
  have c1 : W.cell? ⟨w.heap.size, 1, none⟩ = some (.int .i64 y) := by rw [cell_of_row W _ 1 _ _ (0, 0) q0]; rfl
  have c2 : W.cell? ⟨w.heap.size, 2, none⟩ = some (.int .i64 z) := by rw [cell_of_row W _ 2 _ _ (0, 0) q0]; rfl
  have c3 : W.cell? ⟨w.heap.size, 3, none⟩ = some (.int .i64 t) := by rw [cell_of_row W _ 3 _ _ (0, 0) q0]; rfl
  have hl0 := (Array.getElem?_eq_some_iff.1 q0).1
  clear q0
  go_enter Try.func74, Try.ntmps74
  go_wp2_with fail
  rw [← hW]
  clear hW
  refine wp_mixC (fun wc => Below (W.heap.size) W wc) 9 [.q [0, 1, 3, 4], .f [2, 5, 6, 7, 8]] [.q [9]] (by kernel_rfl) (by kernel_rfl) ((Below.refl _ _).drew) ?_
  intro Q' hQ'
  (rw [wpMixC]; simp only [pick, List.drop_succ_cons, List.drop_zero, List.head?_cons, Option.toList_some, List.cons_append, List.nil_append])
  (repeat (first | go_big_quiet_skip | (go_big_quiet_want; refine quiet_simple rfl ?_; go_big_quiet_op; go_big_quiet_on) | (go_big_quiet_want; refine quiet_cellB (ty := 3) rfl rfl (by kernel_rfl) (by assumption) (by first | omega | (simp; omega)) ?_; simp only [Act.put, List.setIfInBounds_toArray, List.set_cons_succ, List.set_cons_zero]; go_big_quiet_on) | (go_big_quiet_want; refine quiet_agg3B (ty := 22) rfl rfl (by kernel_rfl) (by assumption) (by assumption) (by assumption) (by first | omega | (simp; omega)) ?_; simp only [Act.put, List.setIfInBounds_toArray, List.set_cons_succ, List.set_cons_zero]; go_big_quiet_on)))
  (try refine wpQuiet_nil ?_)
  (rw [wpMixC]; simp only [pick, List.drop_succ_cons, List.drop_zero, List.head?_cons, Option.toList_some, List.cons_append, List.nil_append])
  (rw [wpSteps]; go_wp2_with ((first | (go_at_call 70; refine (HP.out _).mono ?_; rintro _ w1 ⟨rfl, hb1⟩) | (first | (go_at_call 69; refine (track_first [P, unl B 2] _ _ (intsAt_new _ _ _ _ _ rfl (by simp) (by first | rfl | simp))).mono ?_; rintro _ _ ⟨rfl, rfl⟩) | (go_at_call 69; refine (track_first [P, unl B 2] _ _ ((intsAt_new _ _ _ _ _ rfl (by simp) (by first | rfl | simp)).below (Below.drew (Below.refl _ _)))).mono ?_; rintro _ _ ⟨rfl, rfl⟩)))); rw [contF]; refine ⟨?_, ?_⟩; (next => (repeat (with_reducible first | exact Below.refl _ _ | assumption | refine Below.drewN _ ?_ | refine Below.drew ?_ | refine Below_alloc ?_ _ | refine Below.alloc ?_ (by first | (simp; done) | (simp; omega) | omega) _ | refine Below.setCell ?_ (by first | (simp; done) | (simp; omega) | omega) _ | refine Below_call ?_ (by assumption) | refine Below.trans ?_ (by assumption)))))
  (rw [wpSteps]; go_wp2_with ((first | (go_at_call 68; refine (track_within _ _ _ _).mono ?_; rw [HB.out]; rintro _ _ ⟨rfl, rfl⟩) | (first | (go_at_call 69; refine (track_first [P, unl B 2] _ _ (intsAt_new _ _ _ _ _ rfl (by simp) (by first | rfl | simp))).mono ?_; rintro _ _ ⟨rfl, rfl⟩) | (go_at_call 69; refine (track_first [P, unl B 2] _ _ ((intsAt_new _ _ _ _ _ rfl (by simp) (by first | rfl | simp)).below (Below.drew (Below.refl _ _)))).mono ?_; rintro _ _ ⟨rfl, rfl⟩)))); rw [contF]; refine ⟨?_, ?_⟩; (next => (repeat (with_reducible first | exact Below.refl _ _ | assumption | refine Below.drewN _ ?_ | refine Below.drew ?_ | refine Below_alloc ?_ _ | refine Below.alloc ?_ (by first | (simp; done) | (simp; omega) | omega) _ | refine Below.setCell ?_ (by first | (simp; done) | (simp; omega) | omega) _ | refine Below_call ?_ (by assumption) | refine Below.trans ?_ (by assumption)))))
  (rw [wpSteps]; go_wp2_with ((first | (go_at_call 72; refine (track_unless _ _ _).mono ?_; rintro _ _ ⟨rfl, rfl⟩) | (first | (go_at_call 69; refine (track_first [P, unl B 2] _ _ (intsAt_new _ _ _ _ _ rfl (by simp) (by first | rfl | simp))).mono ?_; rintro _ _ ⟨rfl, rfl⟩) | (go_at_call 69; refine (track_first [P, unl B 2] _ _ ((intsAt_new _ _ _ _ _ rfl (by simp) (by first | rfl | simp)).below (Below.drew (Below.refl _ _)))).mono ?_; rintro _ _ ⟨rfl, rfl⟩)))); rw [contF]; refine ⟨?_, ?_⟩; (next => (repeat (with_reducible first | exact Below.refl _ _ | assumption | refine Below.drewN _ ?_ | refine Below.drew ?_ | refine Below_alloc ?_ _ | refine Below.alloc ?_ (by first | (simp; done) | (simp; omega) | omega) _ | refine Below.setCell ?_ (by first | (simp; done) | (simp; omega) | omega) _ | refine Below_call ?_ (by assumption) | refine Below.trans ?_ (by assumption)))))
  (rw [wpSteps]; go_wp2_with ((first | (go_at_call 69; refine (track_first [P, unl B 2] _ _ (intsAt_new _ _ _ _ _ rfl (by simp) (by first | rfl | simp))).mono ?_; rintro _ _ ⟨rfl, rfl⟩) | (go_at_call 69; refine (track_first [P, unl B 2] _ _ ((intsAt_new _ _ _ _ _ rfl (by simp) (by first | rfl | simp)).below (Below.drew (Below.refl _ _)))).mono ?_; rintro _ _ ⟨rfl, rfl⟩))); rw [contF]; refine ⟨?_, ?_⟩; (next => (repeat (with_reducible first | exact Below.refl _ _ | assumption | refine Below.drewN _ ?_ | refine Below.drew ?_ | refine Below_alloc ?_ _ | refine Below.alloc ?_ (by first | (simp; done) | (simp; omega) | omega) _ | refine Below.setCell ?_ (by first | (simp; done) | (simp; omega) | omega) _ | refine Below_call ?_ (by assumption) | refine Below.trans ?_ (by assumption)))))
  (rw [wpSteps]; go_wp2_with ((first | (go_at_call 69; refine (track_first [P, unl B 2] _ _ (intsAt_new _ _ _ _ _ rfl (by simp) (by first | rfl | simp))).mono ?_; rintro _ _ ⟨rfl, rfl⟩) | (go_at_call 69; refine (track_first [P, unl B 2] _ _ ((intsAt_new _ _ _ _ _ rfl (by simp) (by first | rfl | simp)).below (Below.drew (Below.refl _ _)))).mono ?_; rintro _ _ ⟨rfl, rfl⟩))); rw [contF]; refine ⟨?_, ?_⟩; (next => (repeat (with_reducible first | exact Below.refl _ _ | assumption | refine Below.drewN _ ?_ | refine Below.drew ?_ | refine Below_alloc ?_ _ | refine Below.alloc ?_ (by first | (simp; done) | (simp; omega) | omega) _ | refine Below.setCell ?_ (by first | (simp; done) | (simp; omega) | omega) _ | refine Below_call ?_ (by assumption) | refine Below.trans ?_ (by assumption)))))
  (rw [wpSteps])
  (rw [wpMixC])
  (rw [wpMix]; simp only [pick, List.drop_succ_cons, List.drop_zero, List.head?_cons, Option.toList_some, List.cons_append, List.nil_append])
  (repeat (first | (go_big_quiet_step (fail)) | (quiet_step (fail))))
  (try refine wpQuiet_nil ?_)
  (rw [wpMix])
  (refine hQ' _ _ ?_)
  go_wp2_with fail
  go_ret
  exact ⟨ret_int HE.out.symm, by (repeat (with_reducible first | exact Below.refl _ _ | assumption | refine Below.drewN _ ?_ | refine Below.drew ?_ | refine Below_alloc ?_ _ | refine Below.alloc ?_ (by first | (simp; done) | (simp; omega) | omega) _ | refine Below.setCell ?_ (by first | (simp; done) | (simp; omega) | omega) _ | refine Below_call ?_ (by assumption) | refine Below.trans ?_ (by assumption)))⟩
end Go.Proofs.Ytlmdmpjfehpjeaa

