/- Texts of this claim, together. -/
import Derived.Test.YtlmdmpjfehpjeaaC6

set_option linter.unusedVariables false
set_option linter.unusedSimpArgs false
namespace Go.Proofs.Ytlmdmpjfehpjeaa
open Go.RowKit
theorem al3 (w : World) (a b c : Array Value) (t s r : TypeId) : ∀ W, W = ((w.alloc (.cells a t)).alloc (.cells b s)).alloc (.cells c r) →
  W.heap[w.heap.size]? = some (.cells a t (0, 0)) ∧ W.heap[w.heap.size + 1]? = some (.cells b s (0, 0)) ∧ W.heap[w.heap.size + 1 + 1]? = some (.cells c r (0, 0)) := by
 rintro W rfl
 refine ⟨?_, ?_, ?_⟩
 ·rw [Below.heap_alloc _ _ _ (by simp <;> omega), Below.heap_alloc _ _ _ (by simp), heap_alloc_new]
 ·rw [Below.heap_alloc _ _ _ (by simp)]
  have := heap_alloc_new (w.alloc (.cells a t)) (.cells b s)
  simpa using this
 ·have := heap_alloc_new ((w.alloc (.cells a t)).alloc (.cells b s)) (.cells c r)
  simpa using this
theorem reach_slow {m : TMod} (ho : m.Ok) : ∃ A, IntKind.i64.wrap (m.li * m.tk) = A ∧ IntKind.i64.wrap (A * m.tk) = m.slow := by
 obtain ⟨h1, h2, h3, h4⟩ := slow_sz ho
 exact ⟨m.li * m.tk, IntWalk.i64_in _ (by omega), IntWalk.i64_in _ (by omega)⟩
set_option maxRecDepth 100000 in
set_option maxHeartbeats 4000000 in
theorem ref_Reached (m : TMod) (s p : V3) (t : Int) (w : World) (ho : m.Ok) (hs : s.inS 20 = true) (hpm : m.permit s) (hp : p.inS 1000 = true) (ht : -1000101 ≤ t ∧ t ≤ 1000100) :
  Calls Try.prog 22 #[m.v, s.v, p.v, .int .i64 t] w fun e w' => e = .returned (.bool (m.reached s p t)) ∧ Below w.heap.size w w' := by
 obtain ⟨n1, n2, n3, nS, na, nb, nc, nbb, nac⟩ := reach_nums ho hs hpm hp ht
 have HW : Hid (∀ W, Calls Try.prog 81 #[m.v, s.v, p.v, .int .i64 t] W fun e w' => e = .returned (m.way s p t).v ∧ Below W.heap.size W w') := hid (fun W => ref_way m s p t W ho hs hp ht)
 have HD1 : Hid (∀ W, Calls Try.prog 82 #[s.v, s.v] W fun e w' => e = .returned (.int .i64 (s.dot s)) ∧ Below W.heap.size W w') := hid (fun W => ref_Dot s s W n1.1 n1.2.1 n1.2.2)
 have HD2 : Hid (∀ W, Calls Try.prog 82 #[(m.way s p t).v, s.v] W fun e w' => e = .returned (.int .i64 ((m.way s p t).dot s)) ∧ Below W.heap.size W w') := hid (fun W => ref_Dot _ s W n2.1 n2.2.1 n2.2.2)
 have HD3 : Hid (∀ W, Calls Try.prog 82 #[(m.way s p t).v, (m.way s p t).v] W fun e w' => e = .returned (.int .i64 ((m.way s p t).dot (m.way s p t))) ∧ Below W.heap.size W w') := hid (fun W => ref_Dot _ _ W n3.1 n3.2.1 n3.2.2)
 have HE : Hid (m.reached s p t = reachB (s.dot s - m.slow) ((m.way s p t).dot s) ((m.way s p t).dot (m.way s p t))) := hid rfl
 obtain ⟨A, k1, k2⟩ := reach_slow ho
 have k3 : IntKind.i64.wrap (s.dot s - m.slow) = s.dot s - m.slow := IntWalk.i64_in _ (by omega)
 have k4 : IntKind.i64.wrap ((m.way s p t).dot s * (m.way s p t).dot s) = (m.way s p t).dot s * (m.way s p t).dot s := IntWalk.i64_in _ (by omega)
 have k5 : IntKind.i64.wrap ((s.dot s - m.slow) * (m.way s p t).dot (m.way s p t)) = (s.dot s - m.slow) * (m.way s p t).dot (m.way s p t) := IntWalk.i64_in _ (by omega)
 have HT := hid ht
 generalize m.reached s p t = R at HE ⊢
 generalize m.way s p t = V at HW HD2 HD3 HE nb nc nbb nac k4 k5
 generalize s.dot s = S at HD1 HE nS na nac k3 k5
 generalize m.slow = L at HE na nac k2 k3 k5
 generalize V.dot s = B at HD2 HE nb nbb k4
 generalize V.dot V = C at HD3 HE nc nac k5
 generalize hF : S - L = F at HE na nac k3 k5
 have k3' : IntKind.i64.wrap (S - L) = F := by rw [hF]; exact k3
 clear k3 hF
 obtain ⟨BB, hBB⟩ : ∃ BB, BB = B * B := ⟨_, rfl⟩
 rw [← hBB] at k4 nbb
 have hBB' : B * B = BB := hBB.symm
 obtain ⟨FC, hFC⟩ : ∃ FC, FC = F * C := ⟨_, rfl⟩
 rw [← hFC] at k5 nac
 have hFC' : F * C = FC := hFC.symm
 have HER : Hid (R = (decide (C = 0) || (decide (B ≤ 0) && decide (FC ≤ BB)))) := hid (by rw [HE.out, ← hFC', ← hBB']; rfl)
 obtain ⟨px, py, pz, tm, tk, lo, hi, li, ea, la, no, mi⟩ := m
 obtain ⟨sx, sy, sz⟩ := s
 obtain ⟨qx, qy, qz⟩ := p
 obtain ⟨vx, vy, vz⟩ := V
 unfold TMod.v V3.v at *
 simp only at *
 clear hBB hFC HE ho hs hpm hp ht n1 n2 n3
 obtain ⟨W0, hW0⟩ : ∃ W0, W0 = ((w.alloc (.cells #[.int .i64 px, .int .i64 py, .int .i64 pz, .int .i64 tm, .int .i64 tk, .int .i64 lo, .int .i64 hi, .int .i64 li, .int .i64 ea, .int .i64 la, .int .i64 no, .int .i64 mi] 26)).alloc (.cells #[.int .i64 sx, .int .i64 sy, .int .i64 sz] 22)).alloc (.cells #[.int .i64 qx, .int .i64 qy, .int .i64 qz] 22) := ⟨_, rfl⟩
 have hbW0 : Below w.heap.size w W0 := by rw [hW0]; exact BelowA
 obtain ⟨q0, q1, q2⟩ := al3 w _ _ _ _ _ _ W0 hW0
 have l0 := (Array.getElem?_eq_some_iff.1 q0).1
 have l1 := (Array.getElem?_eq_some_iff.1 q1).1
 have H0 := hid q0
 have H1 := hid q1
 clear q0 q1 q2
 have GB : Hid ((C == 0) = decide (C = 0)) := hid (by by_cases h : C = 0 <;> simp [h])
 go_enter Try.func22, Try.ntmps22
 go_wp2_with (go_at_call 81; rw [← hW0]; refine (HW.out _).mono ?_; rintro _ w1 ⟨rfl, hb1⟩)
 have hz1 := hb1.size
 obtain ⟨W, hW⟩ : ∃ W, W = w1.alloc (.cells #[.int .i64 vx, .int .i64 vy, .int .i64 vz] 22) := ⟨_, rfl⟩
 have hbW : Below w1.heap.size w1 W := by rw [hW]; exact BelowA
 have hb2 : Below w.heap.size w W := by exact BelowA
 have hzW : W.heap.size = w1.heap.size + 1 := by rw [hW]; simp
 have r0 := ((hbW.block w.heap.size (by omega)).trans (hb1.block w.heap.size l0)).trans H0.out
 have r1 := ((hbW.block (w.heap.size + 1) (by omega)).trans (hb1.block (w.heap.size + 1) l1)).trans H1.out
 have r2 : W.heap[w1.heap.size]? = some (.cells #[.int .i64 vx, .int .i64 vy, .int .i64 vz] 22 (0, 0)) := by rw [hW]; exact heap_alloc_new w1 _
 rw [← hW]
 clear hW
 have c4 : W.cell? ⟨w.heap.size, 4, none⟩ = some (.int .i64 tk) := by rw [cell_of_row W _ 4 _ _ (0, 0) r0]; rfl
 have c7 : W.cell? ⟨w.heap.size, 7, none⟩ = some (.int .i64 li) := by rw [cell_of_row W _ 7 _ _ (0, 0) r0]; rfl
 obtain ⟨d0, d1, d2, fd0, fd1, fd2, hl1⟩ := three_cells r1
 obtain ⟨e0, e1, e2, fe0, fe1, fe2, hl2⟩ := three_cells r2
 have hl0 : w.heap.size < W.heap.size := by omega
 clear r0 r1 r2 fd0 fd1 fd2 fe0 fe1 fe2
 refine wp_mixC (fun wc => Below (W.heap.size) W wc) 20 [.q [0, 1, 3, 4, 5, 6, 7, 8, 9, 10, 12, 13, 15, 16], .f [2], .q [11], .f [14, 17], .q [18, 19]] [.q [20]] (by kernel_rfl) (by kernel_rfl) ((Below.refl _ _).drew) ?_
 intro Q' hQ'
 (rw [wpMixC]; simp only [pick, List.drop_succ_cons, List.drop_zero, List.head?_cons, Option.toList_some, List.cons_append, List.nil_append])
 (repeat (first | go_big_quiet_skip | (go_big_quiet_want; refine quiet_simple rfl ?_; go_big_quiet_op; go_big_quiet_on) | (go_big_quiet_want; refine quiet_cellB (ty := 3) rfl rfl (by kernel_rfl) (by assumption) (by first | omega | (simp; omega)) ?_; simp only [Act.put, List.setIfInBounds_toArray, List.set_cons_succ, List.set_cons_zero]; go_big_quiet_on) | (go_big_quiet_want; refine quiet_agg3B (ty := 22) rfl rfl (by kernel_rfl) (by assumption) (by assumption) (by assumption) (by first | omega | (simp; omega)) ?_; simp only [Act.put, List.setIfInBounds_toArray, List.set_cons_succ, List.set_cons_zero]; go_big_quiet_on)))
 (try refine wpQuiet_nil ?_)
 (rw [wpMixC]; simp only [pick, List.drop_succ_cons, List.drop_zero, List.head?_cons, Option.toList_some, List.cons_append, List.nil_append])
 (rw [wpSteps]; go_wp2_with ((first | (go_at_call 82; ((with_reducible refine (HD1.out _).mono ?_); rintro _ w2 ⟨rfl, hb2⟩)) | (go_at_call 82; ((with_reducible refine (HD2.out _).mono ?_); rintro _ w3 ⟨rfl, hb3⟩)) | (go_at_call 82; ((with_reducible refine (HD3.out _).mono ?_); rintro _ w4 ⟨rfl, hb4⟩)))); rw [contF]; refine ⟨?_, ?_⟩; (next => exact BelowA))
 (rw [wpSteps])
 (rw [wpMixC]; simp only [pick, List.drop_succ_cons, List.drop_zero, List.head?_cons, Option.toList_some, List.cons_append, List.nil_append])
 (repeat (first | go_big_quiet_skip | (go_big_quiet_want; refine quiet_simple rfl ?_; go_big_quiet_op; go_big_quiet_on) | (go_big_quiet_want; refine quiet_cellB (ty := 3) rfl rfl (by kernel_rfl) (by assumption) (by first | omega | (simp; omega)) ?_; simp only [Act.put, List.setIfInBounds_toArray, List.set_cons_succ, List.set_cons_zero]; go_big_quiet_on) | (go_big_quiet_want; refine quiet_agg3B (ty := 22) rfl rfl (by kernel_rfl) (by assumption) (by assumption) (by assumption) (by first | omega | (simp; omega)) ?_; simp only [Act.put, List.setIfInBounds_toArray, List.set_cons_succ, List.set_cons_zero]; go_big_quiet_on)))
 (try refine wpQuiet_nil ?_)
 (rw [wpMixC]; simp only [pick, List.drop_succ_cons, List.drop_zero, List.head?_cons, Option.toList_some, List.cons_append, List.nil_append])
 (rw [wpSteps]; go_wp2_with ((first | (go_at_call 82; ((with_reducible refine (HD1.out _).mono ?_); rintro _ w2 ⟨rfl, hb2⟩)) | (go_at_call 82; ((with_reducible refine (HD2.out _).mono ?_); rintro _ w3 ⟨rfl, hb3⟩)) | (go_at_call 82; ((with_reducible refine (HD3.out _).mono ?_); rintro _ w4 ⟨rfl, hb4⟩)))); rw [contF]; refine ⟨?_, ?_⟩; (next => exact BelowA))
 (rw [wpSteps]; go_wp2_with ((first | (go_at_call 82; ((with_reducible refine (HD1.out _).mono ?_); rintro _ w2 ⟨rfl, hb2⟩)) | (go_at_call 82; ((with_reducible refine (HD2.out _).mono ?_); rintro _ w3 ⟨rfl, hb3⟩)) | (go_at_call 82; ((with_reducible refine (HD3.out _).mono ?_); rintro _ w4 ⟨rfl, hb4⟩)))); rw [contF]; refine ⟨?_, ?_⟩; (next => exact BelowA))
 (rw [wpSteps])
 (rw [wpMixC]; simp only [pick, List.drop_succ_cons, List.drop_zero, List.head?_cons, Option.toList_some, List.cons_append, List.nil_append])
 (repeat (first | go_big_quiet_skip | (go_big_quiet_want; refine quiet_simple rfl ?_; go_big_quiet_op; go_big_quiet_on) | (go_big_quiet_want; refine quiet_cellB (ty := 3) rfl rfl (by kernel_rfl) (by assumption) (by first | omega | (simp; omega)) ?_; simp only [Act.put, List.setIfInBounds_toArray, List.set_cons_succ, List.set_cons_zero]; go_big_quiet_on) | (go_big_quiet_want; refine quiet_agg3B (ty := 22) rfl rfl (by kernel_rfl) (by assumption) (by assumption) (by assumption) (by first | omega | (simp; omega)) ?_; simp only [Act.put, List.setIfInBounds_toArray, List.set_cons_succ, List.set_cons_zero]; go_big_quiet_on)))
 (try refine wpQuiet_nil ?_)
 (rw [wpMixC])
 (rw [wpMix]; simp only [pick, List.drop_succ_cons, List.drop_zero, List.head?_cons, Option.toList_some, List.cons_append, List.nil_append])
 (repeat (first | (go_big_quiet_step (fail)) | (quiet_step (fail))))
 (try refine wpQuiet_nil ?_)
 (rw [wpMix])
 (refine hQ' _ _ ?_)
 by_cases g1 : C = 0
 all_goals by_cases g2 : B ≤ 0
 all_goals by_cases g3 : FC ≤ BB
 all_goals
  go_wp2_with fail
  go_ret
  exact ⟨ret_bool (by rw [HER.out]; simp [GB.out, g1, g2, g3]), by exact BelowA⟩
end Go.Proofs.Ytlmdmpjfehpjeaa
set_option linter.unusedVariables false
set_option linter.unusedSimpArgs false
namespace Go.Proofs.Ytlmdmpjfehpjeaa
open Go.RowKit
theorem left_steps {m : TMod} {s p : V3} {t : Int} (ho : m.Ok) (hs : s.inS 20 = true) (hp : p.inS 1000 = true) (ht : -1000101 ≤ t ∧ t ≤ 1000100) {k : Nat} (hk : k < 3) :
  ∃ T P, IntKind.i64.wrap (m.tk * (p.at k - m.pl.at k)) = T ∧ IntKind.i64.wrap ((t - m.tm) * s.at k) = P ∧ IntKind.i64.wrap (T - P) = (m.way s p t).at k := by
 obtain ⟨h1, h2, h3, h4⟩ := way_nums ho hs hp ht k
 refine ⟨m.tk * (p.at k - m.pl.at k), (t - m.tm) * s.at k, IntWalk.i64_in _ (by omega), IntWalk.i64_in _ (by omega), ?_⟩
 rw [way_at m s p t hk]
 exact IntWalk.i64_in _ (by omega)
theorem row_drew {w w1 : World} {a : Array Value} {t : TypeId} (hb : Below (w.alloc (.cells a t)).drew.heap.size (w.alloc (.cells a t)).drew w1) : w1.heap[w.heap.size]? = some (.cells a t (0, 0)) := (hb.block _ (by simp)).trans (heap_alloc_new w _)
theorem row_k {Q : Prop} {w w1 : World} {a : Array Value} {t : TypeId} (hb : Below (w.alloc (.cells a t)).drew.heap.size (w.alloc (.cells a t)).drew w1) (k : w1.heap[w.heap.size]? = some (.cells a t (0, 0)) → Q) : Q := k (row_drew hb)
set_option maxRecDepth 100000 in
set_option maxHeartbeats 8000000 in
theorem track_reached (m : TMod) (s p : V3) (t : Int) (w : World) (ho : m.Ok) (hs : s.inS 20 = true) (hpm : m.permit s) (hp : p.inS 1000 = true) (ht : -1000101 ≤ t ∧ t ≤ 1000100) :
    Calls Try.prog 75 #[m.v, s.v, .agg #[.int .i64 p.x, .int .i64 p.y, .int .i64 p.z, .int .i64 t]] w fun e w' => e = .returned (.bool (m.reached s p t)) ∧ Below w.heap.size w w' := by
  obtain ⟨n1, n2, n3, nS, na, nb, nc, nbb, nac⟩ := reach_nums ho hs hpm hp ht
  have hpl : m.pl.inS 100000000 = true := inS_iff.2 (by have h1 := ho.px; have h2 := ho.py; have h3 := ho.pz; unfold TMod.pl; simp only; omega)
  have hpp : p.inS 100000000 = true := inS_iff.2 (by have := inS_iff.1 hp; omega)
  have hat : IntKind.i64.wrap (t - m.tm) = t - m.tm := IntWalk.i64_in _ (by have := ho.tm; omega)
  have HS0 := hid (left_steps ho hs hp ht (k := 0) (by omega))
  have HS1 := hid (left_steps ho hs hp ht (k := 1) (by omega))
  have HS2 := hid (left_steps ho hs hp ht (k := 2) (by omega))
  have HMI : Hid (∀ W, Calls Try.prog 77 #[p.v, m.pl.v] W fun e w' => e = .returned (V3.v ⟨p.x - m.px, p.y - m.py, p.z - m.pz⟩) ∧ Below W.heap.size W w') := hid (fun W => track_minus p m.pl W hpp hpl)
  have HSL : Hid (∀ W, Calls Try.prog 121 #[m.v] W fun e w' => e = .returned (.int .i64 m.slow) ∧ Below W.heap.size W w') := hid (fun W => track_slow m W ho)
  have HD1 : Hid (∀ W, Calls Try.prog 78 #[s.v, s.v] W fun e w' => e = .returned (.int .i64 (s.dot s)) ∧ Below W.heap.size W w') := hid (fun W => track_dot s s W n1)
  have HD2 : Hid (∀ W, Calls Try.prog 78 #[(m.way s p t).v, s.v] W fun e w' => e = .returned (.int .i64 ((m.way s p t).dot s)) ∧ Below W.heap.size W w') := hid (fun W => track_dot _ s W n2)
  have HD3 : Hid (∀ W, Calls Try.prog 78 #[(m.way s p t).v, (m.way s p t).v] W fun e w' => e = .returned (.int .i64 ((m.way s p t).dot (m.way s p t))) ∧ Below W.heap.size W w') := hid (fun W => track_dot _ _ W n3)
  have HE : Hid (m.reached s p t = reachB (s.dot s - m.slow) ((m.way s p t).dot s) ((m.way s p t).dot (m.way s p t))) := hid rfl
  have k3 : IntKind.i64.wrap (s.dot s - m.slow) = s.dot s - m.slow := IntWalk.i64_in _ (by omega)
  have k4 : IntKind.i64.wrap ((m.way s p t).dot s * (m.way s p t).dot s) = (m.way s p t).dot s * (m.way s p t).dot s := IntWalk.i64_in _ (by omega)
  have k5 : IntKind.i64.wrap ((s.dot s - m.slow) * (m.way s p t).dot (m.way s p t)) = (s.dot s - m.slow) * (m.way s p t).dot (m.way s p t) := IntWalk.i64_in _ (by omega)
  generalize m.reached s p t = R at HE ⊢
  generalize m.way s p t = V at HS0 HS1 HS2 HD2 HD3 HE nb nc nbb nac k4 k5
  generalize s.dot s = S at HD1 HE nS na nac k3 k5
  generalize m.slow = L at HE na nac HSL k3 k5
  generalize V.dot s = B at HD2 HE nb nbb k4
  generalize V.dot V = C at HD3 HE nc nac k5
  generalize hF : S - L = F at HE na nac k3 k5
  have k3' : IntKind.i64.wrap (S - L) = F := by rw [hF]; exact k3
  clear k3 hF
  obtain ⟨BB, hBB⟩ : ∃ BB, BB = B * B := ⟨_, rfl⟩
  rw [← hBB] at k4 nbb
  have hBB' : B * B = BB := hBB.symm
  obtain ⟨FC, hFC⟩ : ∃ FC, FC = F * C := ⟨_, rfl⟩
  rw [← hFC] at k5 nac
  have hFC' : F * C = FC := hFC.symm
  have HER : Hid (R = (decide (C = 0) || (decide (B ≤ 0) && decide (FC ≤ BB)))) := hid (by rw [HE.out, ← hFC', ← hBB']; rfl)
  obtain ⟨px, py, pz, tm, tk, lo, hi, li, ea, la, no, mi⟩ := m
  obtain ⟨sx, sy, sz⟩ := s
  obtain ⟨qx, qy, qz⟩ := p
  obtain ⟨vx, vy, vz⟩ := V
  simp only [V3.at, TMod.pl, if_true, if_false, Nat.one_ne_zero, show ¬ ((2:Nat) = 0) from by decide, show ¬ ((2:Nat) = 1) from by decide] at HS0 HS1 HS2 HMI
  unfold TMod.v V3.v at *
  simp only at *
  generalize qx - px = dx at HS0 HMI
  generalize qy - py = dy at HS1 HMI
  generalize qz - pz = dz at HS2 HMI
  generalize hA : t - tm = A at HS0 HS1 HS2 hat
  have hat' : IntKind.i64.wrap (t - tm) = A := by rw [hA]; exact hat
  clear hBB hFC HE ho hs hpm hp ht n1 n2 n3 hpl hpp hA hat
  obtain ⟨W0, hW0⟩ : ∃ W0, W0 = ((w.alloc (.cells #[.int .i64 px, .int .i64 py, .int .i64 pz, .int .i64 tm, .int .i64 tk, .int .i64 lo, .int .i64 hi, .int .i64 li, .int .i64 ea, .int .i64 la, .int .i64 no, .int .i64 mi] 134)).alloc (.cells #[.int .i64 sx, .int .i64 sy, .int .i64 sz] 135)).alloc (.cells #[.int .i64 qx, .int .i64 qy, .int .i64 qz, .int .i64 t] 28) := ⟨_, rfl⟩
  have hbW0 : Below w.heap.size w W0 := by rw [hW0]; exact BelowA
  obtain ⟨q0, q1, q2⟩ := al3 w _ _ _ _ _ _ W0 hW0
  have l0 := (Array.getElem?_eq_some_iff.1 q0).1
  have l1 := (Array.getElem?_eq_some_iff.1 q1).1
  have l2 := (Array.getElem?_eq_some_iff.1 q2).1
  have H0 := hid q0
  have H1 := hid q1
  have c0 : W0.cell? ⟨w.heap.size, 0, none⟩ = some (.int .i64 px) := by rw [cell_of_row W0 _ 0 _ _ (0, 0) q0]; rfl
  have c1 : W0.cell? ⟨w.heap.size, 1, none⟩ = some (.int .i64 py) := by rw [cell_of_row W0 _ 1 _ _ (0, 0) q0]; rfl
  have c2 : W0.cell? ⟨w.heap.size, 2, none⟩ = some (.int .i64 pz) := by rw [cell_of_row W0 _ 2 _ _ (0, 0) q0]; rfl
  have c3 : W0.cell? ⟨w.heap.size, 3, none⟩ = some (.int .i64 tm) := by rw [cell_of_row W0 _ 3 _ _ (0, 0) q0]; rfl
  have e0 : W0.cell? ⟨w.heap.size + 1 + 1, 0, none⟩ = some (.int .i64 qx) := by rw [cell_of_row W0 _ 0 _ _ (0, 0) q2]; rfl
  have e1 : W0.cell? ⟨w.heap.size + 1 + 1, 1, none⟩ = some (.int .i64 qy) := by rw [cell_of_row W0 _ 1 _ _ (0, 0) q2]; rfl
  have e2 : W0.cell? ⟨w.heap.size + 1 + 1, 2, none⟩ = some (.int .i64 qz) := by rw [cell_of_row W0 _ 2 _ _ (0, 0) q2]; rfl
  have e3 : W0.cell? ⟨w.heap.size + 1 + 1, 3, none⟩ = some (.int .i64 t) := by rw [cell_of_row W0 _ 3 _ _ (0, 0) q2]; rfl
  clear q0 q1 q2
  have GB : Hid ((C == 0) = decide (C = 0)) := hid (by by_cases h : C = 0 <;> simp [h])
  go_enter Try.func75, Try.ntmps75
  go_wp2_with fail
  rw [← hW0]
  clear hW0
  refine wp_mixC (fun wc => Below (W0.heap.size) W0 wc) 14 [.q [0, 1, 2, 3, 4, 6, 7, 8, 9, 10, 11], .p 5 12, .f [13]] [.q [14]] (by kernel_rfl) (by kernel_rfl) ((Below.refl _ _).drew) ?_
  intro Q' hQ'
  (rw [wpMixC]; simp only [pick, List.drop_succ_cons, List.drop_zero, List.head?_cons, Option.toList_some, List.cons_append, List.nil_append])
  (repeat (first | go_big_quiet_skip | (go_big_quiet_want; refine quiet_simple rfl ?_; go_big_quiet_op; go_big_quiet_on) | (go_big_quiet_want; refine quiet_cellB (ty := 3) rfl rfl (by kernel_rfl) (by assumption) (by first | omega | (simp; omega)) ?_; simp only [Act.put, List.setIfInBounds_toArray, List.set_cons_succ, List.set_cons_zero]; go_big_quiet_on) | (go_big_quiet_want; refine quiet_agg3B (ty := 22) rfl rfl (by kernel_rfl) (by assumption) (by assumption) (by assumption) (by first | omega | (simp; omega)) ?_; simp only [Act.put, List.setIfInBounds_toArray, List.set_cons_succ, List.set_cons_zero]; go_big_quiet_on)))
  (try refine wpQuiet_nil ?_)
  (rw [wpMixC]; simp only [pick, List.drop_succ_cons, List.drop_zero, List.head?_cons, Option.toList_some, List.cons_append, List.nil_append])
  (refine ⟨?_, ?_⟩)
  all_goals (rw [wpSteps]; go_wp2_with ((go_at_call 77; refine (HMI.out _).mono ?_; rintro _ w1 ⟨rfl, hb1⟩; (try (refine row_k hb1 (fun hrow => ?_); obtain ⟨f0, f1, f2, ff0, ff1, ff2, hlf⟩ := three_cells hrow)))); rw [contF]; refine ⟨?_, ?_⟩; (next => exact BelowA))
  all_goals (rw [wpSteps]; go_wp2_with ((go_at_call 77; refine (HMI.out _).mono ?_; rintro _ w1 ⟨rfl, hb1⟩; (try (refine row_k hb1 (fun hrow => ?_); obtain ⟨f0, f1, f2, ff0, ff1, ff2, hlf⟩ := three_cells hrow)))); rw [contF]; refine ⟨?_, ?_⟩; (next => exact BelowA))
  all_goals (rw [wpSteps])
  all_goals (rw [wpMixC]; simp only [pick, List.drop_succ_cons, List.drop_zero, List.head?_cons, Option.toList_some, List.cons_append, List.nil_append])
  all_goals (rw [wpSteps]; go_wp2_with (fail); rw [contF]; refine ⟨?_, ?_⟩; (next => exact BelowA))
  all_goals (rw [wpSteps])
  all_goals (rw [wpMixC])
  all_goals (rw [wpMix]; simp only [pick, List.drop_succ_cons, List.drop_zero, List.head?_cons, Option.toList_some, List.cons_append, List.nil_append])
  all_goals (repeat (first | (go_big_quiet_step (fail)) | (quiet_step (fail))))
  all_goals (try refine wpQuiet_nil ?_)
  all_goals (rw [wpMix])
  all_goals (refine hQ' _ _ ?_)
  all_goals first
    | (have hb2 : Below W0.heap.size W0 w1 := by exact BelowA
       obtain ⟨W, hW⟩ : ∃ W, W = w1.alloc (.cells #[.int .i64 dx, .int .i64 dy, .int .i64 dz] 135) := ⟨_, rfl⟩
       have hrow : W.heap[w1.heap.size]? = some (.cells #[.int .i64 dx, .int .i64 dy, .int .i64 dz] 135 (0, 0)) := by rw [hW]; exact heap_alloc_new w1 _
       have hgg : W0.heap.size ≤ w1.heap.size := hb2.size
       have hbb : Below W0.heap.size W0 W := by rw [hW]; exact BelowA
       rw [← hW]
       generalize w1.heap.size = g at hrow hgg ⊢
       clear hW hb1 hb2)
    | (have hb2 : Below W0.heap.size W0 w1 := by exact BelowA
       obtain ⟨W, hW⟩ : ∃ W, W = ((w1.setCell ⟨W0.heap.size, 0, none⟩ (.int .i64 dx)).setCell ⟨W0.heap.size, 1, none⟩ (.int .i64 dy)).setCell ⟨W0.heap.size, 2, none⟩ (.int .i64 dz) := ⟨_, rfl⟩
       have hrow : W.heap[W0.heap.size]? = some (.cells #[.int .i64 dx, .int .i64 dy, .int .i64 dz] 135 (0, 0)) := by rw [hW]; exact heap_setCell_same _ _ 2 _ _ (.int .i64 dz) (heap_setCell_same _ _ 1 _ _ (.int .i64 dy) (heap_setCell_same _ _ 0 _ _ (.int .i64 dx) hrow))
       have hbb : Below W0.heap.size W0 W := by rw [hW]; exact BelowA
       rw [← hW]
       obtain ⟨g, hg⟩ : ∃ g, g = W0.heap.size := ⟨_, rfl⟩
       have hgg : W0.heap.size ≤ g := by omega
       rw [← hg] at hrow ⊢
       clear hW hg hb1 hb2 f0 f1 f2 ff0 ff1 ff2 hlf)
  all_goals
    have hlg := (Array.getElem?_eq_some_iff.1 hrow).1
    have hzWW : W0.heap.size ≤ W.heap.size := hbb.size
    obtain ⟨W2, hW2⟩ : ∃ W2, W2 = W.alloc (.cells #[.int .i64 0, .int .i64 0, .int .i64 0] 135) := ⟨_, rfl⟩
    have hb2 : Below W.heap.size W W2 := by rw [hW2]; exact BelowA
    have R9 : Hid (W2.heap[W.heap.size]? = some (.cells #[.int .i64 0, .int .i64 0, .int .i64 0] 135 (0, 0))) := hid (by rw [hW2]; exact heap_alloc_new W _)
    have R0 := hid ((hb2.block w.heap.size (by omega)).trans ((hbb.block w.heap.size l0).trans H0.out))
    have R1 := hid ((hb2.block (w.heap.size + 1) (by omega)).trans ((hbb.block (w.heap.size + 1) l1).trans H1.out))
    have RG := hid ((hb2.block g hlg).trans hrow)
    have hbx : Below w.heap.size w W2 := (hbW0.trans (hbb.mono (by omega))).trans (hb2.mono (by omega))
    go_wp2_with fail
    rw [← hW2]
    clear hW2 hrow
    go_loopw [25] (fun i wr => ∃ (k : Nat) (o0 o1 o2 : Int), k ≤ 3 ∧ i = .int .i64 k ∧ Hid (wr.heap[W.heap.size]? = some (.cells #[.int .i64 o0, .int .i64 o1, .int .i64 o2] 135 (0, 0))) ∧ Hid ((0 < k → o0 = vx) ∧ (1 < k → o1 = vy) ∧ (2 < k → o2 = vz)) ∧ Below W.heap.size W2 wr) (fun i _ => 3 - (intOf i).toNat)
    case atStart => exact ⟨0, 0, 0, 0, by omega, rfl, R9, hid ⟨by omega, by omega, by omega⟩, Below.refl _ _⟩
    case round =>
      obtain ⟨k, o0, o1, o2, hk, rfl, HR, HO, hbel⟩ := hrel
      have hzw := hbel.size
      have r0 := (hbel.block w.heap.size (by omega)).trans R0.out
      have r1 := (hbel.block (w.heap.size + 1) (by omega)).trans R1.out
      have rg := (hbel.block g hlg).trans RG.out
      have hby : Below w.heap.size w wr := hbx.trans (hbel.mono (by omega))
      have a4 : wr.cell? ⟨w.heap.size, 4, none⟩ = some (.int .i64 tk) := by rw [cell_of_row wr _ 4 _ _ (0, 0) r0]; rfl
      obtain ⟨b0, b1, b2, fb0, fb1, fb2, hl1⟩ := three_cells r1
      obtain ⟨d0, d1, d2, fd0, fd1, fd2, hlg'⟩ := three_cells rg
      have hro := HR.out
      obtain ⟨f0, f1, f2, ff0, ff1, ff2, hl9⟩ := three_cells hro
      have hl0 : w.heap.size < wr.heap.size := (Array.getElem?_eq_some_iff.1 r0).1
      clear c0 c1 c2 c3 e0 e1 e2 e3 fb0 fb1 fb2 fd0 fd1 fd2 hro r0 r1 rg
      have hl0W : w.heap.size < W.heap.size := by omega
      have hl1W : w.heap.size + 1 < W.heap.size := by omega
      rcases (by omega : k = 0 ∨ k = 1 ∨ k = 2 ∨ k = 3) with rfl | rfl | rfl | rfl
      · obtain ⟨T, P, k1, k2, k6⟩ := HS0.out
        go_wp2_with fail
        refine wp_mixC (fun wc => Below (W.heap.size) wr wc) 14 [.q [0, 1, 2, 3, 4, 5, 6, 7, 8, 9, 10, 11, 12, 13]] [.q [14], .f [15]] (by kernel_rfl) (by kernel_rfl) ((Below.refl _ _).drew) ?_
        intro Q' hQ'
        (rw [wpMixC]; simp only [pick, List.drop_succ_cons, List.drop_zero, List.head?_cons, Option.toList_some, List.cons_append, List.nil_append])
        (repeat (first | go_big_quiet_skip | (go_big_quiet_want; refine quiet_simple rfl ?_; go_big_quiet_op; go_big_quiet_on) | (go_big_quiet_want; refine quiet_cellB (ty := 3) rfl rfl (by kernel_rfl) (by assumption) (by first | omega | (simp; omega)) ?_; simp only [Act.put, List.setIfInBounds_toArray, List.set_cons_succ, List.set_cons_zero]; go_big_quiet_on)))
        (try refine wpQuiet_nil ?_)
        (rw [wpMixC])
        (rw [wpMix]; simp only [pick, List.drop_succ_cons, List.drop_zero, List.head?_cons, Option.toList_some, List.cons_append, List.nil_append])
        (repeat (first | (go_big_quiet_step (fail)) | (quiet_step (fail))))
        (try refine wpQuiet_nil ?_)
        (rw [wpMix]; simp only [pick, List.drop_succ_cons, List.drop_zero, List.head?_cons, Option.toList_some, List.cons_append, List.nil_append])
        (go_wp2_with ((first | fail)); rw [contF])
        (rw [wpMix])
        (refine hQ' _ _ ?_)
        go_wp2_with fail
        go_roundw
        case rel => exact ⟨1, vx, o1, o2, by omega, by go_num, hid (heap_setCell_same _ _ 0 _ _ _ HR.out), hid ⟨fun _ => rfl, fun h => absurd h (by omega), fun h => absurd h (by omega)⟩, by exact BelowA⟩
        case measure => simp [intOf]
      · obtain ⟨T, P, k1, k2, k6⟩ := HS1.out
        go_wp2_with fail
        refine wp_mixC (fun wc => Below (W.heap.size) wr wc) 14 [.q [0, 1, 2, 3, 4, 5, 6, 7, 8, 9, 10, 11, 12, 13]] [.q [14], .f [15]] (by kernel_rfl) (by kernel_rfl) ((Below.refl _ _).drew) ?_
        intro Q' hQ'
        (rw [wpMixC]; simp only [pick, List.drop_succ_cons, List.drop_zero, List.head?_cons, Option.toList_some, List.cons_append, List.nil_append])
        (repeat (first | go_big_quiet_skip | (go_big_quiet_want; refine quiet_simple rfl ?_; go_big_quiet_op; go_big_quiet_on) | (go_big_quiet_want; refine quiet_cellB (ty := 3) rfl rfl (by kernel_rfl) (by assumption) (by first | omega | (simp; omega)) ?_; simp only [Act.put, List.setIfInBounds_toArray, List.set_cons_succ, List.set_cons_zero]; go_big_quiet_on)))
        (try refine wpQuiet_nil ?_)
        (rw [wpMixC])
        (rw [wpMix]; simp only [pick, List.drop_succ_cons, List.drop_zero, List.head?_cons, Option.toList_some, List.cons_append, List.nil_append])
        (repeat (first | (go_big_quiet_step (fail)) | (quiet_step (fail))))
        (try refine wpQuiet_nil ?_)
        (rw [wpMix]; simp only [pick, List.drop_succ_cons, List.drop_zero, List.head?_cons, Option.toList_some, List.cons_append, List.nil_append])
        (go_wp2_with ((first | fail)); rw [contF])
        (rw [wpMix])
        (refine hQ' _ _ ?_)
        go_wp2_with fail
        go_roundw
        case rel => exact ⟨2, o0, vy, o2, by omega, by go_num, hid (heap_setCell_same _ _ 1 _ _ _ HR.out), hid ⟨fun _ => HO.out.1 (by omega), fun h => rfl, fun h => absurd h (by omega)⟩, by exact BelowA⟩
        case measure => simp [intOf]
      · obtain ⟨T, P, k1, k2, k6⟩ := HS2.out
        go_wp2_with fail
        refine wp_mixC (fun wc => Below (W.heap.size) wr wc) 14 [.q [0, 1, 2, 3, 4, 5, 6, 7, 8, 9, 10, 11, 12, 13]] [.q [14], .f [15]] (by kernel_rfl) (by kernel_rfl) ((Below.refl _ _).drew) ?_
        intro Q' hQ'
        (rw [wpMixC]; simp only [pick, List.drop_succ_cons, List.drop_zero, List.head?_cons, Option.toList_some, List.cons_append, List.nil_append])
        (repeat (first | go_big_quiet_skip | (go_big_quiet_want; refine quiet_simple rfl ?_; go_big_quiet_op; go_big_quiet_on) | (go_big_quiet_want; refine quiet_cellB (ty := 3) rfl rfl (by kernel_rfl) (by assumption) (by first | omega | (simp; omega)) ?_; simp only [Act.put, List.setIfInBounds_toArray, List.set_cons_succ, List.set_cons_zero]; go_big_quiet_on)))
        (try refine wpQuiet_nil ?_)
        (rw [wpMixC])
        (rw [wpMix]; simp only [pick, List.drop_succ_cons, List.drop_zero, List.head?_cons, Option.toList_some, List.cons_append, List.nil_append])
        (repeat (first | (go_big_quiet_step (fail)) | (quiet_step (fail))))
        (try refine wpQuiet_nil ?_)
        (rw [wpMix]; simp only [pick, List.drop_succ_cons, List.drop_zero, List.head?_cons, Option.toList_some, List.cons_append, List.nil_append])
        (go_wp2_with ((first | fail)); rw [contF])
        (rw [wpMix])
        (refine hQ' _ _ ?_)
        go_wp2_with fail
        go_roundw
        case rel => exact ⟨3, o0, o1, vz, by omega, by go_num, hid (heap_setCell_same _ _ 2 _ _ _ HR.out), hid ⟨fun _ => HO.out.1 (by omega), fun _ => HO.out.2.1 (by omega), fun _ => rfl⟩, by exact BelowA⟩
        case measure => simp [intOf]
      · have r0x := (hbel.block w.heap.size (by omega)).trans R0.out
        obtain rfl := HO.out.1 (by omega)
        obtain rfl := HO.out.2.1 (by omega)
        obtain rfl := HO.out.2.2 (by omega)
        go_wp2_with fail
        have hB3 := hid hby
        have R0z := hid r0x
        have R1z := hid ((hbel.block (w.heap.size + 1) (by omega)).trans R1.out)
        clear r0x
        refine wp_mixC (fun wc => Below (wr.heap.size) wr wc) 7 [.q [0, 1, 3, 4], .f [2, 5], .q [6]] [.q [7]] (by kernel_rfl) (by kernel_rfl) ((Below.refl _ _).drew) ?_
        intro Q' hQ'
        (rw [wpMixC]; simp only [pick, List.drop_succ_cons, List.drop_zero, List.head?_cons, Option.toList_some, List.cons_append, List.nil_append])
        (repeat (first | go_big_quiet_skip | (go_big_quiet_want; refine quiet_simple rfl ?_; go_big_quiet_op; go_big_quiet_on) | (go_big_quiet_want; refine quiet_agg3B (ty := 135) rfl rfl (by kernel_rfl) (by assumption) (by assumption) (by assumption) (by first | omega | (simp; omega)) ?_; simp only [Act.put, List.setIfInBounds_toArray, List.set_cons_succ, List.set_cons_zero]; go_big_quiet_on)))
        (try refine wpQuiet_nil ?_)
        (rw [wpMixC]; simp only [pick, List.drop_succ_cons, List.drop_zero, List.head?_cons, Option.toList_some, List.cons_append, List.nil_append])
        (rw [wpSteps]; go_wp2_with ((first | (go_at_call 78; ((with_reducible refine (HD2.out _).mono ?_); rintro _ w3 ⟨rfl, hb3⟩)) | (go_at_call 78; ((with_reducible refine (HD3.out _).mono ?_); rintro _ w4 ⟨rfl, hb4⟩)))); rw [contF]; refine ⟨?_, ?_⟩; (next => exact BelowA))
        (rw [wpSteps]; go_wp2_with ((first | (go_at_call 78; ((with_reducible refine (HD2.out _).mono ?_); rintro _ w3 ⟨rfl, hb3⟩)) | (go_at_call 78; ((with_reducible refine (HD3.out _).mono ?_); rintro _ w4 ⟨rfl, hb4⟩)))); rw [contF]; refine ⟨?_, ?_⟩; (next => exact BelowA))
        (rw [wpSteps])
        (rw [wpMixC]; simp only [pick, List.drop_succ_cons, List.drop_zero, List.head?_cons, Option.toList_some, List.cons_append, List.nil_append])
        (repeat (first | go_big_quiet_skip | (go_big_quiet_want; refine quiet_simple rfl ?_; go_big_quiet_op; go_big_quiet_on) | (go_big_quiet_want; refine quiet_agg3B (ty := 135) rfl rfl (by kernel_rfl) (by assumption) (by assumption) (by assumption) (by first | omega | (simp; omega)) ?_; simp only [Act.put, List.setIfInBounds_toArray, List.set_cons_succ, List.set_cons_zero]; go_big_quiet_on)))
        (try refine wpQuiet_nil ?_)
        (rw [wpMixC])
        (rw [wpMix]; simp only [pick, List.drop_succ_cons, List.drop_zero, List.head?_cons, Option.toList_some, List.cons_append, List.nil_append])
        (repeat (first | (go_big_quiet_step (fail)) | (quiet_step (fail))))
        (try refine wpQuiet_nil ?_)
        (rw [wpMix])
        (refine hQ' _ _ ?_)
        go_wp2_with fail
        have hb5 : Below wr.heap.size wr w4 := by exact BelowA
        have hb6 : Below w.heap.size w w4 := hB3.out.trans (hb5.mono (by omega))
        have hB6 := hid hb6
        have y0 := (hb5.block w.heap.size (by omega)).trans R0z.out
        have y1 := (hb5.block (w.heap.size + 1) (by omega)).trans R1z.out
        obtain ⟨s0, s1, s2, fs0, fs1, fs2, hls⟩ := three_cells y1
        have m0 : w4.cell? ⟨w.heap.size, 0, none⟩ = some (.int .i64 px) := by rw [cell_of_row w4 _ 0 _ _ (0, 0) y0]; rfl
        have m1 : w4.cell? ⟨w.heap.size, 1, none⟩ = some (.int .i64 py) := by rw [cell_of_row w4 _ 1 _ _ (0, 0) y0]; rfl
        have m2 : w4.cell? ⟨w.heap.size, 2, none⟩ = some (.int .i64 pz) := by rw [cell_of_row w4 _ 2 _ _ (0, 0) y0]; rfl
        have m3 : w4.cell? ⟨w.heap.size, 3, none⟩ = some (.int .i64 tm) := by rw [cell_of_row w4 _ 3 _ _ (0, 0) y0]; rfl
        have m4 : w4.cell? ⟨w.heap.size, 4, none⟩ = some (.int .i64 tk) := by rw [cell_of_row w4 _ 4 _ _ (0, 0) y0]; rfl
        have m5 : w4.cell? ⟨w.heap.size, 5, none⟩ = some (.int .i64 lo) := by rw [cell_of_row w4 _ 5 _ _ (0, 0) y0]; rfl
        have m6 : w4.cell? ⟨w.heap.size, 6, none⟩ = some (.int .i64 hi) := by rw [cell_of_row w4 _ 6 _ _ (0, 0) y0]; rfl
        have m7 : w4.cell? ⟨w.heap.size, 7, none⟩ = some (.int .i64 li) := by rw [cell_of_row w4 _ 7 _ _ (0, 0) y0]; rfl
        have m8 : w4.cell? ⟨w.heap.size, 8, none⟩ = some (.int .i64 ea) := by rw [cell_of_row w4 _ 8 _ _ (0, 0) y0]; rfl
        have m9 : w4.cell? ⟨w.heap.size, 9, none⟩ = some (.int .i64 la) := by rw [cell_of_row w4 _ 9 _ _ (0, 0) y0]; rfl
        have m10 : w4.cell? ⟨w.heap.size, 10, none⟩ = some (.int .i64 no) := by rw [cell_of_row w4 _ 10 _ _ (0, 0) y0]; rfl
        have m11 : w4.cell? ⟨w.heap.size, 11, none⟩ = some (.int .i64 mi) := by rw [cell_of_row w4 _ 11 _ _ (0, 0) y0]; rfl
        have hlm : w.heap.size < w4.heap.size := (Array.getElem?_eq_some_iff.1 y0).1
        clear y0 y1 fs0 fs1 fs2 hb3 hb4 hb5 f0 f1 f2 ff0 ff1 ff2 b0 b1 b2 d0 d1 d2 a4 hby hbel
        by_cases g1 : C = 0
        · have g1a : (C == 0) = true := by simpa using g1
          have HV : Hid (R = true) := hid (by rw [HER.out]; simp [g1])
          clear g1
          refine wp_mixC (fun wc => Below (w4.heap.size) w4 wc) 20 [.q [0, 1, 2, 3, 4, 5, 6, 7, 8, 9, 10, 12, 15], .f [11, 13], .q [14, 16, 17, 18, 19]] [.q [20]] (by kernel_rfl) (by kernel_rfl) ((Below.refl _ _).drew) ?_
          intro Q' hQ'
          (rw [wpMixC]; simp only [pick, List.drop_succ_cons, List.drop_zero, List.head?_cons, Option.toList_some, List.cons_append, List.nil_append])
          (repeat (first | go_big_quiet_skip | (go_big_quiet_want; refine quiet_simple rfl ?_; go_big_quiet_op; go_big_quiet_on) | (go_big_quiet_want; refine quiet_agg12B (ty := 134) rfl rfl (by kernel_rfl) (by assumption) (by assumption) (by assumption) (by assumption) (by assumption) (by assumption) (by assumption) (by assumption) (by assumption) (by assumption) (by assumption) (by assumption) (by first | omega | (simp; omega)) ?_; simp only [Act.put, List.setIfInBounds_toArray, List.set_cons_succ, List.set_cons_zero]; go_big_quiet_on) | (go_big_quiet_want; refine quiet_agg3B (ty := 135) rfl rfl (by kernel_rfl) (by assumption) (by assumption) (by assumption) (by first | omega | (simp; omega)) ?_; simp only [Act.put, List.setIfInBounds_toArray, List.set_cons_succ, List.set_cons_zero]; go_big_quiet_on)))
          (try refine wpQuiet_nil ?_)
          (rw [wpMixC]; simp only [pick, List.drop_succ_cons, List.drop_zero, List.head?_cons, Option.toList_some, List.cons_append, List.nil_append])
          (rw [wpSteps]; go_wp2_with ((go_at_call 78; ((with_reducible refine (HD1.out _).mono ?_); rintro _ w5 ⟨rfl, hb5⟩))); rw [contF]; refine ⟨?_, ?_⟩; (next => exact BelowA))
          (rw [wpSteps]; go_wp2_with ((go_at_call 121; ((with_reducible refine (HSL.out _).mono ?_); rintro _ w6 ⟨rfl, hb6'⟩))); rw [contF]; refine ⟨?_, ?_⟩; (next => exact BelowA))
          (rw [wpSteps])
          (rw [wpMixC]; simp only [pick, List.drop_succ_cons, List.drop_zero, List.head?_cons, Option.toList_some, List.cons_append, List.nil_append])
          (repeat (first | go_big_quiet_skip | (go_big_quiet_want; refine quiet_simple rfl ?_; go_big_quiet_op; go_big_quiet_on) | (go_big_quiet_want; refine quiet_agg12B (ty := 134) rfl rfl (by kernel_rfl) (by assumption) (by assumption) (by assumption) (by assumption) (by assumption) (by assumption) (by assumption) (by assumption) (by assumption) (by assumption) (by assumption) (by assumption) (by first | omega | (simp; omega)) ?_; simp only [Act.put, List.setIfInBounds_toArray, List.set_cons_succ, List.set_cons_zero]; go_big_quiet_on) | (go_big_quiet_want; refine quiet_agg3B (ty := 135) rfl rfl (by kernel_rfl) (by assumption) (by assumption) (by assumption) (by first | omega | (simp; omega)) ?_; simp only [Act.put, List.setIfInBounds_toArray, List.set_cons_succ, List.set_cons_zero]; go_big_quiet_on)))
          (try refine wpQuiet_nil ?_)
          (rw [wpMixC])
          (rw [wpMix]; simp only [pick, List.drop_succ_cons, List.drop_zero, List.head?_cons, Option.toList_some, List.cons_append, List.nil_append])
          (repeat (first | (go_big_quiet_step (fail)) | (quiet_step (fail))))
          (try refine wpQuiet_nil ?_)
          (rw [wpMix])
          (refine hQ' _ _ ?_)
          go_wp2_with fail
          go_ret
          exact ⟨ret_bool (by rw [HV.out]), by exact BelowA⟩
        · have g1a : (C == 0) = false := by simpa using g1
          by_cases g2 : B ≤ 0
          · have g2a : decide (B ≤ 0) = true := by simpa using g2
            have HV : Hid (R = decide (FC ≤ BB)) := hid (by rw [HER.out]; simp [g1, g2])
            refine wp_mixC (fun wc => Below (w4.heap.size) w4 wc) 20 [.q [0, 1, 2, 3, 4, 5, 6, 7, 8, 9, 10, 12, 15], .f [11, 13], .q [14, 16, 17, 18, 19]] [.q [20]] (by kernel_rfl) (by kernel_rfl) ((Below.refl _ _).drew) ?_
            intro Q' hQ'
            (rw [wpMixC]; simp only [pick, List.drop_succ_cons, List.drop_zero, List.head?_cons, Option.toList_some, List.cons_append, List.nil_append])
            (repeat (first | go_big_quiet_skip | (go_big_quiet_want; refine quiet_simple rfl ?_; go_big_quiet_op; go_big_quiet_on) | (go_big_quiet_want; refine quiet_agg12B (ty := 134) rfl rfl (by kernel_rfl) (by assumption) (by assumption) (by assumption) (by assumption) (by assumption) (by assumption) (by assumption) (by assumption) (by assumption) (by assumption) (by assumption) (by assumption) (by first | omega | (simp; omega)) ?_; simp only [Act.put, List.setIfInBounds_toArray, List.set_cons_succ, List.set_cons_zero]; go_big_quiet_on) | (go_big_quiet_want; refine quiet_agg3B (ty := 135) rfl rfl (by kernel_rfl) (by assumption) (by assumption) (by assumption) (by first | omega | (simp; omega)) ?_; simp only [Act.put, List.setIfInBounds_toArray, List.set_cons_succ, List.set_cons_zero]; go_big_quiet_on)))
            (try refine wpQuiet_nil ?_)
            (rw [wpMixC]; simp only [pick, List.drop_succ_cons, List.drop_zero, List.head?_cons, Option.toList_some, List.cons_append, List.nil_append])
            (rw [wpSteps]; go_wp2_with ((go_at_call 78; ((with_reducible refine (HD1.out _).mono ?_); rintro _ w5 ⟨rfl, hb5⟩))); rw [contF]; refine ⟨?_, ?_⟩; (next => exact BelowA))
            (rw [wpSteps]; go_wp2_with ((go_at_call 121; ((with_reducible refine (HSL.out _).mono ?_); rintro _ w6 ⟨rfl, hb6'⟩))); rw [contF]; refine ⟨?_, ?_⟩; (next => exact BelowA))
            (rw [wpSteps])
            (rw [wpMixC]; simp only [pick, List.drop_succ_cons, List.drop_zero, List.head?_cons, Option.toList_some, List.cons_append, List.nil_append])
            (repeat (first | go_big_quiet_skip | (go_big_quiet_want; refine quiet_simple rfl ?_; go_big_quiet_op; go_big_quiet_on) | (go_big_quiet_want; refine quiet_agg12B (ty := 134) rfl rfl (by kernel_rfl) (by assumption) (by assumption) (by assumption) (by assumption) (by assumption) (by assumption) (by assumption) (by assumption) (by assumption) (by assumption) (by assumption) (by assumption) (by first | omega | (simp; omega)) ?_; simp only [Act.put, List.setIfInBounds_toArray, List.set_cons_succ, List.set_cons_zero]; go_big_quiet_on) | (go_big_quiet_want; refine quiet_agg3B (ty := 135) rfl rfl (by kernel_rfl) (by assumption) (by assumption) (by assumption) (by first | omega | (simp; omega)) ?_; simp only [Act.put, List.setIfInBounds_toArray, List.set_cons_succ, List.set_cons_zero]; go_big_quiet_on)))
            (try refine wpQuiet_nil ?_)
            (rw [wpMixC])
            (rw [wpMix]; simp only [pick, List.drop_succ_cons, List.drop_zero, List.head?_cons, Option.toList_some, List.cons_append, List.nil_append])
            (repeat (first | (go_big_quiet_step (fail)) | (quiet_step (fail))))
            (try refine wpQuiet_nil ?_)
            (rw [wpMix])
            (refine hQ' _ _ ?_)
            go_wp2_with fail
            go_ret
            exact ⟨ret_bool (by rw [HV.out]), by exact BelowA⟩
          · have g2a : decide (B ≤ 0) = false := by simpa using g2
            have HV : Hid (R = false) := hid (by rw [HER.out]; simp [g1, g2])
            refine wp_mixC (fun wc => Below (w4.heap.size) w4 wc) 20 [.q [0, 1, 2, 3, 4, 5, 6, 7, 8, 9, 10, 12, 15], .f [11, 13], .q [14, 16, 17, 18, 19]] [.q [20]] (by kernel_rfl) (by kernel_rfl) ((Below.refl _ _).drew) ?_
            intro Q' hQ'
            (rw [wpMixC]; simp only [pick, List.drop_succ_cons, List.drop_zero, List.head?_cons, Option.toList_some, List.cons_append, List.nil_append])
            (repeat (first | go_big_quiet_skip | (go_big_quiet_want; refine quiet_simple rfl ?_; go_big_quiet_op; go_big_quiet_on) | (go_big_quiet_want; refine quiet_agg12B (ty := 134) rfl rfl (by kernel_rfl) (by assumption) (by assumption) (by assumption) (by assumption) (by assumption) (by assumption) (by assumption) (by assumption) (by assumption) (by assumption) (by assumption) (by assumption) (by first | omega | (simp; omega)) ?_; simp only [Act.put, List.setIfInBounds_toArray, List.set_cons_succ, List.set_cons_zero]; go_big_quiet_on) | (go_big_quiet_want; refine quiet_agg3B (ty := 135) rfl rfl (by kernel_rfl) (by assumption) (by assumption) (by assumption) (by first | omega | (simp; omega)) ?_; simp only [Act.put, List.setIfInBounds_toArray, List.set_cons_succ, List.set_cons_zero]; go_big_quiet_on)))
            (try refine wpQuiet_nil ?_)
            (rw [wpMixC]; simp only [pick, List.drop_succ_cons, List.drop_zero, List.head?_cons, Option.toList_some, List.cons_append, List.nil_append])
            (rw [wpSteps]; go_wp2_with ((go_at_call 78; ((with_reducible refine (HD1.out _).mono ?_); rintro _ w5 ⟨rfl, hb5⟩))); rw [contF]; refine ⟨?_, ?_⟩; (next => exact BelowA))
            (rw [wpSteps]; go_wp2_with ((go_at_call 121; ((with_reducible refine (HSL.out _).mono ?_); rintro _ w6 ⟨rfl, hb6'⟩))); rw [contF]; refine ⟨?_, ?_⟩; (next => exact BelowA))
            (rw [wpSteps])
            (rw [wpMixC]; simp only [pick, List.drop_succ_cons, List.drop_zero, List.head?_cons, Option.toList_some, List.cons_append, List.nil_append])
            (repeat (first | go_big_quiet_skip | (go_big_quiet_want; refine quiet_simple rfl ?_; go_big_quiet_op; go_big_quiet_on) | (go_big_quiet_want; refine quiet_agg12B (ty := 134) rfl rfl (by kernel_rfl) (by assumption) (by assumption) (by assumption) (by assumption) (by assumption) (by assumption) (by assumption) (by assumption) (by assumption) (by assumption) (by assumption) (by assumption) (by first | omega | (simp; omega)) ?_; simp only [Act.put, List.setIfInBounds_toArray, List.set_cons_succ, List.set_cons_zero]; go_big_quiet_on) | (go_big_quiet_want; refine quiet_agg3B (ty := 135) rfl rfl (by kernel_rfl) (by assumption) (by assumption) (by assumption) (by first | omega | (simp; omega)) ?_; simp only [Act.put, List.setIfInBounds_toArray, List.set_cons_succ, List.set_cons_zero]; go_big_quiet_on)))
            (try refine wpQuiet_nil ?_)
            (rw [wpMixC])
            (rw [wpMix]; simp only [pick, List.drop_succ_cons, List.drop_zero, List.head?_cons, Option.toList_some, List.cons_append, List.nil_append])
            (repeat (first | (go_big_quiet_step (fail)) | (quiet_step (fail))))
            (try refine wpQuiet_nil ?_)
            (rw [wpMix])
            (refine hQ' _ _ ?_)
            go_wp2_with fail
            go_ret
            exact ⟨ret_bool (by rw [HV.out]), by exact BelowA⟩
end Go.Proofs.Ytlmdmpjfehpjeaa
set_option linter.unusedVariables false
set_option linter.unusedSimpArgs false
namespace Go.Proofs.Ytlmdmpjfehpjeaa
open Go.RowKit
end Go.Proofs.Ytlmdmpjfehpjeaa
set_option linter.unusedVariables false
set_option linter.unusedSimpArgs false
namespace Go.Proofs.Ytlmdmpjfehpjeaa
open Go.RowKit
theorem err_two (m : TMod) : (firstNZ [plE m.pl, tmE m.tm, unl m.right 2] ≠ 0 → m.err = firstNZ [plE m.pl, tmE m.tm, unl m.right 2]) ∧ (firstNZ [plE m.pl, tmE m.tm, unl m.right 2] = 0 → m.right = true ∧ m.err = firstNZ [unl (decide (m.lo ≤ m.hi)) 9, unl (decide (m.slow < m.lo)) 13]) := by
 unfold TMod.err
 by_cases h1 : plE m.pl = 0
 ·by_cases h2 : tmE m.tm = 0
  ·cases h3 : m.right
   ·simp [firstNZ, h1, h2, unl]
   ·simp [firstNZ, h1, h2, unl]
  ·simp [firstNZ, h1, h2]
 ·simp [firstNZ, h1]
set_option maxRecDepth 100000 in
set_option maxHeartbeats 8000000 in
theorem track_CheckModel (m : TMod) (w : World) : Calls Try.prog 14 #[m.v] w fun e w' => e = .returned (.int .i64 m.err) ∧ Below w.heap.size w w' := by
 have HE := hid (err_two m)
 have HSZ : Hid (m.right = true → 0 ≤ m.li * m.tk ∧ m.li * m.tk ≤ 2000 ∧ 0 ≤ m.li * m.tk * m.tk ∧ m.li * m.tk * m.tk ≤ 40000) := hid right_sz
 have HP : Hid (∀ W, Calls Try.prog 70 #[m.pl.v] W fun e w' => e = .returned (.int .i64 (plE m.pl)) ∧ Below W.heap.size W w') := hid (fun W => track_placeErr m.pl W)
 have HT : Hid (∀ W, Calls Try.prog 71 #[.int .i64 m.tm] W fun e w' => e = .returned (.int .i64 (tmE m.tm)) ∧ W = w') := hid (fun W => track_timeErr _ W)
 have HR : Hid (m.right = (inB m.tk 1 20 && inB m.lo 1 1200 && inB m.hi 1 1200 && inB m.li 1 100 && inB m.ea 0 100 && inB m.la 0 100 && inB m.no 0 100 && inB m.mi 0 100)) := hid rfl
 have HSL : Hid (m.slow = m.li * m.tk * m.tk) := hid rfl
 generalize plE m.pl = P at HE HP
 generalize tmE m.tm = T at HE HT
 generalize m.err = E at HE ⊢
 generalize m.right = R at HE HSZ HR
 generalize m.slow = S at HE HSL
 obtain ⟨px, py, pz, tm, tk, lo, hi, li, ea, la, no, mi⟩ := m
 unfold TMod.v
 simp only [TMod.pl, V3.v] at *
 obtain ⟨W, hW⟩ : ∃ W, W = w.alloc (.cells #[.int .i64 px, .int .i64 py, .int .i64 pz, .int .i64 tm, .int .i64 tk, .int .i64 lo, .int .i64 hi, .int .i64 li, .int .i64 ea, .int .i64 la, .int .i64 no, .int .i64 mi] 26) := ⟨_, rfl⟩
 have hbW : Below w.heap.size w W := by rw [hW]; exact BelowA
 have q0 : W.heap[w.heap.size]? = some (.cells #[.int .i64 px, .int .i64 py, .int .i64 pz, .int .i64 tm, .int .i64 tk, .int .i64 lo, .int .i64 hi, .int .i64 li, .int .i64 ea, .int .i64 la, .int .i64 no, .int .i64 mi] 26 (0, 0)) := by rw [hW]; exact heap_alloc_new w _
 have Q0 := hid q0
 have c0 : W.cell? ⟨w.heap.size, 0, none⟩ = some (.int .i64 px) := by rw [cell_of_row W _ 0 _ _ (0, 0) q0]; rfl
 have c1 : W.cell? ⟨w.heap.size, 1, none⟩ = some (.int .i64 py) := by rw [cell_of_row W _ 1 _ _ (0, 0) q0]; rfl
 have c2 : W.cell? ⟨w.heap.size, 2, none⟩ = some (.int .i64 pz) := by rw [cell_of_row W _ 2 _ _ (0, 0) q0]; rfl
 have c3 : W.cell? ⟨w.heap.size, 3, none⟩ = some (.int .i64 tm) := by rw [cell_of_row W _ 3 _ _ (0, 0) q0]; rfl
 have hl0 := (Array.getElem?_eq_some_iff.1 q0).1
 clear q0
 have hi0 : ∀ (a b c d : Int) (w : World), (Instr.index 128 (.agg #[.int .i64 a, .int .i64 b, .int .i64 c, .int .i64 d]) (.int .i64 0)).run Try.prog w = .ok (.int .i64 a) w := fun _ _ _ _ _ => by kernel_rfl
 have hi1 : ∀ (a b c d : Int) (w : World), (Instr.index 128 (.agg #[.int .i64 a, .int .i64 b, .int .i64 c, .int .i64 d]) (.int .i64 1)).run Try.prog w = .ok (.int .i64 b) w := fun _ _ _ _ _ => by kernel_rfl
 have hi2 : ∀ (a b c d : Int) (w : World), (Instr.index 128 (.agg #[.int .i64 a, .int .i64 b, .int .i64 c, .int .i64 d]) (.int .i64 2)).run Try.prog w = .ok (.int .i64 c) w := fun _ _ _ _ _ => by kernel_rfl
 have hi3 : ∀ (a b c d : Int) (w : World), (Instr.index 128 (.agg #[.int .i64 a, .int .i64 b, .int .i64 c, .int .i64 d]) (.int .i64 3)).run Try.prog w = .ok (.int .i64 d) w := fun _ _ _ _ _ => by kernel_rfl
 cases R
 ·have HN : Hid (E = firstNZ [P, T, 2] ∧ firstNZ [P, T, 2] ≠ 0) := hid (by
   have h0 : firstNZ [P, T, unl false 2] ≠ 0 := by
    by_cases h1 : P = 0 <;> by_cases h2 : T = 0 <;> simp [firstNZ, unl, h1, h2]
   exact ⟨HE.out.1 h0, h0⟩)
  have HB : Hid (¬ (inB tk 1 20 = true ∧ inB lo 1 1200 = true ∧ inB hi 1 1200 = true ∧ inB li 1 100 = true ∧ inB ea 0 100 = true ∧ inB la 0 100 = true ∧ inB no 0 100 = true ∧ inB mi 0 100 = true)) := hid (by
   rintro ⟨b1, b2, b3, b4, b5, b6, b7, b8⟩
   have := HR.out
   rw [b1, b2, b3, b4, b5, b6, b7, b8] at this
   exact absurd this (by decide))
  have hne : (E != 0) = true := by have h1 := HN.out.1; have h2 := HN.out.2; rw [← h1] at h2; simpa using h2
  have HF : Hid (∀ v w, IntsAt w v [P, T, unl false 2] → Calls Try.prog 69 #[v] w fun e w' => e = .returned (.int .i64 E) ∧ w = w') := hid (fun v w h => by rw [HN.out.1]; exact track_first _ v w h)
  cases hm : inB mi 0 100
  all_goals
   go_enter Try.func14, Try.ntmps14
   go_wp2_with (go_at_call 68; refine (track_within _ _ _ _).mono ?_; rintro _ _ ⟨rfl, rfl⟩)
   all_goals (refine wp_loop_rounds 5 ?_)
   repeat any_goals (rw [rounds_succ]; go_wp2_with (go_at_call 68; refine (track_within _ _ _ _).mono ?_; rintro _ _ ⟨rfl, rfl⟩))
   all_goals (try simp only [Bool.not_eq_true', Bool.not_eq_false', Bool.not_eq_true, Bool.not_eq_false] at *)
   all_goals (try (exfalso; exact HB.out ⟨by assumption, by assumption, by assumption, by assumption, by assumption, by assumption, by assumption, by assumption⟩))
   all_goals (rw [← hW])
   all_goals (clear hW)
   all_goals
    refine wp_mixC (fun wc => Below (W.heap.size) W wc) 10 [.q [0, 1, 3, 4, 6], .f [2, 5, 7, 8, 9]] [.q [10]] (by kernel_rfl) (by kernel_rfl) ((Below.refl _ _).drew) ?_
    intro Q' hQ'
    (rw [wpMixC]; simp only [pick, List.drop_succ_cons, List.drop_zero, List.head?_cons, Option.toList_some, List.cons_append, List.nil_append])
    (repeat (first | go_big_quiet_skip | (go_big_quiet_want; refine quiet_simple rfl ?_; go_big_quiet_op; go_big_quiet_on) | (go_big_quiet_want; refine quiet_cellB (ty := 3) rfl rfl (by kernel_rfl) (by assumption) (by first | omega | (simp; omega)) ?_; simp only [Act.put, List.setIfInBounds_toArray, List.set_cons_succ, List.set_cons_zero]; go_big_quiet_on) | (go_big_quiet_want; refine quiet_agg3B (ty := 22) rfl rfl (by kernel_rfl) (by assumption) (by assumption) (by assumption) (by first | omega | (simp; omega)) ?_; simp only [Act.put, List.setIfInBounds_toArray, List.set_cons_succ, List.set_cons_zero]; go_big_quiet_on)))
    (try refine wpQuiet_nil ?_)
    (rw [wpMixC]; simp only [pick, List.drop_succ_cons, List.drop_zero, List.head?_cons, Option.toList_some, List.cons_append, List.nil_append])
    (rw [wpSteps]; go_wp2_with ((go_at_call 70; refine (HP.out _).mono ?_; rintro _ w1 ⟨rfl, hb1⟩)); rw [contF]; refine ⟨?_, ?_⟩; (next => exact BelowA))
    (rw [wpSteps]; go_wp2_with ((go_at_call 71; refine (HT.out _).mono ?_; rintro _ _ ⟨rfl, rfl⟩)); rw [contF]; refine ⟨?_, ?_⟩; (next => exact BelowA))
    (rw [wpSteps]; go_wp2_with ((go_at_call 72; refine (track_unless _ _ _).mono ?_; rintro _ _ ⟨rfl, rfl⟩)); rw [contF]; refine ⟨?_, ?_⟩; (next => exact BelowA))
    (rw [wpSteps]; go_wp2_with (fail); rw [contF]; refine ⟨?_, ?_⟩; (next => exact BelowA))
    (rw [wpSteps]; go_wp2_with ((go_at_call 69; refine (HF.out _ _ (intsAt_new _ _ _ _ _ rfl (by simp) (by first | rfl | simp))).mono ?_; rintro _ _ ⟨rfl, rfl⟩)); rw [contF]; refine ⟨?_, ?_⟩; (next => exact BelowA))
    (rw [wpSteps])
    (rw [wpMixC])
    (rw [wpMix]; simp only [pick, List.drop_succ_cons, List.drop_zero, List.head?_cons, Option.toList_some, List.cons_append, List.nil_append])
    (repeat (first | (go_big_quiet_step (fail)) | (quiet_step (fail))))
    (try refine wpQuiet_nil ?_)
    (rw [wpMix])
    (refine hQ' _ _ ?_)
    go_wp2_with fail
    go_ret
    exact ⟨rfl, by exact BelowA⟩
 ·have hall := HR.out.symm
  simp only [Bool.and_eq_true] at hall
  obtain ⟨⟨⟨⟨⟨⟨⟨b1, b2⟩, b3⟩, b4⟩, b5⟩, b6⟩, b7⟩, b8⟩ := hall
  obtain ⟨z1, z2, z3, z4⟩ := HSZ.out rfl
  have k1 : IntKind.i64.wrap (li * tk) = li * tk := IntWalk.i64_in _ (by omega)
  have k2 : IntKind.i64.wrap (li * tk * tk) = li * tk * tk := IntWalk.i64_in _ (by omega)
  rw [← HSL.out] at k2 z3 z4
  generalize hA : li * tk = A at k1 HSL z1 z2
  have k2' : IntKind.i64.wrap (A * tk) = S := by rw [← HSL.out]; exact k2
  have k1' : IntKind.i64.wrap (li * tk) = A := by rw [hA]; exact k1
  clear k1 k2 hA
  have HF : Hid (∀ v w, IntsAt w v [P, T, unl true 2] → Calls Try.prog 69 #[v] w fun e w' => e = .returned (.int .i64 (firstNZ [P, T, unl true 2])) ∧ w = w') := hid (fun v w h => track_first _ v w h)
  generalize firstNZ [P, T, unl true 2] = E1 at HE HF
  by_cases h1 : E1 = 0
  ·subst h1
   have HV : Hid (E = firstNZ [unl (decide (lo ≤ hi)) 9, unl (decide (S < lo)) 13]) := hid ((HE.out.2 rfl).2)
   go_enter Try.func14, Try.ntmps14
   go_wp2_with (go_at_call 68; refine (track_within _ _ _ _).mono ?_; rintro _ _ ⟨rfl, rfl⟩)
   refine wp_loop_rounds 5 ?_
   repeat any_goals (rw [rounds_succ]; go_wp2_with (go_at_call 68; refine (track_within _ _ _ _).mono ?_; rintro _ _ ⟨rfl, rfl⟩))
   rw [← hW]
   clear hW
   refine wp_mixC (fun wc => Below (W.heap.size) W wc) 10 [.q [0, 1, 3, 4, 6], .f [2, 5, 7, 8, 9]] [.q [10]] (by kernel_rfl) (by kernel_rfl) ((Below.refl _ _).drew) ?_
   intro Q' hQ'
   (rw [wpMixC]; simp only [pick, List.drop_succ_cons, List.drop_zero, List.head?_cons, Option.toList_some, List.cons_append, List.nil_append])
   (repeat (first | go_big_quiet_skip | (go_big_quiet_want; refine quiet_simple rfl ?_; go_big_quiet_op; go_big_quiet_on) | (go_big_quiet_want; refine quiet_cellB (ty := 3) rfl rfl (by kernel_rfl) (by assumption) (by first | omega | (simp; omega)) ?_; simp only [Act.put, List.setIfInBounds_toArray, List.set_cons_succ, List.set_cons_zero]; go_big_quiet_on) | (go_big_quiet_want; refine quiet_agg3B (ty := 22) rfl rfl (by kernel_rfl) (by assumption) (by assumption) (by assumption) (by first | omega | (simp; omega)) ?_; simp only [Act.put, List.setIfInBounds_toArray, List.set_cons_succ, List.set_cons_zero]; go_big_quiet_on)))
   (try refine wpQuiet_nil ?_)
   (rw [wpMixC]; simp only [pick, List.drop_succ_cons, List.drop_zero, List.head?_cons, Option.toList_some, List.cons_append, List.nil_append])
   (rw [wpSteps]; go_wp2_with ((go_at_call 70; refine (HP.out _).mono ?_; rintro _ w1 ⟨rfl, hb1⟩)); rw [contF]; refine ⟨?_, ?_⟩; (next => exact BelowA))
   (rw [wpSteps]; go_wp2_with ((go_at_call 71; refine (HT.out _).mono ?_; rintro _ _ ⟨rfl, rfl⟩)); rw [contF]; refine ⟨?_, ?_⟩; (next => exact BelowA))
   (rw [wpSteps]; go_wp2_with ((go_at_call 72; refine (track_unless _ _ _).mono ?_; rintro _ _ ⟨rfl, rfl⟩)); rw [contF]; refine ⟨?_, ?_⟩; (next => exact BelowA))
   (rw [wpSteps]; go_wp2_with (fail); rw [contF]; refine ⟨?_, ?_⟩; (next => exact BelowA))
   (rw [wpSteps]; go_wp2_with ((go_at_call 69; refine (HF.out _ _ (intsAt_new _ _ _ _ _ rfl (by simp) (by first | rfl | simp))).mono ?_; rintro _ _ ⟨rfl, rfl⟩)); rw [contF]; refine ⟨?_, ?_⟩; (next => exact BelowA))
   (rw [wpSteps])
   (rw [wpMixC])
   (rw [wpMix]; simp only [pick, List.drop_succ_cons, List.drop_zero, List.head?_cons, Option.toList_some, List.cons_append, List.nil_append])
   (repeat (first | (go_big_quiet_step (fail)) | (quiet_step (fail))))
   (try refine wpQuiet_nil ?_)
   (rw [wpMix])
   (refine hQ' _ _ ?_)
   go_wp2_with fail
   have hb2 : Below W.heap.size W (w1.alloc (.cells #[.int .i64 P, .int .i64 T, .int .i64 (unl true 2)] 30)) := by exact BelowA
   obtain ⟨W3, hW3⟩ : ∃ W3, W3 = w1.alloc (.cells #[.int .i64 P, .int .i64 T, .int .i64 (unl true 2)] 30) := ⟨_, rfl⟩
   rw [← hW3] at hb2 ⊢
   clear hW3 c0 c1 c2 c3
   have y0 := (hb2.block w.heap.size hl0).trans Q0.out
   have c4 : W3.cell? ⟨w.heap.size, 4, none⟩ = some (.int .i64 tk) := by rw [cell_of_row W3 _ 4 _ _ (0, 0) y0]; rfl
   have c5 : W3.cell? ⟨w.heap.size, 5, none⟩ = some (.int .i64 lo) := by rw [cell_of_row W3 _ 5 _ _ (0, 0) y0]; rfl
   have c6 : W3.cell? ⟨w.heap.size, 6, none⟩ = some (.int .i64 hi) := by rw [cell_of_row W3 _ 6 _ _ (0, 0) y0]; rfl
   have c7 : W3.cell? ⟨w.heap.size, 7, none⟩ = some (.int .i64 li) := by rw [cell_of_row W3 _ 7 _ _ (0, 0) y0]; rfl
   have hlx : w.heap.size < W3.heap.size := (Array.getElem?_eq_some_iff.1 y0).1
   clear y0
   refine wp_mixC (fun wc => Below (W3.heap.size) W3 wc) 23 [.q [0, 1, 2, 3, 4, 5, 6, 8, 9, 10, 11, 12, 13, 14, 15, 16, 17, 18, 19], .f [7, 20, 21, 22]] [.q [23]] (by kernel_rfl) (by kernel_rfl) ((Below.refl _ _).drew) ?_
   intro Q' hQ'
   (rw [wpMixC]; simp only [pick, List.drop_succ_cons, List.drop_zero, List.head?_cons, Option.toList_some, List.cons_append, List.nil_append])
   (repeat (first | go_big_quiet_skip | (go_big_quiet_want; refine quiet_simple rfl ?_; go_big_quiet_op; go_big_quiet_on) | (go_big_quiet_want; refine quiet_cellB (ty := 3) rfl rfl (by kernel_rfl) (by assumption) (by first | omega | (simp; omega)) ?_; simp only [Act.put, List.setIfInBounds_toArray, List.set_cons_succ, List.set_cons_zero]; go_big_quiet_on)))
   (try refine wpQuiet_nil ?_)
   (rw [wpMixC]; simp only [pick, List.drop_succ_cons, List.drop_zero, List.head?_cons, Option.toList_some, List.cons_append, List.nil_append])
   (rw [wpSteps]; go_wp2_with ((first | (go_at_call 72; refine (track_unless _ _ _).mono ?_; rintro _ _ ⟨rfl, rfl⟩) | (first | (go_at_call 69; refine (track_first [unl (decide (lo ≤ hi)) 9, unl (decide (S < lo)) 13] _ _ (intsAt_new _ _ _ _ _ rfl (by simp) (by first | rfl | simp))).mono ?_; rintro _ _ ⟨rfl, rfl⟩) | (go_at_call 69; refine (track_first [unl (decide (lo ≤ hi)) 9, unl (decide (S < lo)) 13] _ _ ((intsAt_new _ _ _ _ _ rfl (by simp) (by first | rfl | simp)).below (Below.drew (Below.refl _ _)))).mono ?_; rintro _ _ ⟨rfl, rfl⟩)))); rw [contF]; refine ⟨?_, ?_⟩; (next => exact BelowA))
   (rw [wpSteps]; go_wp2_with ((first | (go_at_call 72; refine (track_unless _ _ _).mono ?_; rintro _ _ ⟨rfl, rfl⟩) | (first | (go_at_call 69; refine (track_first [unl (decide (lo ≤ hi)) 9, unl (decide (S < lo)) 13] _ _ (intsAt_new _ _ _ _ _ rfl (by simp) (by first | rfl | simp))).mono ?_; rintro _ _ ⟨rfl, rfl⟩) | (go_at_call 69; refine (track_first [unl (decide (lo ≤ hi)) 9, unl (decide (S < lo)) 13] _ _ ((intsAt_new _ _ _ _ _ rfl (by simp) (by first | rfl | simp)).below (Below.drew (Below.refl _ _)))).mono ?_; rintro _ _ ⟨rfl, rfl⟩)))); rw [contF]; refine ⟨?_, ?_⟩; (next => exact BelowA))
   (rw [wpSteps]; go_wp2_with ((first | (go_at_call 69; refine (track_first [unl (decide (lo ≤ hi)) 9, unl (decide (S < lo)) 13] _ _ (intsAt_new _ _ _ _ _ rfl (by simp) (by first | rfl | simp))).mono ?_; rintro _ _ ⟨rfl, rfl⟩) | (go_at_call 69; refine (track_first [unl (decide (lo ≤ hi)) 9, unl (decide (S < lo)) 13] _ _ ((intsAt_new _ _ _ _ _ rfl (by simp) (by first | rfl | simp)).below (Below.drew (Below.refl _ _)))).mono ?_; rintro _ _ ⟨rfl, rfl⟩))); rw [contF]; refine ⟨?_, ?_⟩; (next => exact BelowA))
   (rw [wpSteps]; go_wp2_with ((first | (go_at_call 69; refine (track_first [unl (decide (lo ≤ hi)) 9, unl (decide (S < lo)) 13] _ _ (intsAt_new _ _ _ _ _ rfl (by simp) (by first | rfl | simp))).mono ?_; rintro _ _ ⟨rfl, rfl⟩) | (go_at_call 69; refine (track_first [unl (decide (lo ≤ hi)) 9, unl (decide (S < lo)) 13] _ _ ((intsAt_new _ _ _ _ _ rfl (by simp) (by first | rfl | simp)).below (Below.drew (Below.refl _ _)))).mono ?_; rintro _ _ ⟨rfl, rfl⟩))); rw [contF]; refine ⟨?_, ?_⟩; (next => exact BelowA))
   (rw [wpSteps])
   (rw [wpMixC])
   (rw [wpMix]; simp only [pick, List.drop_succ_cons, List.drop_zero, List.head?_cons, Option.toList_some, List.cons_append, List.nil_append])
   (repeat (first | (go_big_quiet_step (fail)) | (quiet_step (fail))))
   (try refine wpQuiet_nil ?_)
   (rw [wpMix])
   (refine hQ' _ _ ?_)
   go_wp2_with fail
   go_ret
   exact ⟨ret_int HV.out.symm, by exact BelowA⟩
  ·have hne : (E1 != 0) = true := by simpa using h1
   have HV : Hid (E = E1) := hid (HE.out.1 h1)
   clear h1
   go_enter Try.func14, Try.ntmps14
   go_wp2_with (go_at_call 68; refine (track_within _ _ _ _).mono ?_; rintro _ _ ⟨rfl, rfl⟩)
   refine wp_loop_rounds 5 ?_
   repeat any_goals (rw [rounds_succ]; go_wp2_with (go_at_call 68; refine (track_within _ _ _ _).mono ?_; rintro _ _ ⟨rfl, rfl⟩))
   rw [← hW]
   clear hW
   refine wp_mixC (fun wc => Below (W.heap.size) W wc) 10 [.q [0, 1, 3, 4, 6], .f [2, 5, 7, 8, 9]] [.q [10]] (by kernel_rfl) (by kernel_rfl) ((Below.refl _ _).drew) ?_
   intro Q' hQ'
   (rw [wpMixC]; simp only [pick, List.drop_succ_cons, List.drop_zero, List.head?_cons, Option.toList_some, List.cons_append, List.nil_append])
   (repeat (first | go_big_quiet_skip | (go_big_quiet_want; refine quiet_simple rfl ?_; go_big_quiet_op; go_big_quiet_on) | (go_big_quiet_want; refine quiet_cellB (ty := 3) rfl rfl (by kernel_rfl) (by assumption) (by first | omega | (simp; omega)) ?_; simp only [Act.put, List.setIfInBounds_toArray, List.set_cons_succ, List.set_cons_zero]; go_big_quiet_on) | (go_big_quiet_want; refine quiet_agg3B (ty := 22) rfl rfl (by kernel_rfl) (by assumption) (by assumption) (by assumption) (by first | omega | (simp; omega)) ?_; simp only [Act.put, List.setIfInBounds_toArray, List.set_cons_succ, List.set_cons_zero]; go_big_quiet_on)))
   (try refine wpQuiet_nil ?_)
   (rw [wpMixC]; simp only [pick, List.drop_succ_cons, List.drop_zero, List.head?_cons, Option.toList_some, List.cons_append, List.nil_append])
   (rw [wpSteps]; go_wp2_with ((go_at_call 70; refine (HP.out _).mono ?_; rintro _ w1 ⟨rfl, hb1⟩)); rw [contF]; refine ⟨?_, ?_⟩; (next => exact BelowA))
   (rw [wpSteps]; go_wp2_with ((go_at_call 71; refine (HT.out _).mono ?_; rintro _ _ ⟨rfl, rfl⟩)); rw [contF]; refine ⟨?_, ?_⟩; (next => exact BelowA))
   (rw [wpSteps]; go_wp2_with ((go_at_call 72; refine (track_unless _ _ _).mono ?_; rintro _ _ ⟨rfl, rfl⟩)); rw [contF]; refine ⟨?_, ?_⟩; (next => exact BelowA))
   (rw [wpSteps]; go_wp2_with (fail); rw [contF]; refine ⟨?_, ?_⟩; (next => exact BelowA))
   (rw [wpSteps]; go_wp2_with ((go_at_call 69; refine (HF.out _ _ (intsAt_new _ _ _ _ _ rfl (by simp) (by first | rfl | simp))).mono ?_; rintro _ _ ⟨rfl, rfl⟩)); rw [contF]; refine ⟨?_, ?_⟩; (next => exact BelowA))
   (rw [wpSteps])
   (rw [wpMixC])
   (rw [wpMix]; simp only [pick, List.drop_succ_cons, List.drop_zero, List.head?_cons, Option.toList_some, List.cons_append, List.nil_append])
   (repeat (first | (go_big_quiet_step (fail)) | (quiet_step (fail))))
   (try refine wpQuiet_nil ?_)
   (rw [wpMix])
   (refine hQ' _ _ ?_)
   go_wp2_with fail
   go_ret
   exact ⟨ret_int HV.out.symm, by exact BelowA⟩
end Go.Proofs.Ytlmdmpjfehpjeaa
set_option linter.unusedVariables false
set_option linter.unusedSimpArgs false
namespace Go.Proofs.Ytlmdmpjfehpjeaa
open Go.RowKit
set_option maxRecDepth 100000 in
set_option maxHeartbeats 4000000 in
theorem track_open (m : TMod) (w : World) : Calls Try.prog 119 #[m.v] w fun e w' => e = .returned (.tuple #[m.v, .int .i64 m.err]) ∧ Below w.heap.size w w' := by
 have HC : Hid (∀ W, Calls Try.prog 14 #[m.v] W fun e w' => e = .returned (.int .i64 m.err) ∧ Below W.heap.size W w') := hid (fun W => track_CheckModel m W)
 generalize m.err = E at HC ⊢
 obtain ⟨px, py, pz, tm, tk, lo, hi, li, ea, la, no, mi⟩ := m
 unfold TMod.v at *
 simp only at *
 obtain ⟨W, hW⟩ : ∃ W, W = (w.alloc (.cells #[.int .i64 px, .int .i64 py, .int .i64 pz, .int .i64 tm, .int .i64 tk, .int .i64 lo, .int .i64 hi, .int .i64 li, .int .i64 ea, .int .i64 la, .int .i64 no, .int .i64 mi] 26)).alloc (.cells #[.int .i64 0, .int .i64 0, .int .i64 0, .int .i64 0, .int .i64 0, .int .i64 0, .int .i64 0, .int .i64 0, .int .i64 0, .int .i64 0, .int .i64 0, .int .i64 0] 134) := ⟨_, rfl⟩
 have hbW : Below w.heap.size w W := by rw [hW]; exact BelowA
 obtain ⟨q0, q1, hl0, hl1⟩ := al2 w _ _ _ _ W hW
 have c0 : W.cell? ⟨w.heap.size, 0, none⟩ = some (.int .i64 px) := by rw [cell_of_row W _ 0 _ _ (0, 0) q0]; rfl
 have c1 : W.cell? ⟨w.heap.size, 1, none⟩ = some (.int .i64 py) := by rw [cell_of_row W _ 1 _ _ (0, 0) q0]; rfl
 have c2 : W.cell? ⟨w.heap.size, 2, none⟩ = some (.int .i64 pz) := by rw [cell_of_row W _ 2 _ _ (0, 0) q0]; rfl
 have c3 : W.cell? ⟨w.heap.size, 3, none⟩ = some (.int .i64 tm) := by rw [cell_of_row W _ 3 _ _ (0, 0) q0]; rfl
 have c4 : W.cell? ⟨w.heap.size, 4, none⟩ = some (.int .i64 tk) := by rw [cell_of_row W _ 4 _ _ (0, 0) q0]; rfl
 have c5 : W.cell? ⟨w.heap.size, 5, none⟩ = some (.int .i64 lo) := by rw [cell_of_row W _ 5 _ _ (0, 0) q0]; rfl
 have c6 : W.cell? ⟨w.heap.size, 6, none⟩ = some (.int .i64 hi) := by rw [cell_of_row W _ 6 _ _ (0, 0) q0]; rfl
 have c7 : W.cell? ⟨w.heap.size, 7, none⟩ = some (.int .i64 li) := by rw [cell_of_row W _ 7 _ _ (0, 0) q0]; rfl
 have c8 : W.cell? ⟨w.heap.size, 8, none⟩ = some (.int .i64 ea) := by rw [cell_of_row W _ 8 _ _ (0, 0) q0]; rfl
 have c9 : W.cell? ⟨w.heap.size, 9, none⟩ = some (.int .i64 la) := by rw [cell_of_row W _ 9 _ _ (0, 0) q0]; rfl
 have c10 : W.cell? ⟨w.heap.size, 10, none⟩ = some (.int .i64 no) := by rw [cell_of_row W _ 10 _ _ (0, 0) q0]; rfl
 have c11 : W.cell? ⟨w.heap.size, 11, none⟩ = some (.int .i64 mi) := by rw [cell_of_row W _ 11 _ _ (0, 0) q0]; rfl
 have Q1 := hid q1
 clear q0 q1
 go_enter Try.func119, Try.ntmps119
 go_wp2_with fail
 rw [← hW]
 clear hW
 refine wp_mixC (fun wc => Below ((w.heap.size + 1)) W wc) 5 [.q [0, 1, 2], .f [3, 4]] [.q [5]] (by kernel_rfl) (by kernel_rfl) ((Below.refl _ _).drew) ?_
 intro Q' hQ'
 (rw [wpMixC]; simp only [pick, List.drop_succ_cons, List.drop_zero, List.head?_cons, Option.toList_some, List.cons_append, List.nil_append])
 (repeat (first | go_big_quiet_skip | (go_big_quiet_want; refine quiet_simple rfl ?_; go_big_quiet_op; go_big_quiet_on) | (go_big_quiet_want; refine quiet_agg12B (ty := 26) rfl rfl (by kernel_rfl) (by assumption) (by assumption) (by assumption) (by assumption) (by assumption) (by assumption) (by assumption) (by assumption) (by assumption) (by assumption) (by assumption) (by assumption) (by first | omega | (simp; omega)) ?_; simp only [Act.put, List.setIfInBounds_toArray, List.set_cons_succ, List.set_cons_zero]; go_big_quiet_on)))
 (try refine wpQuiet_nil ?_)
 (rw [wpMixC]; simp only [pick, List.drop_succ_cons, List.drop_zero, List.head?_cons, Option.toList_some, List.cons_append, List.nil_append])
 (rw [wpSteps]; go_wp2_with ((go_at_call 14; ((with_reducible refine (HC.out _).mono ?_); rintro _ w1 ⟨rfl, hb1⟩; have hbm : Below (w.heap.size + 1) W w1 := ((Below.refl (w.heap.size + 1) W).drew).trans (hb1.mono (by show w.heap.size + 1 ≤ W.heap.size; omega)); have hbf : Below w.heap.size w w1 := hbW.trans (hbm.mono (by omega)); have q1 := (hb1.block (w.heap.size + 1) hl1).trans Q1.out; have g0 : w1.cell? ⟨w.heap.size + 1, 0, none⟩ = some (.int .i64 0) := (by rw [cell_of_row w1 _ 0 _ _ (0, 0) q1]; rfl); have f0 := frozen_of_row w1 (w.heap.size + 1) 0 _ _ q1; have g1 : w1.cell? ⟨w.heap.size + 1, 1, none⟩ = some (.int .i64 0) := (by rw [cell_of_row w1 _ 1 _ _ (0, 0) q1]; rfl); have f1 := frozen_of_row w1 (w.heap.size + 1) 1 _ _ q1; have g2 : w1.cell? ⟨w.heap.size + 1, 2, none⟩ = some (.int .i64 0) := (by rw [cell_of_row w1 _ 2 _ _ (0, 0) q1]; rfl); have f2 := frozen_of_row w1 (w.heap.size + 1) 2 _ _ q1; have g3 : w1.cell? ⟨w.heap.size + 1, 3, none⟩ = some (.int .i64 0) := (by rw [cell_of_row w1 _ 3 _ _ (0, 0) q1]; rfl); have f3 := frozen_of_row w1 (w.heap.size + 1) 3 _ _ q1; have g4 : w1.cell? ⟨w.heap.size + 1, 4, none⟩ = some (.int .i64 0) := (by rw [cell_of_row w1 _ 4 _ _ (0, 0) q1]; rfl); have f4 := frozen_of_row w1 (w.heap.size + 1) 4 _ _ q1; have g5 : w1.cell? ⟨w.heap.size + 1, 5, none⟩ = some (.int .i64 0) := (by rw [cell_of_row w1 _ 5 _ _ (0, 0) q1]; rfl); have f5 := frozen_of_row w1 (w.heap.size + 1) 5 _ _ q1; have g6 : w1.cell? ⟨w.heap.size + 1, 6, none⟩ = some (.int .i64 0) := (by rw [cell_of_row w1 _ 6 _ _ (0, 0) q1]; rfl); have f6 := frozen_of_row w1 (w.heap.size + 1) 6 _ _ q1; have g7 : w1.cell? ⟨w.heap.size + 1, 7, none⟩ = some (.int .i64 0) := (by rw [cell_of_row w1 _ 7 _ _ (0, 0) q1]; rfl); have f7 := frozen_of_row w1 (w.heap.size + 1) 7 _ _ q1; have g8 : w1.cell? ⟨w.heap.size + 1, 8, none⟩ = some (.int .i64 0) := (by rw [cell_of_row w1 _ 8 _ _ (0, 0) q1]; rfl); have f8 := frozen_of_row w1 (w.heap.size + 1) 8 _ _ q1; have g9 : w1.cell? ⟨w.heap.size + 1, 9, none⟩ = some (.int .i64 0) := (by rw [cell_of_row w1 _ 9 _ _ (0, 0) q1]; rfl); have f9 := frozen_of_row w1 (w.heap.size + 1) 9 _ _ q1; have g10 : w1.cell? ⟨w.heap.size + 1, 10, none⟩ = some (.int .i64 0) := (by rw [cell_of_row w1 _ 10 _ _ (0, 0) q1]; rfl); have f10 := frozen_of_row w1 (w.heap.size + 1) 10 _ _ q1; have g11 : w1.cell? ⟨w.heap.size + 1, 11, none⟩ = some (.int .i64 0) := (by rw [cell_of_row w1 _ 11 _ _ (0, 0) q1]; rfl); have f11 := frozen_of_row w1 (w.heap.size + 1) 11 _ _ q1; have hlx : w.heap.size + 1 < w1.heap.size := (Array.getElem?_eq_some_iff.1 q1).1; clear q1))); rw [contF]; refine ⟨?_, ?_⟩; (next => exact BelowA))
 (rw [wpSteps]; go_wp2_with (fail); rw [contF]; refine ⟨?_, ?_⟩; (next => exact BelowA))
 (rw [wpSteps])
 (rw [wpMixC])
 (rw [wpMix]; simp only [pick, List.drop_succ_cons, List.drop_zero, List.head?_cons, Option.toList_some, List.cons_append, List.nil_append])
 (repeat (first | (go_big_quiet_step (fail)) | (quiet_step (fail))))
 (try refine wpQuiet_nil ?_)
 (rw [wpMix])
 (refine hQ' _ _ ?_)
 go_wp2_with fail
 ((try simp only [Exit.inBlock, Exit.then]); refine bodyPost_ret (v := .tuple #[.agg #[.int .i64 px, .int .i64 py, .int .i64 pz, .int .i64 tm, .int .i64 tk, .int .i64 lo, .int .i64 hi, .int .i64 li, .int .i64 ea, .int .i64 la, .int .i64 no, .int .i64 mi], .int .i64 E]) ?_ rfl ?_; (next => simp [results, Try.results119, go_sem, hlx, g0, g1, g2, g3, g4, g5, g6, g7, g8, g9, g10, g11]); refine ⟨?_, ?_⟩; (next => rfl); (next => exact BelowA))
end Go.Proofs.Ytlmdmpjfehpjeaa
set_option linter.unusedVariables false
set_option linter.unusedSimpArgs false
namespace Go.Proofs.Ytlmdmpjfehpjeaa
open Go.RowKit
theorem tw_cells {w : World} {g : Nat} {x0 x1 x2 x3 x4 x5 x6 x7 x8 x9 x10 x11 : Value} {t : TypeId} (h : w.heap[g]? = some (.cells #[x0, x1, x2, x3, x4, x5, x6, x7, x8, x9, x10, x11] t (0, 0))) :
  w.cell? ⟨g, 0, none⟩ = some x0 ∧ w.cell? ⟨g, 1, none⟩ = some x1 ∧ w.cell? ⟨g, 2, none⟩ = some x2 ∧ w.cell? ⟨g, 3, none⟩ = some x3 ∧ w.cell? ⟨g, 4, none⟩ = some x4 ∧ w.cell? ⟨g, 5, none⟩ = some x5 ∧ w.cell? ⟨g, 6, none⟩ = some x6 ∧ w.cell? ⟨g, 7, none⟩ = some x7 ∧ w.cell? ⟨g, 8, none⟩ = some x8 ∧ w.cell? ⟨g, 9, none⟩ = some x9 ∧ w.cell? ⟨g, 10, none⟩ = some x10 ∧ w.cell? ⟨g, 11, none⟩ = some x11 ∧ g < w.heap.size := by
 refine ⟨?_, ?_, ?_, ?_, ?_, ?_, ?_, ?_, ?_, ?_, ?_, ?_, (Array.getElem?_eq_some_iff.1 h).1⟩
 ·rw [cell_of_row w g 0 _ t (0, 0) h]; rfl
 ·rw [cell_of_row w g 1 _ t (0, 0) h]; rfl
 ·rw [cell_of_row w g 2 _ t (0, 0) h]; rfl
 ·rw [cell_of_row w g 3 _ t (0, 0) h]; rfl
 ·rw [cell_of_row w g 4 _ t (0, 0) h]; rfl
 ·rw [cell_of_row w g 5 _ t (0, 0) h]; rfl
 ·rw [cell_of_row w g 6 _ t (0, 0) h]; rfl
 ·rw [cell_of_row w g 7 _ t (0, 0) h]; rfl
 ·rw [cell_of_row w g 8 _ t (0, 0) h]; rfl
 ·rw [cell_of_row w g 9 _ t (0, 0) h]; rfl
 ·rw [cell_of_row w g 10 _ t (0, 0) h]; rfl
 ·rw [cell_of_row w g 11 _ t (0, 0) h]; rfl
theorem tw_frozen {w : World} {g : Nat} {a : Array Value} {t : TypeId} (h : w.heap[g]? = some (.cells a t (0, 0))) :
  w.frozen? ⟨g, 0, none⟩ = false ∧ w.frozen? ⟨g, 1, none⟩ = false ∧ w.frozen? ⟨g, 2, none⟩ = false ∧ w.frozen? ⟨g, 3, none⟩ = false ∧ w.frozen? ⟨g, 4, none⟩ = false ∧ w.frozen? ⟨g, 5, none⟩ = false ∧ w.frozen? ⟨g, 6, none⟩ = false ∧ w.frozen? ⟨g, 7, none⟩ = false ∧ w.frozen? ⟨g, 8, none⟩ = false ∧ w.frozen? ⟨g, 9, none⟩ = false ∧ w.frozen? ⟨g, 10, none⟩ = false ∧ w.frozen? ⟨g, 11, none⟩ = false :=
 ⟨frozen_of_row w g 0 _ t h, frozen_of_row w g 1 _ t h, frozen_of_row w g 2 _ t h, frozen_of_row w g 3 _ t h, frozen_of_row w g 4 _ t h, frozen_of_row w g 5 _ t h, frozen_of_row w g 6 _ t h, frozen_of_row w g 7 _ t h, frozen_of_row w g 8 _ t h, frozen_of_row w g 9 _ t h, frozen_of_row w g 10 _ t h, frozen_of_row w g 11 _ t h⟩
theorem al4 (w : World) (a b c d : Array Value) (t s r q : TypeId) : ∀ W, W = (((w.alloc (.cells a t)).alloc (.cells b s)).alloc (.cells c r)).alloc (.cells d q) →
  W.heap.size = w.heap.size + 4 ∧ W.heap[w.heap.size]? = some (.cells a t (0, 0)) ∧ W.heap[w.heap.size + 1]? = some (.cells b s (0, 0)) ∧ W.heap[w.heap.size + 1 + 1]? = some (.cells c r (0, 0)) ∧ W.heap[w.heap.size + 1 + 1 + 1]? = some (.cells d q (0, 0)) := by
 rintro W rfl
 refine ⟨by simp, ?_, ?_, ?_, ?_⟩
 ·rw [Below.heap_alloc _ _ _ (by simp <;> omega), Below.heap_alloc _ _ _ (by simp <;> omega), Below.heap_alloc _ _ _ (by simp), heap_alloc_new]
 ·rw [Below.heap_alloc _ _ _ (by simp <;> omega), Below.heap_alloc _ _ _ (by simp)]
  have := heap_alloc_new (w.alloc (.cells a t)) (.cells b s)
  simpa using this
 ·rw [Below.heap_alloc _ _ _ (by simp)]
  have := heap_alloc_new ((w.alloc (.cells a t)).alloc (.cells b s)) (.cells c r)
  simpa using this
 ·have := heap_alloc_new (((w.alloc (.cells a t)).alloc (.cells b s)).alloc (.cells c r)) (.cells d q)
  simpa using this
theorem both_two (m : TMod) (s : V3) : (firstNZ [m.err, unl (s.inS 20) 2] ≠ 0 → m.both s = firstNZ [m.err, unl (s.inS 20) 2]) ∧ (firstNZ [m.err, unl (s.inS 20) 2] = 0 → s.inS 20 = true ∧ m.both s = unl (m.permB s) 24) := by
 unfold TMod.both TMod.stE
 by_cases h1 : m.err = 0
 ·cases h2 : s.inS 20
  ·simp [firstNZ, h1, unl]
  ·cases h3 : m.permB s <;> simp [firstNZ, h1, unl]
 ·simp [firstNZ, h1]
theorem KeepA {G : List Nat} {W w : World} (g : KeepB G W w := by (repeat (with_reducible first | assumption | exact KeepB.refl (by first | (simp; done) | (simp; omega)) | refine KeepB.drew ?_ | refine KeepB.alloc ?_ _ | refine KeepB.setCell ?_ (by first | (simp; done) | (simp; omega)) | refine KeepB.below ?_ (by assumption)))) : KeepB G W w := g
set_option maxRecDepth 100000 in
set_option maxHeartbeats 8000000 in
theorem track_openStep (m : TMod) (s : V3) (w : World) : Calls Try.prog 73 #[m.v, s.v] w fun e w' => e = .returned (.tuple #[m.v, s.v, .int .i64 (m.both s)]) ∧ Below w.heap.size w w' := by
 have HO : Hid (∀ W, Calls Try.prog 119 #[m.v] W fun e w' => e = .returned (.tuple #[m.v, .int .i64 m.err]) ∧ Below W.heap.size W w') := hid (fun W => track_open m W)
 have HF : Hid (∀ W, Calls Try.prog 102 #[s.v, .int .i64 20] W fun e w' => e = .returned (.bool (s.inS 20)) ∧ Below W.heap.size W w') := hid (fun W => track_fits s 20 W (by omega) (by omega))
 have HPM : Hid (s.inS 20 = true → ∀ W, Calls Try.prog 120 #[m.v, s.v] W fun e w' => e = .returned (.bool (m.permB s)) ∧ Below W.heap.size W w') := hid (fun h W => track_permitted m s W (sm_self h))
 have HE := hid (both_two m s)
 have HFI : Hid (∀ v w, IntsAt w v [m.err, unl (s.inS 20) 2] → Calls Try.prog 69 #[v] w fun e w' => e = .returned (.int .i64 (firstNZ [m.err, unl (s.inS 20) 2])) ∧ w = w') := hid (fun v w h => track_first _ v w h)
 generalize firstNZ [m.err, unl (s.inS 20) 2] = E1 at HE HFI
 generalize m.err = EM at HO HFI
 generalize m.both s = E at HE ⊢
 generalize m.permB s = PB at HE HPM
 generalize s.inS 20 = IS at HF HPM HE HFI
 obtain ⟨px, py, pz, tm, tk, lo, hi, li, ea, la, no, mi⟩ := m
 obtain ⟨sx, sy, sz⟩ := s
 unfold TMod.v V3.v at *
 simp only at *
 obtain ⟨W0, hW0⟩ : ∃ W0, W0 = (((w.alloc (.cells #[.int .i64 px, .int .i64 py, .int .i64 pz, .int .i64 tm, .int .i64 tk, .int .i64 lo, .int .i64 hi, .int .i64 li, .int .i64 ea, .int .i64 la, .int .i64 no, .int .i64 mi] 26)).alloc (.cells #[.int .i64 sx, .int .i64 sy, .int .i64 sz] 22)).alloc (.cells #[.int .i64 0, .int .i64 0, .int .i64 0, .int .i64 0, .int .i64 0, .int .i64 0, .int .i64 0, .int .i64 0, .int .i64 0, .int .i64 0, .int .i64 0, .int .i64 0] 134)).alloc (.cells #[.int .i64 0, .int .i64 0, .int .i64 0] 135) := ⟨_, rfl⟩
 have hbW0 : Below w.heap.size w W0 := by rw [hW0]; exact BelowA
 obtain ⟨hz0, q0, q1, q2, q3⟩ := al4 w _ _ _ _ _ _ _ _ W0 hW0
 have Q1 := hid q1
 have Q2 := hid q2
 have Q3 := hid q3
 clear q0 q1 q2 q3
 have hcase : E1 = 0 ∨ E1 ≠ 0 := by omega
 rcases hcase with h1 | h1
 ·subst h1
  have HI : Hid (IS = true ∧ E = unl PB 24) := hid (HE.out.2 rfl)
  go_enter Try.func73, Try.ntmps73
  go_wp2_with (first | (go_at_call 119; rw [← hW0]; refine (HO.out _).mono ?_; rintro _ w1 ⟨rfl, hb1⟩; have hz1 := hb1.size; obtain ⟨d0, d1, d2, fd0, fd1, fd2, hl1⟩ := three_cells ((hb1.block (w.heap.size + 1) (by omega)).trans Q1.out); clear fd0 fd1 fd2) | (go_at_call 102; obtain ⟨WB, hWB⟩ : ∃ WB, WB = (w1.alloc (.cells #[.int .i64 px, .int .i64 py, .int .i64 pz, .int .i64 tm, .int .i64 tk, .int .i64 lo, .int .i64 hi, .int .i64 li, .int .i64 ea, .int .i64 la, .int .i64 no, .int .i64 mi] 134)).alloc (.cells #[.int .i64 sx, .int .i64 sy, .int .i64 sz] 135) := ⟨_, rfl⟩; rw [← hWB]; have hbWB : Below w1.heap.size w1 WB := (by rw [hWB]; exact BelowA); obtain ⟨r0, r1, hr0, hr1⟩ := al2 w1 _ _ _ _ WB hWB; clear hWB; refine (HF.out _).mono ?_; rintro _ w2 ⟨rfl, hb2⟩; have R0 := hid ((hb2.block w1.heap.size hr0).trans r0); have R1 := hid ((hb2.block (w1.heap.size + 1) hr1).trans r1); obtain ⟨m0, m1, m2, m3, m4, m5, m6, m7, m8, m9, m10, m11, ml⟩ := tw_cells (R0.out); obtain ⟨s0, s1, s2, fs0, fs1, fs2, hls⟩ := three_cells R1.out; clear fs0 fs1 fs2 r0 r1) | (go_at_call 72; refine (track_unless _ _ _).mono ?_; rintro _ _ ⟨rfl, rfl⟩) | (go_at_call 69; refine (HFI.out _ _ (intsAt_new _ _ _ _ _ rfl (by simp) (by first | rfl | simp))).mono ?_; rintro _ _ ⟨rfl, rfl⟩) | (go_at_call 120; refine (HPM.out HI.out.1 _).mono ?_; rintro _ w3 ⟨rfl, hb3⟩))
  obtain ⟨wz, hWZ⟩ : ∃ wz, wz = w3 := ⟨_, rfl⟩
  have hbz : Below w2.heap.size w2 wz := by rw [hWZ]; exact BelowA
  have hbf : Below W0.heap.size W0 wz := ((hb1.trans (hbWB.mono (by omega))).trans (hb2.mono (by have := hbWB.size; omega))).trans (hbz.mono (by have := hbWB.size; have := hb2.size; omega))
  have hbg : Below w.heap.size w wz := hbW0.trans (hbf.mono (by omega))
  have y0 := (hbz.block w1.heap.size ml).trans R0.out
  have y1 := (hbz.block (w1.heap.size + 1) hls).trans R1.out
  have y2 := (hbf.block (w.heap.size + 1 + 1) (by omega)).trans Q2.out
  have y3 := (hbf.block (w.heap.size + 1 + 1 + 1) (by omega)).trans Q3.out
  rw [← hWZ]
  clear hWZ m0 m1 m2 m3 m4 m5 m6 m7 m8 m9 m10 m11 s0 s1 s2 d0 d1 d2
  obtain ⟨n0, n1, n2, n3, n4, n5, n6, n7, n8, n9, n10, n11, nl⟩ := tw_cells (y0)
  obtain ⟨t0, t1, t2, ft0, ft1, ft2, hlt⟩ := three_cells y1
  obtain ⟨g0, g1, g2, g3, g4, g5, g6, g7, g8, g9, g10, g11, gl⟩ := tw_cells (y2)
  obtain ⟨fg0, fg1, fg2, fg3, fg4, fg5, fg6, fg7, fg8, fg9, fg10, fg11⟩ := tw_frozen y2
  obtain ⟨h0, h1', h2, fh0, fh1, fh2, hlh⟩ := three_cells y3
  clear y0 y1 y2 y3 ft0 ft1 ft2 hbz hbf hb2 hbWB hb1
  refine wp_mixC (KeepB [w1.heap.size, w1.heap.size + 1] wz) 5 [.q [0, 1, 2], .f [3, 4]] [.q [5]] (by kernel_rfl) (by kernel_rfl) ((KeepB.refl (by first | (simp; done) | (simp; omega))).drew) ?_
  intro Q' hQ'
  (rw [wpMixC]; simp only [pick, List.drop_succ_cons, List.drop_zero, List.head?_cons, Option.toList_some, List.cons_append, List.nil_append])
  (repeat (first | go_big_quiet_skip | (go_big_quiet_want; refine quiet_simple rfl ?_; go_big_quiet_op; go_big_quiet_on) | (go_big_quiet_want; refine quiet_agg12K (ty := 134) rfl rfl (by kernel_rfl) (by assumption) (by assumption) (by assumption) (by assumption) (by assumption) (by assumption) (by assumption) (by assumption) (by assumption) (by assumption) (by assumption) (by assumption) (by simp) ?_; simp only [Act.put, List.setIfInBounds_toArray, List.set_cons_succ, List.set_cons_zero]; go_big_quiet_on) | (go_big_quiet_want; refine quiet_agg3K (ty := 135) rfl rfl (by kernel_rfl) (by assumption) (by assumption) (by assumption) (by simp) ?_; simp only [Act.put, List.setIfInBounds_toArray, List.set_cons_succ, List.set_cons_zero]; go_big_quiet_on)))
  (try refine wpQuiet_nil ?_)
  (rw [wpMixC]; simp only [pick, List.drop_succ_cons, List.drop_zero, List.head?_cons, Option.toList_some, List.cons_append, List.nil_append])
  (rw [wpSteps]; go_wp2_with (fail); rw [contF]; refine ⟨?_, ?_⟩; (next => exact KeepA))
  (rw [wpSteps]; go_wp2_with (fail); rw [contF]; refine ⟨?_, ?_⟩; (next => exact KeepA))
  (rw [wpSteps])
  (rw [wpMixC])
  (rw [wpMix]; simp only [pick, List.drop_succ_cons, List.drop_zero, List.head?_cons, Option.toList_some, List.cons_append, List.nil_append])
  (repeat (first | (go_big_quiet_step (fail)) | (quiet_step (fail))))
  (try refine wpQuiet_nil ?_)
  (rw [wpMix])
  (refine hQ' _ _ ?_)
  go_wp2_with fail
  ((try simp only [Exit.inBlock, Exit.then]); refine bodyPost_ret (v := .tuple #[.agg #[.int .i64 px, .int .i64 py, .int .i64 pz, .int .i64 tm, .int .i64 tk, .int .i64 lo, .int .i64 hi, .int .i64 li, .int .i64 ea, .int .i64 la, .int .i64 no, .int .i64 mi], .agg #[.int .i64 sx, .int .i64 sy, .int .i64 sz], .int .i64 (unl PB 24)]) ?_ rfl ?_; (next => simp [results, Try.results73, go_sem, gl, hlh, g0, g1, g2, g3, g4, g5, g6, g7, g8, g9, g10, g11, h0, h1', h2]); refine ⟨?_, ?_⟩; (next => rw [HI.out.2]); (next => exact BelowA))
 ·have hne : (E1 == 0) = false := by simpa using h1
  have HI : Hid (E = E1) := hid (HE.out.1 h1)
  clear h1
  go_enter Try.func73, Try.ntmps73
  go_wp2_with (first | (go_at_call 119; rw [← hW0]; refine (HO.out _).mono ?_; rintro _ w1 ⟨rfl, hb1⟩; have hz1 := hb1.size; obtain ⟨d0, d1, d2, fd0, fd1, fd2, hl1⟩ := three_cells ((hb1.block (w.heap.size + 1) (by omega)).trans Q1.out); clear fd0 fd1 fd2) | (go_at_call 102; obtain ⟨WB, hWB⟩ : ∃ WB, WB = (w1.alloc (.cells #[.int .i64 px, .int .i64 py, .int .i64 pz, .int .i64 tm, .int .i64 tk, .int .i64 lo, .int .i64 hi, .int .i64 li, .int .i64 ea, .int .i64 la, .int .i64 no, .int .i64 mi] 134)).alloc (.cells #[.int .i64 sx, .int .i64 sy, .int .i64 sz] 135) := ⟨_, rfl⟩; rw [← hWB]; have hbWB : Below w1.heap.size w1 WB := (by rw [hWB]; exact BelowA); obtain ⟨r0, r1, hr0, hr1⟩ := al2 w1 _ _ _ _ WB hWB; clear hWB; refine (HF.out _).mono ?_; rintro _ w2 ⟨rfl, hb2⟩; have R0 := hid ((hb2.block w1.heap.size hr0).trans r0); have R1 := hid ((hb2.block (w1.heap.size + 1) hr1).trans r1); obtain ⟨m0, m1, m2, m3, m4, m5, m6, m7, m8, m9, m10, m11, ml⟩ := tw_cells (R0.out); obtain ⟨s0, s1, s2, fs0, fs1, fs2, hls⟩ := three_cells R1.out; clear fs0 fs1 fs2 r0 r1) | (go_at_call 72; refine (track_unless _ _ _).mono ?_; rintro _ _ ⟨rfl, rfl⟩) | (go_at_call 69; refine (HFI.out _ _ (intsAt_new _ _ _ _ _ rfl (by simp) (by first | rfl | simp))).mono ?_; rintro _ _ ⟨rfl, rfl⟩))
  obtain ⟨wz, hWZ⟩ : ∃ wz, wz = w2.alloc (.cells #[.int .i64 EM, .int .i64 (unl IS 2)] 30) := ⟨_, rfl⟩
  have hbz : Below w2.heap.size w2 wz := by rw [hWZ]; exact BelowA
  have hbf : Below W0.heap.size W0 wz := ((hb1.trans (hbWB.mono (by omega))).trans (hb2.mono (by have := hbWB.size; omega))).trans (hbz.mono (by have := hbWB.size; have := hb2.size; omega))
  have hbg : Below w.heap.size w wz := hbW0.trans (hbf.mono (by omega))
  have y0 := (hbz.block w1.heap.size ml).trans R0.out
  have y1 := (hbz.block (w1.heap.size + 1) hls).trans R1.out
  have y2 := (hbf.block (w.heap.size + 1 + 1) (by omega)).trans Q2.out
  have y3 := (hbf.block (w.heap.size + 1 + 1 + 1) (by omega)).trans Q3.out
  rw [← hWZ]
  clear hWZ m0 m1 m2 m3 m4 m5 m6 m7 m8 m9 m10 m11 s0 s1 s2 d0 d1 d2
  obtain ⟨n0, n1, n2, n3, n4, n5, n6, n7, n8, n9, n10, n11, nl⟩ := tw_cells (y0)
  obtain ⟨t0, t1, t2, ft0, ft1, ft2, hlt⟩ := three_cells y1
  obtain ⟨g0, g1, g2, g3, g4, g5, g6, g7, g8, g9, g10, g11, gl⟩ := tw_cells (y2)
  obtain ⟨fg0, fg1, fg2, fg3, fg4, fg5, fg6, fg7, fg8, fg9, fg10, fg11⟩ := tw_frozen y2
  obtain ⟨h0, h1', h2, fh0, fh1, fh2, hlh⟩ := three_cells y3
  clear y0 y1 y2 y3 ft0 ft1 ft2 hbz hbf hb2 hbWB hb1
  refine wp_mixC (KeepB [w1.heap.size, w1.heap.size + 1] wz) 5 [.q [0, 1, 2], .f [3, 4]] [.q [5]] (by kernel_rfl) (by kernel_rfl) ((KeepB.refl (by first | (simp; done) | (simp; omega))).drew) ?_
  intro Q' hQ'
  (rw [wpMixC]; simp only [pick, List.drop_succ_cons, List.drop_zero, List.head?_cons, Option.toList_some, List.cons_append, List.nil_append])
  (repeat (first | go_big_quiet_skip | (go_big_quiet_want; refine quiet_simple rfl ?_; go_big_quiet_op; go_big_quiet_on) | (go_big_quiet_want; refine quiet_agg12K (ty := 134) rfl rfl (by kernel_rfl) (by assumption) (by assumption) (by assumption) (by assumption) (by assumption) (by assumption) (by assumption) (by assumption) (by assumption) (by assumption) (by assumption) (by assumption) (by simp) ?_; simp only [Act.put, List.setIfInBounds_toArray, List.set_cons_succ, List.set_cons_zero]; go_big_quiet_on) | (go_big_quiet_want; refine quiet_agg3K (ty := 135) rfl rfl (by kernel_rfl) (by assumption) (by assumption) (by assumption) (by simp) ?_; simp only [Act.put, List.setIfInBounds_toArray, List.set_cons_succ, List.set_cons_zero]; go_big_quiet_on)))
  (try refine wpQuiet_nil ?_)
  (rw [wpMixC]; simp only [pick, List.drop_succ_cons, List.drop_zero, List.head?_cons, Option.toList_some, List.cons_append, List.nil_append])
  (rw [wpSteps]; go_wp2_with (fail); rw [contF]; refine ⟨?_, ?_⟩; (next => exact KeepA))
  (rw [wpSteps]; go_wp2_with (fail); rw [contF]; refine ⟨?_, ?_⟩; (next => exact KeepA))
  (rw [wpSteps])
  (rw [wpMixC])
  (rw [wpMix]; simp only [pick, List.drop_succ_cons, List.drop_zero, List.head?_cons, Option.toList_some, List.cons_append, List.nil_append])
  (repeat (first | (go_big_quiet_step (fail)) | (quiet_step (fail))))
  (try refine wpQuiet_nil ?_)
  (rw [wpMix])
  (refine hQ' _ _ ?_)
  go_wp2_with fail
  ((try simp only [Exit.inBlock, Exit.then]); refine bodyPost_ret (v := .tuple #[.agg #[.int .i64 px, .int .i64 py, .int .i64 pz, .int .i64 tm, .int .i64 tk, .int .i64 lo, .int .i64 hi, .int .i64 li, .int .i64 ea, .int .i64 la, .int .i64 no, .int .i64 mi], .agg #[.int .i64 sx, .int .i64 sy, .int .i64 sz], .int .i64 E1]) ?_ rfl ?_; (next => simp [results, Try.results73, go_sem, gl, hlh, g0, g1, g2, g3, g4, g5, g6, g7, g8, g9, g10, g11, h0, h1', h2]); refine ⟨?_, ?_⟩; (next => rw [HI.out]); (next => exact BelowA))
end Go.Proofs.Ytlmdmpjfehpjeaa
set_option linter.unusedVariables false
set_option linter.unusedSimpArgs false
namespace Go.Proofs.Ytlmdmpjfehpjeaa
open Go.RowKit
theorem first_rg (m : TMod) (s p : V3) : -1000001 ≤ m.first s p ∧ m.first s p ≤ 1000001 := by
 obtain ⟨a1, a2, _, _⟩ := fstN_spec (m.reached s p) 2000002 (-1000001)
 unfold TMod.first; omega
theorem half_rg {a b : Int} (h : a < b) : a ≤ (a + b) / 2 ∧ (a + b) / 2 < b := by omega
end Go.Proofs.Ytlmdmpjfehpjeaa
set_option linter.unusedVariables false
set_option linter.unusedSimpArgs false
namespace Go.Proofs.Ytlmdmpjfehpjeaa
open Go.RowKit
structure Three (m : TMod) (s p : V3) (b0 b1 b2 : Nat) (W : World) : Prop where
 r0 : W.heap[b0]? = some (.cells #[.int .i64 m.px, .int .i64 m.py, .int .i64 m.pz, .int .i64 m.tm, .int .i64 m.tk, .int .i64 m.lo, .int .i64 m.hi, .int .i64 m.li, .int .i64 m.ea, .int .i64 m.la, .int .i64 m.no, .int .i64 m.mi] 134 (0, 0))
 r1 : W.heap[b1]? = some (.cells #[.int .i64 s.x, .int .i64 s.y, .int .i64 s.z] 135 (0, 0))
 r2 : W.heap[b2]? = some (.cells #[.int .i64 p.x, .int .i64 p.y, .int .i64 p.z] 22 (0, 0))
theorem Three.below {m : TMod} {s p : V3} {b0 b1 b2 : Nat} {W W' : World} (h : Three m s p b0 b1 b2 W) (hb : Below W.heap.size W W') : Three m s p b0 b1 b2 W' :=
 ⟨(hb.block _ (Array.getElem?_eq_some_iff.1 h.r0).1).trans h.r0, (hb.block _ (Array.getElem?_eq_some_iff.1 h.r1).1).trans h.r1, (hb.block _ (Array.getElem?_eq_some_iff.1 h.r2).1).trans h.r2⟩
set_option maxRecDepth 100000 in
set_option maxHeartbeats 4000000 in
theorem track_firstAt1 (m : TMod) (s p : V3) (b0 b1 b2 : Nat) (i : Int) (W : World) (h : Three m s p b0 b1 b2 W) (ho : m.Ok) (hs : s.inS 20 = true) (hpm : m.permit s) (hp : p.inS 1000 = true) (h1 : 0 ≤ i) (h2 : i ≤ 2000001) :
  Calls Try.prog 123 #[.int .i64 i, .pointer (some ⟨b0, 0, none⟩), .pointer (some ⟨b1, 0, none⟩), .pointer (some ⟨b2, 0, none⟩)] W fun e w' => e = .returned (.bool (decide (m.first s p + 1000001 ≤ i))) ∧ Below W.heap.size W w' := by
 have hsl : m.slow < s.dot s := by have := ho.slo; have := hpm.1; omega
 have HR : Hid (∀ W, Calls Try.prog 75 #[m.v, s.v, .agg #[.int .i64 p.x, .int .i64 p.y, .int .i64 p.z, .int .i64 (i - 1000000 - 1)]] W fun e w' => e = .returned (.bool (decide (m.first s p + 1000001 ≤ i))) ∧ Below W.heap.size W w') := hid (fun W => by
  have h := track_reached m s p (i - 1000000 - 1) W ho hs hpm hp ⟨by omega, by omega⟩
  rw [first_spec m s p ho.slp hsl (by omega) (by omega)] at h
  rwa [show decide (m.first s p ≤ i - 1000000 - 1) = decide (m.first s p + 1000001 ≤ i) from decide_eq_decide.2 (by omega)] at h)
 obtain ⟨m0, m1, m2, m3, m4, m5, m6, m7, m8, m9, m10, m11, ml⟩ := tw_cells (h.r0)
 obtain ⟨a0, a1, a2, fa0, fa1, fa2, hla⟩ := three_cells h.r1
 obtain ⟨p0, p1, p2, fp0, fp1, fp2, hlp⟩ := three_cells h.r2
 clear fa0 fa1 fa2 fp0 fp1 fp2 h
 generalize m.first s p = F at HR ⊢
 obtain ⟨px, py, pz, tm, tk, lo, hi, li, ea, la, no, mi⟩ := m
 obtain ⟨sx, sy, sz⟩ := s
 obtain ⟨qx, qy, qz⟩ := p
 unfold TMod.v V3.v at *
 simp only at *
 clear ho hs hpm hp hsl
 go_enter Try.func123, Try.ntmps123
 go_wp2_with (go_at_call 75; refine (HR.out _).mono ?_; rintro _ w1 ⟨rfl, hb1⟩)
 go_ret
 exact ⟨rfl, hb1⟩
set_option maxRecDepth 100000 in
set_option maxHeartbeats 4000000 in
theorem track_Search (m : TMod) (s p : V3) (b0 b1 b2 : Nat) (w : World) (h : Three m s p b0 b1 b2 w) (ho : m.Ok) (hs : s.inS 20 = true) (hpm : m.permit s) (hp : p.inS 1000 = true) :
  Calls Try.prog 122 #[.int .i64 2000002, .func (.func 123) #[] #[.pointer (some ⟨b0, 0, none⟩), .pointer (some ⟨b1, 0, none⟩), .pointer (some ⟨b2, 0, none⟩)]] w fun e w' => e = .returned (.int .i64 (m.first s p + 1000001)) ∧ Below w.heap.size w w' := by
 have HC : Hid (∀ (i : Int) (W : World), Below w.heap.size w W → 0 ≤ i → i ≤ 2000001 → Calls Try.prog 123 #[.int .i64 i, .pointer (some ⟨b0, 0, none⟩), .pointer (some ⟨b1, 0, none⟩), .pointer (some ⟨b2, 0, none⟩)] W fun e w' => e = .returned (.bool (decide (m.first s p + 1000001 ≤ i))) ∧ Below W.heap.size W w') := hid (fun i W hb h1 h2 => track_firstAt1 m s p b0 b1 b2 i W (h.below hb) ho hs hpm hp h1 h2)
 have hF := first_rg m s p
 generalize m.first s p = F at HC hF ⊢
 clear h ho hs hpm hp
 go_enter Try.func122, Try.ntmps122
 go_wp2_with fail
 go_loopw [5, 6] (fun x y wr => ∃ a b : Int, x = .int .i64 a ∧ y = .int .i64 b ∧ 0 ≤ a ∧ a ≤ F + 1000001 ∧ F + 1000001 ≤ b ∧ b ≤ 2000002 ∧ Below w.heap.size w wr) (fun x y _ => (intOf y - intOf x).toNat)
 case atStart => exact ⟨0, 2000002, rfl, rfl, by omega, by omega, by omega, by omega, Below.refl _ _⟩
 case round =>
  obtain ⟨a, b, rfl, rfl, ha, haF, hFb, hb, hbel⟩ := hrel
  by_cases hlt : a < b
  ·obtain ⟨g1, g2⟩ := half_rg hlt
   have g0 : 0 ≤ a + b := by omega
   by_cases hM : F + 1000001 ≤ (a + b) / 2
   ·go_wp2_with (go_at_call 123; refine (HC.out _ _ hbel (by omega) (by omega)).mono ?_; rintro _ w1 ⟨rfl, hb1⟩)
    go_roundw
    case rel => exact ⟨a, (a + b) / 2, rfl, rfl, ha, haF, hM, by omega, hbel.trans (hb1.mono hbel.size)⟩
    case measure => simp [intOf]; omega
   ·have hM' : decide (F + 1000001 ≤ (a + b) / 2) = false := decide_eq_false hM
    go_wp2_with (go_at_call 123; refine (HC.out _ _ hbel (by omega) (by omega)).mono ?_; rintro _ w1 ⟨rfl, hb1⟩)
    go_roundw
    case rel => exact ⟨(a + b) / 2 + 1, b, by go_num, rfl, by omega, by omega, hFb, hb, hbel.trans (hb1.mono hbel.size)⟩
    case measure => simp [intOf]; omega
  ·obtain rfl : a = F + 1000001 := by omega
   go_wp2_with fail
   go_ret
   exact ⟨rfl, hbel⟩
set_option maxRecDepth 100000 in
set_option maxHeartbeats 4000000 in
theorem track_mFirstAt (m : TMod) (s p : V3) (w : World) (ho : m.Ok) (hs : s.inS 20 = true) (hpm : m.permit s) (hp : p.inS 1000 = true) :
  Calls Try.prog 76 #[m.v, s.v, p.v] w fun e w' => e = .returned (.tuple #[.int .i64 (m.first s p), .bool (inB (m.first s p) (-1000000) 1000000)]) ∧ Below w.heap.size w w' := by
 have hF := first_rg m s p
 have HS : Hid (∀ W, Three m s p w.heap.size (w.heap.size + 1) (w.heap.size + 1 + 1) W → Calls Try.prog 122 #[.int .i64 2000002, .func (.func 123) #[] #[.pointer (some ⟨w.heap.size, 0, none⟩), .pointer (some ⟨w.heap.size + 1, 0, none⟩), .pointer (some ⟨w.heap.size + 1 + 1, 0, none⟩)]] W fun e w' => e = .returned (.int .i64 (m.first s p + 1000001)) ∧ Below W.heap.size W w') := hid (fun W h => track_Search m s p _ _ _ W h ho hs hpm hp)
 obtain ⟨W0, hW0⟩ : ∃ W0, W0 = ((w.alloc (.cells #[.int .i64 m.px, .int .i64 m.py, .int .i64 m.pz, .int .i64 m.tm, .int .i64 m.tk, .int .i64 m.lo, .int .i64 m.hi, .int .i64 m.li, .int .i64 m.ea, .int .i64 m.la, .int .i64 m.no, .int .i64 m.mi] 134)).alloc (.cells #[.int .i64 s.x, .int .i64 s.y, .int .i64 s.z] 135)).alloc (.cells #[.int .i64 p.x, .int .i64 p.y, .int .i64 p.z] 22) := ⟨_, rfl⟩
 have hbW0 : Below w.heap.size w W0 := by rw [hW0]; exact BelowA
 obtain ⟨q0, q1, q2⟩ := al3 w _ _ _ _ _ _ W0 hW0
 have HS2 := hid (HS.out W0 ⟨q0, q1, q2⟩)
 clear HS q0 q1 q2
 generalize m.first s p = F at HS2 hF ⊢
 obtain ⟨px, py, pz, tm, tk, lo, hi, li, ea, la, no, mi⟩ := m
 obtain ⟨sx, sy, sz⟩ := s
 obtain ⟨qx, qy, qz⟩ := p
 unfold TMod.v V3.v at *
 simp only at *
 clear ho hs hpm hp
 go_enter Try.func76, Try.ntmps76
 go_wp2_with (first | (go_at_call 122; rw [← hW0]; refine HS2.out.mono ?_; rintro _ w1 ⟨rfl, hb1⟩) | (go_at_call 68; refine (track_within _ _ _ _).mono ?_; rintro _ _ ⟨rfl, rfl⟩))
 have hFF : F + 1000001 - 1000000 - 1 = F := by omega
 ((try simp only [Exit.inBlock, Exit.then]); refine bodyPost_ret (v := .tuple #[.int .i64 F, .bool (inB F (-1000000) 1000000)]) ?_ rfl ?_; (next => simp [results, Try.results76, go_sem, hFF]); refine ⟨?_, ?_⟩; (next => rfl); (next => exact BelowA))
end Go.Proofs.Ytlmdmpjfehpjeaa
set_option linter.unusedVariables false
set_option linter.unusedSimpArgs false
namespace Go.Proofs.Ytlmdmpjfehpjeaa
open Go.RowKit
theorem two_zero {a b : Int} (h : firstNZ [a, b] = 0) : a = 0 ∧ b = 0 := by
 rw [firstNZ_cons, firstNZ_cons] at h; exact ⟨h.1, h.2.1⟩
theorem plE_ok {p : V3} (h : plE p = 0) : p.inS 1000 = true := by
 unfold plE at h; rwa [unl_zero (by decide)] at h
theorem four_row {w : World} {g : Nat} {x y z u : Value} {t : TypeId} (h : w.heap[g]? = some (.cells #[x, y, z, u] t (0, 0))) :
  w.cell? ⟨g, 0, none⟩ = some x ∧ w.cell? ⟨g, 1, none⟩ = some y ∧ w.cell? ⟨g, 2, none⟩ = some z ∧ w.cell? ⟨g, 3, none⟩ = some u ∧ g < w.heap.size := by
 refine ⟨?_, ?_, ?_, ?_, (Array.getElem?_eq_some_iff.1 h).1⟩
 ·rw [cell_of_row w g 0 _ t (0, 0) h]; rfl
 ·rw [cell_of_row w g 1 _ t (0, 0) h]; rfl
 ·rw [cell_of_row w g 2 _ t (0, 0) h]; rfl
 ·rw [cell_of_row w g 3 _ t (0, 0) h]; rfl
set_option maxRecDepth 100000 in
set_option maxHeartbeats 4000000 in
theorem track_FirstAt (m : TMod) (s p : V3) (w : World) :
  Calls Try.prog 16 #[m.v, s.v, p.v] w fun e w' => (firstNZ [m.both s, plE p] = 0 → inB (m.first s p) (-1000000) 1000000 = true → e = .returned (.tuple #[.int .i64 (m.first s p), .int .i64 0])) ∧ (firstNZ [m.both s, plE p] = 0 → inB (m.first s p) (-1000000) 1000000 = false → e = .returned (.tuple #[.int .i64 0, .int .i64 8])) ∧ (firstNZ [m.both s, plE p] ≠ 0 → e = .returned (.tuple #[.int .i64 0, .int .i64 (firstNZ [m.both s, plE p])])) ∧ Below w.heap.size w w' := by
 have HO : Hid (∀ W, Calls Try.prog 73 #[m.v, s.v] W fun e w' => e = .returned (.tuple #[m.v, s.v, .int .i64 (m.both s)]) ∧ Below W.heap.size W w') := hid (fun W => track_openStep m s W)
 have HM : Hid (∀ W, Calls Try.prog 70 #[p.v] W fun e w' => e = .returned (.int .i64 (plE p)) ∧ Below W.heap.size W w') := hid (fun W => track_placeErr p W)
 have HFI : Hid (∀ v w, IntsAt w v [m.both s, plE p] → Calls Try.prog 69 #[v] w fun e w' => e = .returned (.int .i64 (firstNZ [m.both s, plE p])) ∧ w = w') := hid (fun v w h => track_first _ v w h)
 have HR : Hid (firstNZ [m.both s, plE p] = 0 → ∀ W, Calls Try.prog 76 #[m.v, s.v, p.v] W fun e w' => e = .returned (.tuple #[.int .i64 (m.first s p), .bool (inB (m.first s p) (-1000000) 1000000)]) ∧ Below W.heap.size W w') := hid (fun h W => by
  obtain ⟨h1, h2⟩ := two_zero h
  obtain ⟨o1, o2, o3, o4⟩ := both_ok h1
  exact track_mFirstAt m s p W o1 o2 o3 (plE_ok h2))
 generalize firstNZ [m.both s, plE p] = E1 at HFI HR ⊢
 generalize m.both s = EB at HO HFI
 generalize plE p = EM at HM HFI
 generalize hB : inB (m.first s p) (-1000000) 1000000 = B at HR ⊢
 clear hB
 generalize m.first s p = FF at HR ⊢
 obtain ⟨px, py, pz, tm, tk, lo, hi, li, ea, la, no, mi⟩ := m
 obtain ⟨sx, sy, sz⟩ := s
 obtain ⟨qx, qy, qz⟩ := p
 unfold TMod.v V3.v at *
 simp only at *
 obtain ⟨W0, hW0⟩ : ∃ W0, W0 = ((w.alloc (.cells #[.int .i64 px, .int .i64 py, .int .i64 pz, .int .i64 tm, .int .i64 tk, .int .i64 lo, .int .i64 hi, .int .i64 li, .int .i64 ea, .int .i64 la, .int .i64 no, .int .i64 mi] 26)).alloc (.cells #[.int .i64 sx, .int .i64 sy, .int .i64 sz] 22)).alloc (.cells #[.int .i64 qx, .int .i64 qy, .int .i64 qz] 22) := ⟨_, rfl⟩
 have hbW0 : Below w.heap.size w W0 := by rw [hW0]; exact BelowA
 obtain ⟨q0, q1, q2⟩ := al3 w _ _ _ _ _ _ W0 hW0
 have l2 := (Array.getElem?_eq_some_iff.1 q2).1
 have Q2 := hid q2
 clear q0 q1 q2
 have hcase : E1 = 0 ∨ E1 ≠ 0 := by omega
 rcases hcase with h1 | h1
 ·subst h1
  have HR2 := hid (HR.out rfl)
  cases B
  ·go_enter Try.func16, Try.ntmps16
   go_wp2_with (first | (go_at_call 73; rw [← hW0]; refine (HO.out _).mono ?_; rintro _ w1 ⟨rfl, hb1⟩; have hz1 := hb1.size; obtain ⟨c0, c1, c2, fc0, fc1, fc2, hl2⟩ := three_cells ((hb1.block (w.heap.size + 1 + 1) l2).trans Q2.out); have hl2' : w.heap.size + 1 + 1 < w1.heap.size + 1 := Nat.lt_succ_of_lt hl2) | (go_at_call 70; obtain ⟨WB, hWB⟩ : ∃ WB, WB = (w1.alloc (.cells #[.int .i64 px, .int .i64 py, .int .i64 pz, .int .i64 tm, .int .i64 tk, .int .i64 lo, .int .i64 hi, .int .i64 li, .int .i64 ea, .int .i64 la, .int .i64 no, .int .i64 mi] 134)).alloc (.cells #[.int .i64 sx, .int .i64 sy, .int .i64 sz] 135) := ⟨_, rfl⟩; rw [← hWB]; have hbWB : Below w1.heap.size w1 WB := (by rw [hWB]; exact BelowA); obtain ⟨r0, r1, hr0, hr1⟩ := al2 w1 _ _ _ _ WB hWB; clear hWB; refine (HM.out _).mono ?_; rintro _ w2 ⟨rfl, hb2⟩; have hb12 : Below W0.heap.size W0 w2 := (hb1.trans (hbWB.mono hz1)).trans (hb2.mono (Nat.le_trans hz1 hbWB.size)); have HB12 := hid hb12; have R0 := hid ((hb2.block w1.heap.size hr0).trans r0); have R1 := hid ((hb2.block (w1.heap.size + 1) hr1).trans r1); obtain ⟨m0, m1, m2, m3, m4, m5, m6, m7, m8, m9, m10, m11, ml⟩ := tw_cells (R0.out); obtain ⟨s0, s1, s2, fs0, fs1, fs2, hls⟩ := three_cells R1.out; clear fs0 fs1 fs2 r0 r1 hl2' c0 c1 c2 fc0 fc1 fc2 hl2; obtain ⟨c0, c1, c2, fc0, fc1, fc2, hl2⟩ := three_cells ((HB12.out.block (w.heap.size + 1 + 1) l2).trans Q2.out); have hbf : Below w.heap.size w w2 := hbW0.trans (hb12.mono (by have := hbW0.size; omega))) | (go_at_call 69; refine (HFI.out _ _ (intsAt_new _ _ _ _ _ rfl (by simp) (by first | rfl | simp))).mono ?_; rintro _ _ ⟨rfl, rfl⟩) | (go_at_call 76; refine (HR2.out _).mono ?_; rintro _ w3 ⟨rfl, hb3⟩))
   ((try simp only [Exit.inBlock, Exit.then]); refine bodyPost_ret (v := .tuple #[.int .i64 0, .int .i64 8]) ?_ rfl ?_; (next => simp [results, Try.results16, go_sem]))
   exact ⟨fun _ h => absurd h (by decide), fun _ _ => rfl, fun h => absurd rfl h, by exact BelowA⟩
  ·go_enter Try.func16, Try.ntmps16
   go_wp2_with (first | (go_at_call 73; rw [← hW0]; refine (HO.out _).mono ?_; rintro _ w1 ⟨rfl, hb1⟩; have hz1 := hb1.size; obtain ⟨c0, c1, c2, fc0, fc1, fc2, hl2⟩ := three_cells ((hb1.block (w.heap.size + 1 + 1) l2).trans Q2.out); have hl2' : w.heap.size + 1 + 1 < w1.heap.size + 1 := Nat.lt_succ_of_lt hl2) | (go_at_call 70; obtain ⟨WB, hWB⟩ : ∃ WB, WB = (w1.alloc (.cells #[.int .i64 px, .int .i64 py, .int .i64 pz, .int .i64 tm, .int .i64 tk, .int .i64 lo, .int .i64 hi, .int .i64 li, .int .i64 ea, .int .i64 la, .int .i64 no, .int .i64 mi] 134)).alloc (.cells #[.int .i64 sx, .int .i64 sy, .int .i64 sz] 135) := ⟨_, rfl⟩; rw [← hWB]; have hbWB : Below w1.heap.size w1 WB := (by rw [hWB]; exact BelowA); obtain ⟨r0, r1, hr0, hr1⟩ := al2 w1 _ _ _ _ WB hWB; clear hWB; refine (HM.out _).mono ?_; rintro _ w2 ⟨rfl, hb2⟩; have hb12 : Below W0.heap.size W0 w2 := (hb1.trans (hbWB.mono hz1)).trans (hb2.mono (Nat.le_trans hz1 hbWB.size)); have HB12 := hid hb12; have R0 := hid ((hb2.block w1.heap.size hr0).trans r0); have R1 := hid ((hb2.block (w1.heap.size + 1) hr1).trans r1); obtain ⟨m0, m1, m2, m3, m4, m5, m6, m7, m8, m9, m10, m11, ml⟩ := tw_cells (R0.out); obtain ⟨s0, s1, s2, fs0, fs1, fs2, hls⟩ := three_cells R1.out; clear fs0 fs1 fs2 r0 r1 hl2' c0 c1 c2 fc0 fc1 fc2 hl2; obtain ⟨c0, c1, c2, fc0, fc1, fc2, hl2⟩ := three_cells ((HB12.out.block (w.heap.size + 1 + 1) l2).trans Q2.out); have hbf : Below w.heap.size w w2 := hbW0.trans (hb12.mono (by have := hbW0.size; omega))) | (go_at_call 69; refine (HFI.out _ _ (intsAt_new _ _ _ _ _ rfl (by simp) (by first | rfl | simp))).mono ?_; rintro _ _ ⟨rfl, rfl⟩) | (go_at_call 76; refine (HR2.out _).mono ?_; rintro _ w3 ⟨rfl, hb3⟩))
   ((try simp only [Exit.inBlock, Exit.then]); refine bodyPost_ret (v := .tuple #[.int .i64 FF, .int .i64 0]) ?_ rfl ?_; (next => simp [results, Try.results16, go_sem]))
   exact ⟨fun _ _ => rfl, fun _ h => absurd h (by decide), fun h => absurd rfl h, by exact BelowA⟩
 ·have hne : (E1 != 0) = true := by simpa using h1
  have HN := hid h1
  clear h1
  go_enter Try.func16, Try.ntmps16
  go_wp2_with (first | (go_at_call 73; rw [← hW0]; refine (HO.out _).mono ?_; rintro _ w1 ⟨rfl, hb1⟩; have hz1 := hb1.size; obtain ⟨c0, c1, c2, fc0, fc1, fc2, hl2⟩ := three_cells ((hb1.block (w.heap.size + 1 + 1) l2).trans Q2.out); have hl2' : w.heap.size + 1 + 1 < w1.heap.size + 1 := Nat.lt_succ_of_lt hl2) | (go_at_call 70; obtain ⟨WB, hWB⟩ : ∃ WB, WB = (w1.alloc (.cells #[.int .i64 px, .int .i64 py, .int .i64 pz, .int .i64 tm, .int .i64 tk, .int .i64 lo, .int .i64 hi, .int .i64 li, .int .i64 ea, .int .i64 la, .int .i64 no, .int .i64 mi] 134)).alloc (.cells #[.int .i64 sx, .int .i64 sy, .int .i64 sz] 135) := ⟨_, rfl⟩; rw [← hWB]; have hbWB : Below w1.heap.size w1 WB := (by rw [hWB]; exact BelowA); obtain ⟨r0, r1, hr0, hr1⟩ := al2 w1 _ _ _ _ WB hWB; clear hWB; refine (HM.out _).mono ?_; rintro _ w2 ⟨rfl, hb2⟩; have hb12 : Below W0.heap.size W0 w2 := (hb1.trans (hbWB.mono hz1)).trans (hb2.mono (Nat.le_trans hz1 hbWB.size)); have HB12 := hid hb12; have R0 := hid ((hb2.block w1.heap.size hr0).trans r0); have R1 := hid ((hb2.block (w1.heap.size + 1) hr1).trans r1); obtain ⟨m0, m1, m2, m3, m4, m5, m6, m7, m8, m9, m10, m11, ml⟩ := tw_cells (R0.out); obtain ⟨s0, s1, s2, fs0, fs1, fs2, hls⟩ := three_cells R1.out; clear fs0 fs1 fs2 r0 r1 hl2' c0 c1 c2 fc0 fc1 fc2 hl2; obtain ⟨c0, c1, c2, fc0, fc1, fc2, hl2⟩ := three_cells ((HB12.out.block (w.heap.size + 1 + 1) l2).trans Q2.out); have hbf : Below w.heap.size w w2 := hbW0.trans (hb12.mono (by have := hbW0.size; omega))) | (go_at_call 69; refine (HFI.out _ _ (intsAt_new _ _ _ _ _ rfl (by simp) (by first | rfl | simp))).mono ?_; rintro _ _ ⟨rfl, rfl⟩))
  ((try simp only [Exit.inBlock, Exit.then]); refine bodyPost_ret (v := .tuple #[.int .i64 0, .int .i64 E1]) ?_ rfl ?_; (next => simp [results, Try.results16, go_sem]))
  exact ⟨fun h => absurd h HN.out, fun h => absurd h HN.out, fun _ => rfl, by exact BelowA⟩
end Go.Proofs.Ytlmdmpjfehpjeaa
set_option linter.unusedVariables false
set_option linter.unusedSimpArgs false
namespace Go.Proofs.Ytlmdmpjfehpjeaa
open Go.RowKit
def THit.zero : THit := ⟨⟨0, 0, 0⟩, 0, 0⟩
def THit.cell (x : THit) : Nat → Value
 | 0 => .int .i64 x.p.x
 | 1 => .int .i64 x.p.y
 | 2 => .int .i64 x.p.z
 | 3 => .int .i64 x.t
 | _ => .int .i64 x.w
def THit.v (x : THit) : Value := .agg #[.int .i64 x.p.x, .int .i64 x.p.y, .int .i64 x.p.z, .int .i64 x.t, .int .i64 x.w]
def hitAt (l : List THit) (i : Nat) : THit := l.getD i THit.zero
theorem hitAt_lt {l : List THit} {i : Nat} (h : i < l.length) : hitAt l i = l[i] := by simp [hitAt, List.getD, h]
theorem hitAt_take {l : List THit} {k : Nat} (h : k < l.length) : l.take (k + 1) = l.take k ++ [hitAt l k] := by
 rw [List.take_succ_eq_append_getElem h, hitAt_lt h]
def HitsAt (w : World) (v : Value) (l : List THit) : Prop := SlAt w v l.length 5 (fun i j => (hitAt l i).cell j)
theorem HitsAt.below {w w' : World} {v : Value} {l : List THit} (h : HitsAt w v l) (hb : Below w.heap.size w w') : HitsAt w' v l := SlAt.below h hb
theorem HitsAt.opn {w : World} {v : Value} {l : List THit} (h : HitsAt w v l) : ∃ ao cap, v = .slice ao l.length cap ∧ l.length ≤ cap ∧ cap ≤ maxLen ∧
  ∀ k, k < l.length → ∃ b off, ao = some ⟨b, off, none⟩ ∧ b < w.heap.size ∧ ∀ i, i < l.length →
   w.cell? ⟨b, off + i * 5, none⟩ = some (.int .i64 (hitAt l i).p.x) ∧ w.cell? ⟨b, off + i * 5 + 1, none⟩ = some (.int .i64 (hitAt l i).p.y) ∧ w.cell? ⟨b, off + i * 5 + 2, none⟩ = some (.int .i64 (hitAt l i).p.z) ∧ w.cell? ⟨b, off + i * 5 + 3, none⟩ = some (.int .i64 (hitAt l i).t) ∧ w.cell? ⟨b, off + i * 5 + 4, none⟩ = some (.int .i64 (hitAt l i).w) := by
 obtain ⟨ao, cap, rfl, h1, h2, h3, _⟩ := h
 refine ⟨ao, cap, rfl, h1, h2, fun k hk => ?_⟩
 obtain ⟨b, off, e, hlt, hc⟩ := h3 (by omega)
 exact ⟨b, off, e, hlt, fun i hi => ⟨hc i 0 hi (by omega), hc i 1 hi (by omega), hc i 2 hi (by omega), hc i 3 hi (by omega), hc i 4 hi (by omega)⟩⟩
def hitsIdx (l : List THit) : Int := if 12 < l.length then 0 else scanI (fun i => (hitAt l i).err) l.length
def hitsE (l : List THit) : Int := if 12 < l.length then 8 else scan (fun i => (hitAt l i).err) l.length
theorem five_row {w : World} {g : Nat} {x y z u v : Value} {t : TypeId} (h : w.heap[g]? = some (.cells #[x, y, z, u, v] t (0, 0))) :
  w.cell? ⟨g, 0, none⟩ = some x ∧ w.cell? ⟨g, 1, none⟩ = some y ∧ w.cell? ⟨g, 2, none⟩ = some z ∧ w.cell? ⟨g, 3, none⟩ = some u ∧ w.cell? ⟨g, 4, none⟩ = some v ∧ g < w.heap.size := by
 refine ⟨?_, ?_, ?_, ?_, ?_, (Array.getElem?_eq_some_iff.1 h).1⟩
 ·rw [cell_of_row w g 0 _ t (0, 0) h]; rfl
 ·rw [cell_of_row w g 1 _ t (0, 0) h]; rfl
 ·rw [cell_of_row w g 2 _ t (0, 0) h]; rfl
 ·rw [cell_of_row w g 3 _ t (0, 0) h]; rfl
 ·rw [cell_of_row w g 4 _ t (0, 0) h]; rfl
set_option maxRecDepth 100000 in
set_option maxHeartbeats 4000000 in
theorem track_CheckHits (l : List THit) (v : Value) (w : World) (h : HitsAt w v l) :
  Calls Try.prog 29 #[v] w fun e w' => e = .returned (.tuple #[.int .i64 (hitsIdx l), .int .i64 (hitsE l)]) ∧ Below w.heap.size w w' := by
 obtain ⟨ao, cap, rfl, h1, h2, h3⟩ := h.opn
 unfold maxLen at h2
 by_cases hbig : 12 < l.length
 ·have HR : Hid (hitsIdx l = 0 ∧ hitsE l = 8) := hid (by simp [hitsIdx, hitsE, hbig])
  go_enter Try.func29, Try.ntmps29
  go_wp2_with fail
  go_ret2
  exact ⟨by rw [HR.out.1, HR.out.2]; rfl, Below.refl _ _⟩
 have HBIG := hid hbig
 go_enter Try.func29, Try.ntmps29
 go_wp2_with fail
 go_loopw [12] (fun i wr => ∃ k : Nat, k ≤ l.length ∧ i = .int .i64 k ∧ Hid (∀ j, j < k → (hitAt l j).err = 0) ∧ Below w.heap.size w wr) (fun i _ => l.length - (intOf i).toNat)
 case atStart => exact ⟨0, Nat.zero_le _, rfl, hid (fun j hj => by omega), Below.refl _ _⟩
 case round =>
  obtain ⟨k, hk, rfl, HZ, hbel⟩ := hrel
  have hzw := hbel.size
  by_cases hlt : k < l.length
  ·obtain ⟨b, off, rfl, hb, hc⟩ := h3 k hlt
   obtain ⟨c0, c1, c2, c3, c4⟩ := hc k hlt
   obtain ⟨hcb, hfb⟩ := bcell hbel
   rw [← hcb b _ hb] at c0 c1 c2 c3 c4
   have hbw : b < wr.heap.size := by omega
   have HBAD : Hid (∀ e, (hitAt l k).err = e → e ≠ 0 → hitsIdx l = k ∧ hitsE l = e) := hid (by
    intro e he hne
    have hne' : (hitAt l k).err ≠ 0 := by rw [he]; exact hne
    unfold hitsIdx hitsE
    rw [if_neg hbig, if_neg hbig, scan_at (f := fun i => (hitAt l i).err) HZ.out hlt hne', scanI_at (f := fun i => (hitAt l i).err) HZ.out hlt hne', he]
    exact ⟨rfl, rfl⟩)
   have HOK : Hid ((hitAt l k).err = 0 → ∀ j, j < k + 1 → (hitAt l j).err = 0) := hid (by
    intro he j hj
    rcases Nat.lt_or_ge j k with h | h
    ·exact HZ.out j h
    ·rw [show j = k from by omega]; exact he)
   have HE : Hid ((hitAt l k).err = firstNZ [plE (hitAt l k).p, tmE (hitAt l k).t, unl (inB (hitAt l k).w 0 100) 2]) := hid rfl
   have HP : Hid (∀ W, Calls Try.prog 70 #[(hitAt l k).p.v] W fun e w' => e = .returned (.int .i64 (plE (hitAt l k).p)) ∧ Below W.heap.size W w') := hid (fun W => track_placeErr _ W)
   have HT : Hid (∀ W, Calls Try.prog 71 #[.int .i64 (hitAt l k).t] W fun e w' => e = .returned (.int .i64 (tmE (hitAt l k).t)) ∧ W = w') := hid (fun W => track_timeErr _ W)
   generalize (hitAt l k).err = E at HBAD HOK HE
   generalize hitAt l k = x at *
   obtain ⟨⟨x0, x1, x2⟩, t, u⟩ := x
   simp only [V3.v] at *
   generalize plE ⟨x0, x1, x2⟩ = P at HP HE
   generalize tmE t = T at HT HE
   have HF : Hid (∀ v w, IntsAt w v [P, T, unl (inB u 0 100) 2] → Calls Try.prog 69 #[v] w fun e w' => e = .returned (.int .i64 E) ∧ w = w') := hid (fun v w h => by rw [HE.out]; exact track_first _ v w h)
   clear hc h3 h hcb hfb HE
   obtain ⟨W1, hW1⟩ : ∃ W1, W1 = wr.alloc (.cells #[.int .i64 x0, .int .i64 x1, .int .i64 x2, .int .i64 t, .int .i64 u] 92) := ⟨_, rfl⟩
   have HW1 := hid hW1
   obtain ⟨y0, y1, y2, y3, y4, hly⟩ := five_row (w := W1) (g := wr.heap.size) (x := .int .i64 x0) (y := .int .i64 x1) (z := .int .i64 x2) (u := .int .i64 t) (v := .int .i64 u) (t := 92) (by rw [hW1]; exact heap_alloc_new wr _)
   have hz1 : wr.heap.size < W1.heap.size := by rw [hW1]; simp
   have hB1 : Below wr.heap.size wr W1 := by rw [hW1]; exact BelowA
   clear hW1
   have hbw1 : b < W1.heap.size := by omega
   cases hz : (E != 0)
   all_goals
    have HZZ := hid hz
    go_wp2_with fail
    rw [← HW1.out]
    refine wp_mixC (fun wc => Below (W1.heap.size) W1 wc) 12 [.q [0, 1, 3, 4, 6, 7], .f [2, 5, 8, 9, 10, 11]] [.q [12]] (by kernel_rfl) (by kernel_rfl) ((Below.refl _ _).drew) ?_
    intro Q' hQ'
    (rw [wpMixC]; simp only [pick, List.drop_succ_cons, List.drop_zero, List.head?_cons, Option.toList_some, List.cons_append, List.nil_append])
    (repeat (first | go_big_quiet_skip | (go_big_quiet_want; refine quiet_simple rfl ?_; go_big_quiet_op; go_big_quiet_on) | (go_big_quiet_want; refine quiet_cellB (ty := 3) rfl rfl (by kernel_rfl) (by assumption) (by first | omega | (simp; omega)) ?_; simp only [Act.put, List.setIfInBounds_toArray, List.set_cons_succ, List.set_cons_zero]; go_big_quiet_on) | (go_big_quiet_want; refine quiet_agg3B (ty := 22) rfl rfl (by kernel_rfl) (by assumption) (by assumption) (by assumption) (by first | omega | (simp; omega)) ?_; simp only [Act.put, List.setIfInBounds_toArray, List.set_cons_succ, List.set_cons_zero]; go_big_quiet_on)))
    (try refine wpQuiet_nil ?_)
    (rw [wpMixC]; simp only [pick, List.drop_succ_cons, List.drop_zero, List.head?_cons, Option.toList_some, List.cons_append, List.nil_append])
    (rw [wpSteps]; go_wp2_with ((go_at_call 70; refine (HP.out _).mono ?_; rintro _ w2 ⟨rfl, hb2⟩)); rw [contF]; refine ⟨?_, ?_⟩; (next => exact BelowA))
    (rw [wpSteps]; go_wp2_with ((go_at_call 71; refine (HT.out _).mono ?_; rintro _ _ ⟨rfl, rfl⟩)); rw [contF]; refine ⟨?_, ?_⟩; (next => exact BelowA))
    (rw [wpSteps]; go_wp2_with ((go_at_call 68; refine (track_within _ _ _ _).mono ?_; rintro _ _ ⟨rfl, rfl⟩)); rw [contF]; refine ⟨?_, ?_⟩; (next => exact BelowA))
    (rw [wpSteps]; go_wp2_with ((go_at_call 72; refine (track_unless _ _ _).mono ?_; rintro _ _ ⟨rfl, rfl⟩)); rw [contF]; refine ⟨?_, ?_⟩; (next => exact BelowA))
    (rw [wpSteps]; go_wp2_with (fail); rw [contF]; refine ⟨?_, ?_⟩; (next => exact BelowA))
    (rw [wpSteps]; go_wp2_with ((go_at_call 69; refine (HF.out _ _ (intsAt_new _ _ _ _ _ rfl (by simp) (by first | rfl | simp))).mono ?_; rintro _ _ ⟨rfl, rfl⟩)); rw [contF]; refine ⟨?_, ?_⟩; (next => exact BelowA))
    (rw [wpSteps])
    (rw [wpMixC])
    (rw [wpMix]; simp only [pick, List.drop_succ_cons, List.drop_zero, List.head?_cons, Option.toList_some, List.cons_append, List.nil_append])
    (repeat (first | (go_big_quiet_step (fail)) | (quiet_step (fail))))
    (try refine wpQuiet_nil ?_)
    (rw [wpMix])
    (refine hQ' _ _ ?_)
   ·go_wp2_with fail
    go_roundw
    case rel => exact ⟨k + 1, by omega, by go_num, hid (HOK.out (by simpa using HZZ.out)), by exact BelowA⟩
    case measure => simp [intOf]; omega
   ·go_wp2_with fail
    go_ret2
    obtain ⟨e2, e3⟩ := HBAD.out _ rfl (by simpa using HZZ.out)
    exact ⟨by rw [e2, e3]; rfl, by exact BelowA⟩
  ·have hkl : k = l.length := by omega
   have e1 := scan_end (f := fun i => (hitAt l i).err) (n := l.length) fun j hj => HZ.out j (by omega)
   have e2 := scanI_end (f := fun i => (hitAt l i).err) (n := l.length) fun j hj => HZ.out j (by omega)
   have HR : Hid (hitsIdx l = 0 ∧ hitsE l = 0) := hid (by unfold hitsIdx hitsE; rw [if_neg hbig, if_neg hbig, e1, e2]; exact ⟨rfl, rfl⟩)
   clear e1 e2
   go_wp2_with fail
   go_ret2
   exact ⟨by rw [HR.out.1, HR.out.2]; rfl, by exact BelowA⟩
theorem track_hitsErr (l : List THit) (v : Value) (w : World) (h : HitsAt w v l) :
  Calls Try.prog 89 #[v] w fun e w' => e = .returned (.int .i64 (hitsE l)) ∧ Below w.heap.size w w' := by
 go_enter Try.func89, Try.ntmps89
 go_wp2_with (go_at_call 29; refine (track_CheckHits l v _ h).mono ?_; rintro _ w1 ⟨rfl, hb1⟩)
 go_ret
 exact ⟨rfl, hb1⟩
end Go.Proofs.Ytlmdmpjfehpjeaa