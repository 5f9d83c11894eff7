/- Texts of this claim, together. -/
import Derived.Test.YtlmdmpjfehpjeaaN6

set_option linter.unusedVariables false
set_option linter.unusedSimpArgs false
namespace Go.Proofs.Ytlmdmpjfehpjeaa
open Go.RowKit
set_option maxRecDepth 100000 in
set_option maxHeartbeats 2000000 in
theorem track_momentErr (p : V3) (t : Int) (w : World) : Calls Try.prog 74 #[.agg #[.int .i64 p.x, .int .i64 p.y, .int .i64 p.z, .int .i64 t]] w fun e w' => e = .returned (.int .i64 (momE p t)) ∧ Below w.heap.size w w' := by
 have HP : Hid (∀ W, Calls Try.prog 70 #[p.v] W fun e w' => e = .returned (.int .i64 (plE p)) ∧ Below W.heap.size W w') := hid (fun W => track_placeErr p W)
 have HE : Hid (momE p t = firstNZ [plE p, unl (inB t (-1000000) 1000000) 2]) := hid rfl
 generalize plE p = P at HP HE
 generalize momE p t = E at HE ⊢
 obtain ⟨x, y, z⟩ := p
 unfold V3.v at *
 simp only at *
 generalize hB : inB t (-1000000) 1000000 = B at HE
 have HB := hid hB
 clear hB
 obtain ⟨W, hW⟩ : ∃ W, W = w.alloc (.cells #[.int .i64 x, .int .i64 y, .int .i64 z, .int .i64 t] 28) := ⟨_, rfl⟩
 have hbW : Below w.heap.size w W := by rw [hW]; exact BelowA
 have q0 : W.heap[w.heap.size]? = some (.cells #[.int .i64 x, .int .i64 y, .int .i64 z, .int .i64 t] 28 (0, 0)) := by rw [hW]; exact heap_alloc_new w _
 have c0 : W.cell? ⟨w.heap.size, 0, none⟩ = some (.int .i64 x) := by rw [cell_of_row W _ 0 _ _ (0, 0) q0]; rfl
 have c1 : W.cell? ⟨w.heap.size, 1, none⟩ = some (.int .i64 y) := by rw [cell_of_row W _ 1 _ _ (0, 0) q0]; rfl
 have c2 : W.cell? ⟨w.heap.size, 2, none⟩ = some (.int .i64 z) := by rw [cell_of_row W _ 2 _ _ (0, 0) q0]; rfl
 have c3 : W.cell? ⟨w.heap.size, 3, none⟩ = some (.int .i64 t) := by rw [cell_of_row W _ 3 _ _ (0, 0) q0]; rfl
 have hl0 := (Array.getElem?_eq_some_iff.1 q0).1
 clear q0
 go_enter Try.func74, Try.ntmps74
 go_wp2_with fail
 rw [← hW]
 clear hW
 refine wp_mixC (fun wc => Below (W.heap.size) W wc) 9 [.q [0, 1, 3, 4], .f [2, 5, 6, 7, 8]] [.q [9]] (by kernel_rfl) (by kernel_rfl) ((Below.refl _ _).drew) ?_
 intro Q' hQ'
 (rw [wpMixC]; simp only [pick, List.drop_succ_cons, List.drop_zero, List.head?_cons, Option.toList_some, List.cons_append, List.nil_append])
 (repeat (first | go_big_quiet_skip | (go_big_quiet_want; refine quiet_simple rfl ?_; go_big_quiet_op; go_big_quiet_on) | (go_big_quiet_want; refine quiet_cellB (ty := 3) rfl rfl (by kernel_rfl) (by assumption) (by first | omega | (simp; omega)) ?_; simp only [Act.put, List.setIfInBounds_toArray, List.set_cons_succ, List.set_cons_zero]; go_big_quiet_on) | (go_big_quiet_want; refine quiet_agg3B (ty := 22) rfl rfl (by kernel_rfl) (by assumption) (by assumption) (by assumption) (by first | omega | (simp; omega)) ?_; simp only [Act.put, List.setIfInBounds_toArray, List.set_cons_succ, List.set_cons_zero]; go_big_quiet_on)))
 (try refine wpQuiet_nil ?_)
 (rw [wpMixC]; simp only [pick, List.drop_succ_cons, List.drop_zero, List.head?_cons, Option.toList_some, List.cons_append, List.nil_append])
 (rw [wpSteps]; go_wp2_with ((first | (go_at_call 70; refine (HP.out _).mono ?_; rintro _ w1 ⟨rfl, hb1⟩) | (first | (go_at_call 69; refine (track_first [P, unl B 2] _ _ (intsAt_new _ _ _ _ _ rfl (by simp) (by first | rfl | simp))).mono ?_; rintro _ _ ⟨rfl, rfl⟩) | (go_at_call 69; refine (track_first [P, unl B 2] _ _ ((intsAt_new _ _ _ _ _ rfl (by simp) (by first | rfl | simp)).below (Below.drew (Below.refl _ _)))).mono ?_; rintro _ _ ⟨rfl, rfl⟩)))); rw [contF]; refine ⟨?_, ?_⟩; (next => exact BelowA))
 (rw [wpSteps]; go_wp2_with ((first | (go_at_call 68; refine (track_within _ _ _ _).mono ?_; rw [HB.out]; rintro _ _ ⟨rfl, rfl⟩) | (first | (go_at_call 69; refine (track_first [P, unl B 2] _ _ (intsAt_new _ _ _ _ _ rfl (by simp) (by first | rfl | simp))).mono ?_; rintro _ _ ⟨rfl, rfl⟩) | (go_at_call 69; refine (track_first [P, unl B 2] _ _ ((intsAt_new _ _ _ _ _ rfl (by simp) (by first | rfl | simp)).below (Below.drew (Below.refl _ _)))).mono ?_; rintro _ _ ⟨rfl, rfl⟩)))); rw [contF]; refine ⟨?_, ?_⟩; (next => exact BelowA))
 (rw [wpSteps]; go_wp2_with ((first | (go_at_call 72; refine (track_unless _ _ _).mono ?_; rintro _ _ ⟨rfl, rfl⟩) | (first | (go_at_call 69; refine (track_first [P, unl B 2] _ _ (intsAt_new _ _ _ _ _ rfl (by simp) (by first | rfl | simp))).mono ?_; rintro _ _ ⟨rfl, rfl⟩) | (go_at_call 69; refine (track_first [P, unl B 2] _ _ ((intsAt_new _ _ _ _ _ rfl (by simp) (by first | rfl | simp)).below (Below.drew (Below.refl _ _)))).mono ?_; rintro _ _ ⟨rfl, rfl⟩)))); rw [contF]; refine ⟨?_, ?_⟩; (next => exact BelowA))
 (rw [wpSteps]; go_wp2_with ((first | (go_at_call 69; refine (track_first [P, unl B 2] _ _ (intsAt_new _ _ _ _ _ rfl (by simp) (by first | rfl | simp))).mono ?_; rintro _ _ ⟨rfl, rfl⟩) | (go_at_call 69; refine (track_first [P, unl B 2] _ _ ((intsAt_new _ _ _ _ _ rfl (by simp) (by first | rfl | simp)).below (Below.drew (Below.refl _ _)))).mono ?_; rintro _ _ ⟨rfl, rfl⟩))); rw [contF]; refine ⟨?_, ?_⟩; (next => exact BelowA))
 (rw [wpSteps]; go_wp2_with ((first | (go_at_call 69; refine (track_first [P, unl B 2] _ _ (intsAt_new _ _ _ _ _ rfl (by simp) (by first | rfl | simp))).mono ?_; rintro _ _ ⟨rfl, rfl⟩) | (go_at_call 69; refine (track_first [P, unl B 2] _ _ ((intsAt_new _ _ _ _ _ rfl (by simp) (by first | rfl | simp)).below (Below.drew (Below.refl _ _)))).mono ?_; rintro _ _ ⟨rfl, rfl⟩))); rw [contF]; refine ⟨?_, ?_⟩; (next => exact BelowA))
 (rw [wpSteps])
 (rw [wpMixC])
 (rw [wpMix]; simp only [pick, List.drop_succ_cons, List.drop_zero, List.head?_cons, Option.toList_some, List.cons_append, List.nil_append])
 (repeat (first | (go_big_quiet_step (fail)) | (quiet_step (fail))))
 (try refine wpQuiet_nil ?_)
 (rw [wpMix])
 (refine hQ' _ _ ?_)
 go_wp2_with fail
 go_ret
 exact ⟨ret_int HE.out.symm, by exact BelowA⟩
end Go.Proofs.Ytlmdmpjfehpjeaa
set_option linter.unusedVariables false
set_option linter.unusedSimpArgs false
namespace Go.Proofs.Ytlmdmpjfehpjeaa
open Go.RowKit
theorem err_two (m : TMod) : (firstNZ [plE m.pl, tmE m.tm, unl m.right 2] ≠ 0 → m.err = firstNZ [plE m.pl, tmE m.tm, unl m.right 2]) ∧ (firstNZ [plE m.pl, tmE m.tm, unl m.right 2] = 0 → m.right = true ∧ m.err = firstNZ [unl (decide (m.lo ≤ m.hi)) 9, unl (decide (m.slow < m.lo)) 13]) := by
 unfold TMod.err
 by_cases h1 : plE m.pl = 0
 ·by_cases h2 : tmE m.tm = 0
  ·cases h3 : m.right
   ·simp [firstNZ, h1, h2, unl]
   ·simp [firstNZ, h1, h2, unl]
  ·simp [firstNZ, h1, h2]
 ·simp [firstNZ, h1]
set_option maxRecDepth 100000 in
set_option maxHeartbeats 8000000 in
theorem track_CheckModel (m : TMod) (w : World) : Calls Try.prog 14 #[m.v] w fun e w' => e = .returned (.int .i64 m.err) ∧ Below w.heap.size w w' := by
 have HE := hid (err_two m)
 have HSZ : Hid (m.right = true → 0 ≤ m.li * m.tk ∧ m.li * m.tk ≤ 2000 ∧ 0 ≤ m.li * m.tk * m.tk ∧ m.li * m.tk * m.tk ≤ 40000) := hid right_sz
 have HP : Hid (∀ W, Calls Try.prog 70 #[m.pl.v] W fun e w' => e = .returned (.int .i64 (plE m.pl)) ∧ Below W.heap.size W w') := hid (fun W => track_placeErr m.pl W)
 have HT : Hid (∀ W, Calls Try.prog 71 #[.int .i64 m.tm] W fun e w' => e = .returned (.int .i64 (tmE m.tm)) ∧ W = w') := hid (fun W => track_timeErr _ W)
 have HR : Hid (m.right = (inB m.tk 1 20 && inB m.lo 1 1200 && inB m.hi 1 1200 && inB m.li 1 100 && inB m.ea 0 100 && inB m.la 0 100 && inB m.no 0 100 && inB m.mi 0 100)) := hid rfl
 have HSL : Hid (m.slow = m.li * m.tk * m.tk) := hid rfl
 generalize plE m.pl = P at HE HP
 generalize tmE m.tm = T at HE HT
 generalize m.err = E at HE ⊢
 generalize m.right = R at HE HSZ HR
 generalize m.slow = S at HE HSL
 obtain ⟨px, py, pz, tm, tk, lo, hi, li, ea, la, no, mi⟩ := m
 unfold TMod.v
 simp only [TMod.pl, V3.v] at *
 obtain ⟨W, hW⟩ : ∃ W, W = w.alloc (.cells #[.int .i64 px, .int .i64 py, .int .i64 pz, .int .i64 tm, .int .i64 tk, .int .i64 lo, .int .i64 hi, .int .i64 li, .int .i64 ea, .int .i64 la, .int .i64 no, .int .i64 mi] 26) := ⟨_, rfl⟩
 have hbW : Below w.heap.size w W := by rw [hW]; exact BelowA
 have q0 : W.heap[w.heap.size]? = some (.cells #[.int .i64 px, .int .i64 py, .int .i64 pz, .int .i64 tm, .int .i64 tk, .int .i64 lo, .int .i64 hi, .int .i64 li, .int .i64 ea, .int .i64 la, .int .i64 no, .int .i64 mi] 26 (0, 0)) := by rw [hW]; exact heap_alloc_new w _
 have Q0 := hid q0
 have c0 : W.cell? ⟨w.heap.size, 0, none⟩ = some (.int .i64 px) := by rw [cell_of_row W _ 0 _ _ (0, 0) q0]; rfl
 have c1 : W.cell? ⟨w.heap.size, 1, none⟩ = some (.int .i64 py) := by rw [cell_of_row W _ 1 _ _ (0, 0) q0]; rfl
 have c2 : W.cell? ⟨w.heap.size, 2, none⟩ = some (.int .i64 pz) := by rw [cell_of_row W _ 2 _ _ (0, 0) q0]; rfl
 have c3 : W.cell? ⟨w.heap.size, 3, none⟩ = some (.int .i64 tm) := by rw [cell_of_row W _ 3 _ _ (0, 0) q0]; rfl
 have hl0 := (Array.getElem?_eq_some_iff.1 q0).1
 clear q0
 have hi0 : ∀ (a b c d : Int) (w : World), (Instr.index 128 (.agg #[.int .i64 a, .int .i64 b, .int .i64 c, .int .i64 d]) (.int .i64 0)).run Try.prog w = .ok (.int .i64 a) w := fun _ _ _ _ _ => by kernel_rfl
 have hi1 : ∀ (a b c d : Int) (w : World), (Instr.index 128 (.agg #[.int .i64 a, .int .i64 b, .int .i64 c, .int .i64 d]) (.int .i64 1)).run Try.prog w = .ok (.int .i64 b) w := fun _ _ _ _ _ => by kernel_rfl
 have hi2 : ∀ (a b c d : Int) (w : World), (Instr.index 128 (.agg #[.int .i64 a, .int .i64 b, .int .i64 c, .int .i64 d]) (.int .i64 2)).run Try.prog w = .ok (.int .i64 c) w := fun _ _ _ _ _ => by kernel_rfl
 have hi3 : ∀ (a b c d : Int) (w : World), (Instr.index 128 (.agg #[.int .i64 a, .int .i64 b, .int .i64 c, .int .i64 d]) (.int .i64 3)).run Try.prog w = .ok (.int .i64 d) w := fun _ _ _ _ _ => by kernel_rfl
 cases R
 ·have HN : Hid (E = firstNZ [P, T, 2] ∧ firstNZ [P, T, 2] ≠ 0) := hid (by
   have h0 : firstNZ [P, T, unl false 2] ≠ 0 := by
    by_cases h1 : P = 0 <;> by_cases h2 : T = 0 <;> simp [firstNZ, unl, h1, h2]
   exact ⟨HE.out.1 h0, h0⟩)
  have HB : Hid (¬ (inB tk 1 20 = true ∧ inB lo 1 1200 = true ∧ inB hi 1 1200 = true ∧ inB li 1 100 = true ∧ inB ea 0 100 = true ∧ inB la 0 100 = true ∧ inB no 0 100 = true ∧ inB mi 0 100 = true)) := hid (by
   rintro ⟨b1, b2, b3, b4, b5, b6, b7, b8⟩
   have := HR.out
   rw [b1, b2, b3, b4, b5, b6, b7, b8] at this
   exact absurd this (by decide))
  have hne : (E != 0) = true := by have h1 := HN.out.1; have h2 := HN.out.2; rw [← h1] at h2; simpa using h2
  have HF : Hid (∀ v w, IntsAt w v [P, T, unl false 2] → Calls Try.prog 69 #[v] w fun e w' => e = .returned (.int .i64 E) ∧ w = w') := hid (fun v w h => by rw [HN.out.1]; exact track_first _ v w h)
  cases hm : inB mi 0 100
  all_goals
   go_enter Try.func14, Try.ntmps14
   go_wp2_with (go_at_call 68; refine (track_within _ _ _ _).mono ?_; rintro _ _ ⟨rfl, rfl⟩)
   all_goals (refine wp_loop_rounds 5 ?_)
   repeat any_goals (rw [rounds_succ]; go_wp2_with (go_at_call 68; refine (track_within _ _ _ _).mono ?_; rintro _ _ ⟨rfl, rfl⟩))
   all_goals (try simp only [Bool.not_eq_true', Bool.not_eq_false', Bool.not_eq_true, Bool.not_eq_false] at *)
   all_goals (try (exfalso; exact HB.out ⟨by assumption, by assumption, by assumption, by assumption, by assumption, by assumption, by assumption, by assumption⟩))
   all_goals (rw [← hW])
   all_goals (clear hW)
   all_goals
    refine wp_mixC (fun wc => Below (W.heap.size) W wc) 10 [.q [0, 1, 3, 4, 6], .f [2, 5, 7, 8, 9]] [.q [10]] (by kernel_rfl) (by kernel_rfl) ((Below.refl _ _).drew) ?_
    intro Q' hQ'
    (rw [wpMixC]; simp only [pick, List.drop_succ_cons, List.drop_zero, List.head?_cons, Option.toList_some, List.cons_append, List.nil_append])
    (repeat (first | go_big_quiet_skip | (go_big_quiet_want; refine quiet_simple rfl ?_; go_big_quiet_op; go_big_quiet_on) | (go_big_quiet_want; refine quiet_cellB (ty := 3) rfl rfl (by kernel_rfl) (by assumption) (by first | omega | (simp; omega)) ?_; simp only [Act.put, List.setIfInBounds_toArray, List.set_cons_succ, List.set_cons_zero]; go_big_quiet_on) | (go_big_quiet_want; refine quiet_agg3B (ty := 22) rfl rfl (by kernel_rfl) (by assumption) (by assumption) (by assumption) (by first | omega | (simp; omega)) ?_; simp only [Act.put, List.setIfInBounds_toArray, List.set_cons_succ, List.set_cons_zero]; go_big_quiet_on)))
    (try refine wpQuiet_nil ?_)
    (rw [wpMixC]; simp only [pick, List.drop_succ_cons, List.drop_zero, List.head?_cons, Option.toList_some, List.cons_append, List.nil_append])
    (rw [wpSteps]; go_wp2_with ((go_at_call 70; refine (HP.out _).mono ?_; rintro _ w1 ⟨rfl, hb1⟩)); rw [contF]; refine ⟨?_, ?_⟩; (next => exact BelowA))
    (rw [wpSteps]; go_wp2_with ((go_at_call 71; refine (HT.out _).mono ?_; rintro _ _ ⟨rfl, rfl⟩)); rw [contF]; refine ⟨?_, ?_⟩; (next => exact BelowA))
    (rw [wpSteps]; go_wp2_with ((go_at_call 72; refine (track_unless _ _ _).mono ?_; rintro _ _ ⟨rfl, rfl⟩)); rw [contF]; refine ⟨?_, ?_⟩; (next => exact BelowA))
    (rw [wpSteps]; go_wp2_with (fail); rw [contF]; refine ⟨?_, ?_⟩; (next => exact BelowA))
    (rw [wpSteps]; go_wp2_with ((go_at_call 69; refine (HF.out _ _ (intsAt_new _ _ _ _ _ rfl (by simp) (by first | rfl | simp))).mono ?_; rintro _ _ ⟨rfl, rfl⟩)); rw [contF]; refine ⟨?_, ?_⟩; (next => exact BelowA))
    (rw [wpSteps])
    (rw [wpMixC])
    (rw [wpMix]; simp only [pick, List.drop_succ_cons, List.drop_zero, List.head?_cons, Option.toList_some, List.cons_append, List.nil_append])
    (repeat (first | (go_big_quiet_step (fail)) | (quiet_step (fail))))
    (try refine wpQuiet_nil ?_)
    (rw [wpMix])
    (refine hQ' _ _ ?_)
    go_wp2_with fail
    go_ret
    exact ⟨rfl, by exact BelowA⟩
 ·have hall := HR.out.symm
  simp only [Bool.and_eq_true] at hall
  obtain ⟨⟨⟨⟨⟨⟨⟨b1, b2⟩, b3⟩, b4⟩, b5⟩, b6⟩, b7⟩, b8⟩ := hall
  obtain ⟨z1, z2, z3, z4⟩ := HSZ.out rfl
  have k1 : IntKind.i64.wrap (li * tk) = li * tk := IntWalk.i64_in _ (by omega)
  have k2 : IntKind.i64.wrap (li * tk * tk) = li * tk * tk := IntWalk.i64_in _ (by omega)
  rw [← HSL.out] at k2 z3 z4
  generalize hA : li * tk = A at k1 HSL z1 z2
  have k2' : IntKind.i64.wrap (A * tk) = S := by rw [← HSL.out]; exact k2
  have k1' : IntKind.i64.wrap (li * tk) = A := by rw [hA]; exact k1
  clear k1 k2 hA
  have HF : Hid (∀ v w, IntsAt w v [P, T, unl true 2] → Calls Try.prog 69 #[v] w fun e w' => e = .returned (.int .i64 (firstNZ [P, T, unl true 2])) ∧ w = w') := hid (fun v w h => track_first _ v w h)
  generalize firstNZ [P, T, unl true 2] = E1 at HE HF
  by_cases h1 : E1 = 0
  ·subst h1
   have HV : Hid (E = firstNZ [unl (decide (lo ≤ hi)) 9, unl (decide (S < lo)) 13]) := hid ((HE.out.2 rfl).2)
   go_enter Try.func14, Try.ntmps14
   go_wp2_with (go_at_call 68; refine (track_within _ _ _ _).mono ?_; rintro _ _ ⟨rfl, rfl⟩)
   refine wp_loop_rounds 5 ?_
   repeat any_goals (rw [rounds_succ]; go_wp2_with (go_at_call 68; refine (track_within _ _ _ _).mono ?_; rintro _ _ ⟨rfl, rfl⟩))
   rw [← hW]
   clear hW
   refine wp_mixC (fun wc => Below (W.heap.size) W wc) 10 [.q [0, 1, 3, 4, 6], .f [2, 5, 7, 8, 9]] [.q [10]] (by kernel_rfl) (by kernel_rfl) ((Below.refl _ _).drew) ?_
   intro Q' hQ'
   (rw [wpMixC]; simp only [pick, List.drop_succ_cons, List.drop_zero, List.head?_cons, Option.toList_some, List.cons_append, List.nil_append])
   (repeat (first | go_big_quiet_skip | (go_big_quiet_want; refine quiet_simple rfl ?_; go_big_quiet_op; go_big_quiet_on) | (go_big_quiet_want; refine quiet_cellB (ty := 3) rfl rfl (by kernel_rfl) (by assumption) (by first | omega | (simp; omega)) ?_; simp only [Act.put, List.setIfInBounds_toArray, List.set_cons_succ, List.set_cons_zero]; go_big_quiet_on) | (go_big_quiet_want; refine quiet_agg3B (ty := 22) rfl rfl (by kernel_rfl) (by assumption) (by assumption) (by assumption) (by first | omega | (simp; omega)) ?_; simp only [Act.put, List.setIfInBounds_toArray, List.set_cons_succ, List.set_cons_zero]; go_big_quiet_on)))
   (try refine wpQuiet_nil ?_)
   (rw [wpMixC]; simp only [pick, List.drop_succ_cons, List.drop_zero, List.head?_cons, Option.toList_some, List.cons_append, List.nil_append])
   (rw [wpSteps]; go_wp2_with ((go_at_call 70; refine (HP.out _).mono ?_; rintro _ w1 ⟨rfl, hb1⟩)); rw [contF]; refine ⟨?_, ?_⟩; (next => exact BelowA))
   (rw [wpSteps]; go_wp2_with ((go_at_call 71; refine (HT.out _).mono ?_; rintro _ _ ⟨rfl, rfl⟩)); rw [contF]; refine ⟨?_, ?_⟩; (next => exact BelowA))
   (rw [wpSteps]; go_wp2_with ((go_at_call 72; refine (track_unless _ _ _).mono ?_; rintro _ _ ⟨rfl, rfl⟩)); rw [contF]; refine ⟨?_, ?_⟩; (next => exact BelowA))
   (rw [wpSteps]; go_wp2_with (fail); rw [contF]; refine ⟨?_, ?_⟩; (next => exact BelowA))
   (rw [wpSteps]; go_wp2_with ((go_at_call 69; refine (HF.out _ _ (intsAt_new _ _ _ _ _ rfl (by simp) (by first | rfl | simp))).mono ?_; rintro _ _ ⟨rfl, rfl⟩)); rw [contF]; refine ⟨?_, ?_⟩; (next => exact BelowA))
   (rw [wpSteps])
   (rw [wpMixC])
   (rw [wpMix]; simp only [pick, List.drop_succ_cons, List.drop_zero, List.head?_cons, Option.toList_some, List.cons_append, List.nil_append])
   (repeat (first | (go_big_quiet_step (fail)) | (quiet_step (fail))))
   (try refine wpQuiet_nil ?_)
   (rw [wpMix])
   (refine hQ' _ _ ?_)
   go_wp2_with fail
   have hb2 : Below W.heap.size W (w1.alloc (.cells #[.int .i64 P, .int .i64 T, .int .i64 (unl true 2)] 30)) := by exact BelowA
   obtain ⟨W3, hW3⟩ : ∃ W3, W3 = w1.alloc (.cells #[.int .i64 P, .int .i64 T, .int .i64 (unl true 2)] 30) := ⟨_, rfl⟩
   rw [← hW3] at hb2 ⊢
   clear hW3 c0 c1 c2 c3
   have y0 := (hb2.block w.heap.size hl0).trans Q0.out
   have c4 : W3.cell? ⟨w.heap.size, 4, none⟩ = some (.int .i64 tk) := by rw [cell_of_row W3 _ 4 _ _ (0, 0) y0]; rfl
   have c5 : W3.cell? ⟨w.heap.size, 5, none⟩ = some (.int .i64 lo) := by rw [cell_of_row W3 _ 5 _ _ (0, 0) y0]; rfl
   have c6 : W3.cell? ⟨w.heap.size, 6, none⟩ = some (.int .i64 hi) := by rw [cell_of_row W3 _ 6 _ _ (0, 0) y0]; rfl
   have c7 : W3.cell? ⟨w.heap.size, 7, none⟩ = some (.int .i64 li) := by rw [cell_of_row W3 _ 7 _ _ (0, 0) y0]; rfl
   have hlx : w.heap.size < W3.heap.size := (Array.getElem?_eq_some_iff.1 y0).1
   clear y0
   refine wp_mixC (fun wc => Below (W3.heap.size) W3 wc) 23 [.q [0, 1, 2, 3, 4, 5, 6, 8, 9, 10, 11, 12, 13, 14, 15, 16, 17, 18, 19], .f [7, 20, 21, 22]] [.q [23]] (by kernel_rfl) (by kernel_rfl) ((Below.refl _ _).drew) ?_
   intro Q' hQ'
   (rw [wpMixC]; simp only [pick, List.drop_succ_cons, List.drop_zero, List.head?_cons, Option.toList_some, List.cons_append, List.nil_append])
   (repeat (first | go_big_quiet_skip | (go_big_quiet_want; refine quiet_simple rfl ?_; go_big_quiet_op; go_big_quiet_on) | (go_big_quiet_want; refine quiet_cellB (ty := 3) rfl rfl (by kernel_rfl) (by assumption) (by first | omega | (simp; omega)) ?_; simp only [Act.put, List.setIfInBounds_toArray, List.set_cons_succ, List.set_cons_zero]; go_big_quiet_on)))
   (try refine wpQuiet_nil ?_)
   (rw [wpMixC]; simp only [pick, List.drop_succ_cons, List.drop_zero, List.head?_cons, Option.toList_some, List.cons_append, List.nil_append])
   (rw [wpSteps]; go_wp2_with ((first | (go_at_call 72; refine (track_unless _ _ _).mono ?_; rintro _ _ ⟨rfl, rfl⟩) | (first | (go_at_call 69; refine (track_first [unl (decide (lo ≤ hi)) 9, unl (decide (S < lo)) 13] _ _ (intsAt_new _ _ _ _ _ rfl (by simp) (by first | rfl | simp))).mono ?_; rintro _ _ ⟨rfl, rfl⟩) | (go_at_call 69; refine (track_first [unl (decide (lo ≤ hi)) 9, unl (decide (S < lo)) 13] _ _ ((intsAt_new _ _ _ _ _ rfl (by simp) (by first | rfl | simp)).below (Below.drew (Below.refl _ _)))).mono ?_; rintro _ _ ⟨rfl, rfl⟩)))); rw [contF]; refine ⟨?_, ?_⟩; (next => exact BelowA))
   (rw [wpSteps]; go_wp2_with ((first | (go_at_call 72; refine (track_unless _ _ _).mono ?_; rintro _ _ ⟨rfl, rfl⟩) | (first | (go_at_call 69; refine (track_first [unl (decide (lo ≤ hi)) 9, unl (decide (S < lo)) 13] _ _ (intsAt_new _ _ _ _ _ rfl (by simp) (by first | rfl | simp))).mono ?_; rintro _ _ ⟨rfl, rfl⟩) | (go_at_call 69; refine (track_first [unl (decide (lo ≤ hi)) 9, unl (decide (S < lo)) 13] _ _ ((intsAt_new _ _ _ _ _ rfl (by simp) (by first | rfl | simp)).below (Below.drew (Below.refl _ _)))).mono ?_; rintro _ _ ⟨rfl, rfl⟩)))); rw [contF]; refine ⟨?_, ?_⟩; (next => exact BelowA))
   (rw [wpSteps]; go_wp2_with ((first | (go_at_call 69; refine (track_first [unl (decide (lo ≤ hi)) 9, unl (decide (S < lo)) 13] _ _ (intsAt_new _ _ _ _ _ rfl (by simp) (by first | rfl | simp))).mono ?_; rintro _ _ ⟨rfl, rfl⟩) | (go_at_call 69; refine (track_first [unl (decide (lo ≤ hi)) 9, unl (decide (S < lo)) 13] _ _ ((intsAt_new _ _ _ _ _ rfl (by simp) (by first | rfl | simp)).below (Below.drew (Below.refl _ _)))).mono ?_; rintro _ _ ⟨rfl, rfl⟩))); rw [contF]; refine ⟨?_, ?_⟩; (next => exact BelowA))
   (rw [wpSteps]; go_wp2_with ((first | (go_at_call 69; refine (track_first [unl (decide (lo ≤ hi)) 9, unl (decide (S < lo)) 13] _ _ (intsAt_new _ _ _ _ _ rfl (by simp) (by first | rfl | simp))).mono ?_; rintro _ _ ⟨rfl, rfl⟩) | (go_at_call 69; refine (track_first [unl (decide (lo ≤ hi)) 9, unl (decide (S < lo)) 13] _ _ ((intsAt_new _ _ _ _ _ rfl (by simp) (by first | rfl | simp)).below (Below.drew (Below.refl _ _)))).mono ?_; rintro _ _ ⟨rfl, rfl⟩))); rw [contF]; refine ⟨?_, ?_⟩; (next => exact BelowA))
   (rw [wpSteps])
   (rw [wpMixC])
   (rw [wpMix]; simp only [pick, List.drop_succ_cons, List.drop_zero, List.head?_cons, Option.toList_some, List.cons_append, List.nil_append])
   (repeat (first | (go_big_quiet_step (fail)) | (quiet_step (fail))))
   (try refine wpQuiet_nil ?_)
   (rw [wpMix])
   (refine hQ' _ _ ?_)
   go_wp2_with fail
   go_ret
   exact ⟨ret_int HV.out.symm, by exact BelowA⟩
  ·have hne : (E1 != 0) = true := by simpa using h1
   have HV : Hid (E = E1) := hid (HE.out.1 h1)
   clear h1
   go_enter Try.func14, Try.ntmps14
   go_wp2_with (go_at_call 68; refine (track_within _ _ _ _).mono ?_; rintro _ _ ⟨rfl, rfl⟩)
   refine wp_loop_rounds 5 ?_
   repeat any_goals (rw [rounds_succ]; go_wp2_with (go_at_call 68; refine (track_within _ _ _ _).mono ?_; rintro _ _ ⟨rfl, rfl⟩))
   rw [← hW]
   clear hW
   refine wp_mixC (fun wc => Below (W.heap.size) W wc) 10 [.q [0, 1, 3, 4, 6], .f [2, 5, 7, 8, 9]] [.q [10]] (by kernel_rfl) (by kernel_rfl) ((Below.refl _ _).drew) ?_
   intro Q' hQ'
   (rw [wpMixC]; simp only [pick, List.drop_succ_cons, List.drop_zero, List.head?_cons, Option.toList_some, List.cons_append, List.nil_append])
   (repeat (first | go_big_quiet_skip | (go_big_quiet_want; refine quiet_simple rfl ?_; go_big_quiet_op; go_big_quiet_on) | (go_big_quiet_want; refine quiet_cellB (ty := 3) rfl rfl (by kernel_rfl) (by assumption) (by first | omega | (simp; omega)) ?_; simp only [Act.put, List.setIfInBounds_toArray, List.set_cons_succ, List.set_cons_zero]; go_big_quiet_on) | (go_big_quiet_want; refine quiet_agg3B (ty := 22) rfl rfl (by kernel_rfl) (by assumption) (by assumption) (by assumption) (by first | omega | (simp; omega)) ?_; simp only [Act.put, List.setIfInBounds_toArray, List.set_cons_succ, List.set_cons_zero]; go_big_quiet_on)))
   (try refine wpQuiet_nil ?_)
   (rw [wpMixC]; simp only [pick, List.drop_succ_cons, List.drop_zero, List.head?_cons, Option.toList_some, List.cons_append, List.nil_append])
   (rw [wpSteps]; go_wp2_with ((go_at_call 70; refine (HP.out _).mono ?_; rintro _ w1 ⟨rfl, hb1⟩)); rw [contF]; refine ⟨?_, ?_⟩; (next => exact BelowA))
   (rw [wpSteps]; go_wp2_with ((go_at_call 71; refine (HT.out _).mono ?_; rintro _ _ ⟨rfl, rfl⟩)); rw [contF]; refine ⟨?_, ?_⟩; (next => exact BelowA))
   (rw [wpSteps]; go_wp2_with ((go_at_call 72; refine (track_unless _ _ _).mono ?_; rintro _ _ ⟨rfl, rfl⟩)); rw [contF]; refine ⟨?_, ?_⟩; (next => exact BelowA))
   (rw [wpSteps]; go_wp2_with (fail); rw [contF]; refine ⟨?_, ?_⟩; (next => exact BelowA))
   (rw [wpSteps]; go_wp2_with ((go_at_call 69; refine (HF.out _ _ (intsAt_new _ _ _ _ _ rfl (by simp) (by first | rfl | simp))).mono ?_; rintro _ _ ⟨rfl, rfl⟩)); rw [contF]; refine ⟨?_, ?_⟩; (next => exact BelowA))
   (rw [wpSteps])
   (rw [wpMixC])
   (rw [wpMix]; simp only [pick, List.drop_succ_cons, List.drop_zero, List.head?_cons, Option.toList_some, List.cons_append, List.nil_append])
   (repeat (first | (go_big_quiet_step (fail)) | (quiet_step (fail))))
   (try refine wpQuiet_nil ?_)
   (rw [wpMix])
   (refine hQ' _ _ ?_)
   go_wp2_with fail
   go_ret
   exact ⟨ret_int HV.out.symm, by exact BelowA⟩
end Go.Proofs.Ytlmdmpjfehpjeaa
set_option linter.unusedVariables false
set_option linter.unusedSimpArgs false
namespace Go.Proofs.Ytlmdmpjfehpjeaa
open Go.RowKit
set_option maxRecDepth 100000 in
set_option maxHeartbeats 4000000 in
theorem track_open (m : TMod) (w : World) : Calls Try.prog 119 #[m.v] w fun e w' => e = .returned (.tuple #[m.v, .int .i64 m.err]) ∧ Below w.heap.size w w' := by
 have HC : Hid (∀ W, Calls Try.prog 14 #[m.v] W fun e w' => e = .returned (.int .i64 m.err) ∧ Below W.heap.size W w') := hid (fun W => track_CheckModel m W)
 generalize m.err = E at HC ⊢
 obtain ⟨px, py, pz, tm, tk, lo, hi, li, ea, la, no, mi⟩ := m
 unfold TMod.v at *
 simp only at *
 obtain ⟨W, hW⟩ : ∃ W, W = (w.alloc (.cells #[.int .i64 px, .int .i64 py, .int .i64 pz, .int .i64 tm, .int .i64 tk, .int .i64 lo, .int .i64 hi, .int .i64 li, .int .i64 ea, .int .i64 la, .int .i64 no, .int .i64 mi] 26)).alloc (.cells #[.int .i64 0, .int .i64 0, .int .i64 0, .int .i64 0, .int .i64 0, .int .i64 0, .int .i64 0, .int .i64 0, .int .i64 0, .int .i64 0, .int .i64 0, .int .i64 0] 134) := ⟨_, rfl⟩
 have hbW : Below w.heap.size w W := by rw [hW]; exact BelowA
 obtain ⟨q0, q1, hl0, hl1⟩ := al2 w _ _ _ _ W hW
 have c0 : W.cell? ⟨w.heap.size, 0, none⟩ = some (.int .i64 px) := by rw [cell_of_row W _ 0 _ _ (0, 0) q0]; rfl
 have c1 : W.cell? ⟨w.heap.size, 1, none⟩ = some (.int .i64 py) := by rw [cell_of_row W _ 1 _ _ (0, 0) q0]; rfl
 have c2 : W.cell? ⟨w.heap.size, 2, none⟩ = some (.int .i64 pz) := by rw [cell_of_row W _ 2 _ _ (0, 0) q0]; rfl
 have c3 : W.cell? ⟨w.heap.size, 3, none⟩ = some (.int .i64 tm) := by rw [cell_of_row W _ 3 _ _ (0, 0) q0]; rfl
 have c4 : W.cell? ⟨w.heap.size, 4, none⟩ = some (.int .i64 tk) := by rw [cell_of_row W _ 4 _ _ (0, 0) q0]; rfl
 have c5 : W.cell? ⟨w.heap.size, 5, none⟩ = some (.int .i64 lo) := by rw [cell_of_row W _ 5 _ _ (0, 0) q0]; rfl
 have c6 : W.cell? ⟨w.heap.size, 6, none⟩ = some (.int .i64 hi) := by rw [cell_of_row W _ 6 _ _ (0, 0) q0]; rfl
 have c7 : W.cell? ⟨w.heap.size, 7, none⟩ = some (.int .i64 li) := by rw [cell_of_row W _ 7 _ _ (0, 0) q0]; rfl
 have c8 : W.cell? ⟨w.heap.size, 8, none⟩ = some (.int .i64 ea) := by rw [cell_of_row W _ 8 _ _ (0, 0) q0]; rfl
 have c9 : W.cell? ⟨w.heap.size, 9, none⟩ = some (.int .i64 la) := by rw [cell_of_row W _ 9 _ _ (0, 0) q0]; rfl
 have c10 : W.cell? ⟨w.heap.size, 10, none⟩ = some (.int .i64 no) := by rw [cell_of_row W _ 10 _ _ (0, 0) q0]; rfl
 have c11 : W.cell? ⟨w.heap.size, 11, none⟩ = some (.int .i64 mi) := by rw [cell_of_row W _ 11 _ _ (0, 0) q0]; rfl
 have Q1 := hid q1
 clear q0 q1
 go_enter Try.func119, Try.ntmps119
 go_wp2_with fail
 rw [← hW]
 clear hW
 refine wp_mixC (fun wc => Below ((w.heap.size + 1)) W wc) 5 [.q [0, 1, 2], .f [3, 4]] [.q [5]] (by kernel_rfl) (by kernel_rfl) ((Below.refl _ _).drew) ?_
 intro Q' hQ'
 (rw [wpMixC]; simp only [pick, List.drop_succ_cons, List.drop_zero, List.head?_cons, Option.toList_some, List.cons_append, List.nil_append])
 (repeat (first | go_big_quiet_skip | (go_big_quiet_want; refine quiet_simple rfl ?_; go_big_quiet_op; go_big_quiet_on) | (go_big_quiet_want; refine quiet_agg12B (ty := 26) rfl rfl (by kernel_rfl) (by assumption) (by assumption) (by assumption) (by assumption) (by assumption) (by assumption) (by assumption) (by assumption) (by assumption) (by assumption) (by assumption) (by assumption) (by first | omega | (simp; omega)) ?_; simp only [Act.put, List.setIfInBounds_toArray, List.set_cons_succ, List.set_cons_zero]; go_big_quiet_on)))
 (try refine wpQuiet_nil ?_)
 (rw [wpMixC]; simp only [pick, List.drop_succ_cons, List.drop_zero, List.head?_cons, Option.toList_some, List.cons_append, List.nil_append])
 (rw [wpSteps]; go_wp2_with ((go_at_call 14; ((with_reducible refine (HC.out _).mono ?_); rintro _ w1 ⟨rfl, hb1⟩; have hbm : Below (w.heap.size + 1) W w1 := ((Below.refl (w.heap.size + 1) W).drew).trans (hb1.mono (by show w.heap.size + 1 ≤ W.heap.size; omega)); have hbf : Below w.heap.size w w1 := hbW.trans (hbm.mono (by omega)); have q1 := (hb1.block (w.heap.size + 1) hl1).trans Q1.out; have g0 : w1.cell? ⟨w.heap.size + 1, 0, none⟩ = some (.int .i64 0) := (by rw [cell_of_row w1 _ 0 _ _ (0, 0) q1]; rfl); have f0 := frozen_of_row w1 (w.heap.size + 1) 0 _ _ q1; have g1 : w1.cell? ⟨w.heap.size + 1, 1, none⟩ = some (.int .i64 0) := (by rw [cell_of_row w1 _ 1 _ _ (0, 0) q1]; rfl); have f1 := frozen_of_row w1 (w.heap.size + 1) 1 _ _ q1; have g2 : w1.cell? ⟨w.heap.size + 1, 2, none⟩ = some (.int .i64 0) := (by rw [cell_of_row w1 _ 2 _ _ (0, 0) q1]; rfl); have f2 := frozen_of_row w1 (w.heap.size + 1) 2 _ _ q1; have g3 : w1.cell? ⟨w.heap.size + 1, 3, none⟩ = some (.int .i64 0) := (by rw [cell_of_row w1 _ 3 _ _ (0, 0) q1]; rfl); have f3 := frozen_of_row w1 (w.heap.size + 1) 3 _ _ q1; have g4 : w1.cell? ⟨w.heap.size + 1, 4, none⟩ = some (.int .i64 0) := (by rw [cell_of_row w1 _ 4 _ _ (0, 0) q1]; rfl); have f4 := frozen_of_row w1 (w.heap.size + 1) 4 _ _ q1; have g5 : w1.cell? ⟨w.heap.size + 1, 5, none⟩ = some (.int .i64 0) := (by rw [cell_of_row w1 _ 5 _ _ (0, 0) q1]; rfl); have f5 := frozen_of_row w1 (w.heap.size + 1) 5 _ _ q1; have g6 : w1.cell? ⟨w.heap.size + 1, 6, none⟩ = some (.int .i64 0) := (by rw [cell_of_row w1 _ 6 _ _ (0, 0) q1]; rfl); have f6 := frozen_of_row w1 (w.heap.size + 1) 6 _ _ q1; have g7 : w1.cell? ⟨w.heap.size + 1, 7, none⟩ = some (.int .i64 0) := (by rw [cell_of_row w1 _ 7 _ _ (0, 0) q1]; rfl); have f7 := frozen_of_row w1 (w.heap.size + 1) 7 _ _ q1; have g8 : w1.cell? ⟨w.heap.size + 1, 8, none⟩ = some (.int .i64 0) := (by rw [cell_of_row w1 _ 8 _ _ (0, 0) q1]; rfl); have f8 := frozen_of_row w1 (w.heap.size + 1) 8 _ _ q1; have g9 : w1.cell? ⟨w.heap.size + 1, 9, none⟩ = some (.int .i64 0) := (by rw [cell_of_row w1 _ 9 _ _ (0, 0) q1]; rfl); have f9 := frozen_of_row w1 (w.heap.size + 1) 9 _ _ q1; have g10 : w1.cell? ⟨w.heap.size + 1, 10, none⟩ = some (.int .i64 0) := (by rw [cell_of_row w1 _ 10 _ _ (0, 0) q1]; rfl); have f10 := frozen_of_row w1 (w.heap.size + 1) 10 _ _ q1; have g11 : w1.cell? ⟨w.heap.size + 1, 11, none⟩ = some (.int .i64 0) := (by rw [cell_of_row w1 _ 11 _ _ (0, 0) q1]; rfl); have f11 := frozen_of_row w1 (w.heap.size + 1) 11 _ _ q1; have hlx : w.heap.size + 1 < w1.heap.size := (Array.getElem?_eq_some_iff.1 q1).1; clear q1))); rw [contF]; refine ⟨?_, ?_⟩; (next => exact BelowA))
 (rw [wpSteps]; go_wp2_with (fail); rw [contF]; refine ⟨?_, ?_⟩; (next => exact BelowA))
 (rw [wpSteps])
 (rw [wpMixC])
 (rw [wpMix]; simp only [pick, List.drop_succ_cons, List.drop_zero, List.head?_cons, Option.toList_some, List.cons_append, List.nil_append])
 (repeat (first | (go_big_quiet_step (fail)) | (quiet_step (fail))))
 (try refine wpQuiet_nil ?_)
 (rw [wpMix])
 (refine hQ' _ _ ?_)
 go_wp2_with fail
 ((try simp only [Exit.inBlock, Exit.then]); refine bodyPost_ret (v := .tuple #[.agg #[.int .i64 px, .int .i64 py, .int .i64 pz, .int .i64 tm, .int .i64 tk, .int .i64 lo, .int .i64 hi, .int .i64 li, .int .i64 ea, .int .i64 la, .int .i64 no, .int .i64 mi], .int .i64 E]) ?_ rfl ?_; (next => simp [results, Try.results119, go_sem, hlx, g0, g1, g2, g3, g4, g5, g6, g7, g8, g9, g10, g11]); refine ⟨?_, ?_⟩; (next => rfl); (next => exact BelowA))
end Go.Proofs.Ytlmdmpjfehpjeaa
set_option linter.unusedVariables false
set_option linter.unusedSimpArgs false
namespace Go.Proofs.Ytlmdmpjfehpjeaa
open Go.RowKit
theorem tw_cells {w : World} {g : Nat} {x0 x1 x2 x3 x4 x5 x6 x7 x8 x9 x10 x11 : Value} {t : TypeId} (h : w.heap[g]? = some (.cells #[x0, x1, x2, x3, x4, x5, x6, x7, x8, x9, x10, x11] t (0, 0))) :
  w.cell? ⟨g, 0, none⟩ = some x0 ∧ w.cell? ⟨g, 1, none⟩ = some x1 ∧ w.cell? ⟨g, 2, none⟩ = some x2 ∧ w.cell? ⟨g, 3, none⟩ = some x3 ∧ w.cell? ⟨g, 4, none⟩ = some x4 ∧ w.cell? ⟨g, 5, none⟩ = some x5 ∧ w.cell? ⟨g, 6, none⟩ = some x6 ∧ w.cell? ⟨g, 7, none⟩ = some x7 ∧ w.cell? ⟨g, 8, none⟩ = some x8 ∧ w.cell? ⟨g, 9, none⟩ = some x9 ∧ w.cell? ⟨g, 10, none⟩ = some x10 ∧ w.cell? ⟨g, 11, none⟩ = some x11 ∧ g < w.heap.size := by
 refine ⟨?_, ?_, ?_, ?_, ?_, ?_, ?_, ?_, ?_, ?_, ?_, ?_, (Array.getElem?_eq_some_iff.1 h).1⟩
 ·rw [cell_of_row w g 0 _ t (0, 0) h]; rfl
 ·rw [cell_of_row w g 1 _ t (0, 0) h]; rfl
 ·rw [cell_of_row w g 2 _ t (0, 0) h]; rfl
 ·rw [cell_of_row w g 3 _ t (0, 0) h]; rfl
 ·rw [cell_of_row w g 4 _ t (0, 0) h]; rfl
 ·rw [cell_of_row w g 5 _ t (0, 0) h]; rfl
 ·rw [cell_of_row w g 6 _ t (0, 0) h]; rfl
 ·rw [cell_of_row w g 7 _ t (0, 0) h]; rfl
 ·rw [cell_of_row w g 8 _ t (0, 0) h]; rfl
 ·rw [cell_of_row w g 9 _ t (0, 0) h]; rfl
 ·rw [cell_of_row w g 10 _ t (0, 0) h]; rfl
 ·rw [cell_of_row w g 11 _ t (0, 0) h]; rfl
theorem tw_frozen {w : World} {g : Nat} {a : Array Value} {t : TypeId} (h : w.heap[g]? = some (.cells a t (0, 0))) :
  w.frozen? ⟨g, 0, none⟩ = false ∧ w.frozen? ⟨g, 1, none⟩ = false ∧ w.frozen? ⟨g, 2, none⟩ = false ∧ w.frozen? ⟨g, 3, none⟩ = false ∧ w.frozen? ⟨g, 4, none⟩ = false ∧ w.frozen? ⟨g, 5, none⟩ = false ∧ w.frozen? ⟨g, 6, none⟩ = false ∧ w.frozen? ⟨g, 7, none⟩ = false ∧ w.frozen? ⟨g, 8, none⟩ = false ∧ w.frozen? ⟨g, 9, none⟩ = false ∧ w.frozen? ⟨g, 10, none⟩ = false ∧ w.frozen? ⟨g, 11, none⟩ = false :=
 ⟨frozen_of_row w g 0 _ t h, frozen_of_row w g 1 _ t h, frozen_of_row w g 2 _ t h, frozen_of_row w g 3 _ t h, frozen_of_row w g 4 _ t h, frozen_of_row w g 5 _ t h, frozen_of_row w g 6 _ t h, frozen_of_row w g 7 _ t h, frozen_of_row w g 8 _ t h, frozen_of_row w g 9 _ t h, frozen_of_row w g 10 _ t h, frozen_of_row w g 11 _ t h⟩
theorem al4 (w : World) (a b c d : Array Value) (t s r q : TypeId) : ∀ W, W = (((w.alloc (.cells a t)).alloc (.cells b s)).alloc (.cells c r)).alloc (.cells d q) →
  W.heap.size = w.heap.size + 4 ∧ W.heap[w.heap.size]? = some (.cells a t (0, 0)) ∧ W.heap[w.heap.size + 1]? = some (.cells b s (0, 0)) ∧ W.heap[w.heap.size + 1 + 1]? = some (.cells c r (0, 0)) ∧ W.heap[w.heap.size + 1 + 1 + 1]? = some (.cells d q (0, 0)) := by
 rintro W rfl
 refine ⟨by simp, ?_, ?_, ?_, ?_⟩
 ·rw [Below.heap_alloc _ _ _ (by simp <;> omega), Below.heap_alloc _ _ _ (by simp <;> omega), Below.heap_alloc _ _ _ (by simp), heap_alloc_new]
 ·rw [Below.heap_alloc _ _ _ (by simp <;> omega), Below.heap_alloc _ _ _ (by simp)]
  have := heap_alloc_new (w.alloc (.cells a t)) (.cells b s)
  simpa using this
 ·rw [Below.heap_alloc _ _ _ (by simp)]
  have := heap_alloc_new ((w.alloc (.cells a t)).alloc (.cells b s)) (.cells c r)
  simpa using this
 ·have := heap_alloc_new (((w.alloc (.cells a t)).alloc (.cells b s)).alloc (.cells c r)) (.cells d q)
  simpa using this
theorem both_two (m : TMod) (s : V3) : (firstNZ [m.err, unl (s.inS 20) 2] ≠ 0 → m.both s = firstNZ [m.err, unl (s.inS 20) 2]) ∧ (firstNZ [m.err, unl (s.inS 20) 2] = 0 → s.inS 20 = true ∧ m.both s = unl (m.permB s) 24) := by
 unfold TMod.both TMod.stE
 by_cases h1 : m.err = 0
 ·cases h2 : s.inS 20
  ·simp [firstNZ, h1, unl]
  ·cases h3 : m.permB s <;> simp [firstNZ, h1, unl]
 ·simp [firstNZ, h1]
theorem KeepA {G : List Nat} {W w : World} (g : KeepB G W w := by (repeat (with_reducible first | assumption | exact KeepB.refl (by first | (simp; done) | (simp; omega)) | refine KeepB.drew ?_ | refine KeepB.alloc ?_ _ | refine KeepB.setCell ?_ (by first | (simp; done) | (simp; omega)) | refine KeepB.below ?_ (by assumption)))) : KeepB G W w := g
set_option maxRecDepth 100000 in
set_option maxHeartbeats 8000000 in
theorem track_openStep (m : TMod) (s : V3) (w : World) : Calls Try.prog 73 #[m.v, s.v] w fun e w' => e = .returned (.tuple #[m.v, s.v, .int .i64 (m.both s)]) ∧ Below w.heap.size w w' := by
 have HO : Hid (∀ W, Calls Try.prog 119 #[m.v] W fun e w' => e = .returned (.tuple #[m.v, .int .i64 m.err]) ∧ Below W.heap.size W w') := hid (fun W => track_open m W)
 have HF : Hid (∀ W, Calls Try.prog 102 #[s.v, .int .i64 20] W fun e w' => e = .returned (.bool (s.inS 20)) ∧ Below W.heap.size W w') := hid (fun W => track_fits s 20 W (by omega) (by omega))
 have HPM : Hid (s.inS 20 = true → ∀ W, Calls Try.prog 120 #[m.v, s.v] W fun e w' => e = .returned (.bool (m.permB s)) ∧ Below W.heap.size W w') := hid (fun h W => track_permitted m s W (sm_self h))
 have HE := hid (both_two m s)
 have HFI : Hid (∀ v w, IntsAt w v [m.err, unl (s.inS 20) 2] → Calls Try.prog 69 #[v] w fun e w' => e = .returned (.int .i64 (firstNZ [m.err, unl (s.inS 20) 2])) ∧ w = w') := hid (fun v w h => track_first _ v w h)
 generalize firstNZ [m.err, unl (s.inS 20) 2] = E1 at HE HFI
 generalize m.err = EM at HO HFI
 generalize m.both s = E at HE ⊢
 generalize m.permB s = PB at HE HPM
 generalize s.inS 20 = IS at HF HPM HE HFI
 obtain ⟨px, py, pz, tm, tk, lo, hi, li, ea, la, no, mi⟩ := m
 obtain ⟨sx, sy, sz⟩ := s
 unfold TMod.v V3.v at *
 simp only at *
 obtain ⟨W0, hW0⟩ : ∃ W0, W0 = (((w.alloc (.cells #[.int .i64 px, .int .i64 py, .int .i64 pz, .int .i64 tm, .int .i64 tk, .int .i64 lo, .int .i64 hi, .int .i64 li, .int .i64 ea, .int .i64 la, .int .i64 no, .int .i64 mi] 26)).alloc (.cells #[.int .i64 sx, .int .i64 sy, .int .i64 sz] 22)).alloc (.cells #[.int .i64 0, .int .i64 0, .int .i64 0, .int .i64 0, .int .i64 0, .int .i64 0, .int .i64 0, .int .i64 0, .int .i64 0, .int .i64 0, .int .i64 0, .int .i64 0] 134)).alloc (.cells #[.int .i64 0, .int .i64 0, .int .i64 0] 135) := ⟨_, rfl⟩
 have hbW0 : Below w.heap.size w W0 := by rw [hW0]; exact BelowA
 obtain ⟨hz0, q0, q1, q2, q3⟩ := al4 w _ _ _ _ _ _ _ _ W0 hW0
 have Q1 := hid q1
 have Q2 := hid q2
 have Q3 := hid q3
 clear q0 q1 q2 q3
 have hcase : E1 = 0 ∨ E1 ≠ 0 := by omega
 rcases hcase with h1 | h1
 ·subst h1
  have HI : Hid (IS = true ∧ E = unl PB 24) := hid (HE.out.2 rfl)
  go_enter Try.func73, Try.ntmps73
  go_wp2_with (first | (go_at_call 119; rw [← hW0]; refine (HO.out _).mono ?_; rintro _ w1 ⟨rfl, hb1⟩; have hz1 := hb1.size; obtain ⟨d0, d1, d2, fd0, fd1, fd2, hl1⟩ := three_cells ((hb1.block (w.heap.size + 1) (by omega)).trans Q1.out); clear fd0 fd1 fd2) | (go_at_call 102; obtain ⟨WB, hWB⟩ : ∃ WB, WB = (w1.alloc (.cells #[.int .i64 px, .int .i64 py, .int .i64 pz, .int .i64 tm, .int .i64 tk, .int .i64 lo, .int .i64 hi, .int .i64 li, .int .i64 ea, .int .i64 la, .int .i64 no, .int .i64 mi] 134)).alloc (.cells #[.int .i64 sx, .int .i64 sy, .int .i64 sz] 135) := ⟨_, rfl⟩; rw [← hWB]; have hbWB : Below w1.heap.size w1 WB := (by rw [hWB]; exact BelowA); obtain ⟨r0, r1, hr0, hr1⟩ := al2 w1 _ _ _ _ WB hWB; clear hWB; refine (HF.out _).mono ?_; rintro _ w2 ⟨rfl, hb2⟩; have R0 := hid ((hb2.block w1.heap.size hr0).trans r0); have R1 := hid ((hb2.block (w1.heap.size + 1) hr1).trans r1); obtain ⟨m0, m1, m2, m3, m4, m5, m6, m7, m8, m9, m10, m11, ml⟩ := tw_cells (R0.out); obtain ⟨s0, s1, s2, fs0, fs1, fs2, hls⟩ := three_cells R1.out; clear fs0 fs1 fs2 r0 r1) | (go_at_call 72; refine (track_unless _ _ _).mono ?_; rintro _ _ ⟨rfl, rfl⟩) | (go_at_call 69; refine (HFI.out _ _ (intsAt_new _ _ _ _ _ rfl (by simp) (by first | rfl | simp))).mono ?_; rintro _ _ ⟨rfl, rfl⟩) | (go_at_call 120; refine (HPM.out HI.out.1 _).mono ?_; rintro _ w3 ⟨rfl, hb3⟩))
  obtain ⟨wz, hWZ⟩ : ∃ wz, wz = w3 := ⟨_, rfl⟩
  have hbz : Below w2.heap.size w2 wz := by rw [hWZ]; exact BelowA
  have hbf : Below W0.heap.size W0 wz := ((hb1.trans (hbWB.mono (by omega))).trans (hb2.mono (by have := hbWB.size; omega))).trans (hbz.mono (by have := hbWB.size; have := hb2.size; omega))
  have hbg : Below w.heap.size w wz := hbW0.trans (hbf.mono (by omega))
  have y0 := (hbz.block w1.heap.size ml).trans R0.out
  have y1 := (hbz.block (w1.heap.size + 1) hls).trans R1.out
  have y2 := (hbf.block (w.heap.size + 1 + 1) (by omega)).trans Q2.out
  have y3 := (hbf.block (w.heap.size + 1 + 1 + 1) (by omega)).trans Q3.out
  rw [← hWZ]
  clear hWZ m0 m1 m2 m3 m4 m5 m6 m7 m8 m9 m10 m11 s0 s1 s2 d0 d1 d2
  obtain ⟨n0, n1, n2, n3, n4, n5, n6, n7, n8, n9, n10, n11, nl⟩ := tw_cells (y0)
  obtain ⟨t0, t1, t2, ft0, ft1, ft2, hlt⟩ := three_cells y1
  obtain ⟨g0, g1, g2, g3, g4, g5, g6, g7, g8, g9, g10, g11, gl⟩ := tw_cells (y2)
  obtain ⟨fg0, fg1, fg2, fg3, fg4, fg5, fg6, fg7, fg8, fg9, fg10, fg11⟩ := tw_frozen y2
  obtain ⟨h0, h1', h2, fh0, fh1, fh2, hlh⟩ := three_cells y3
  clear y0 y1 y2 y3 ft0 ft1 ft2 hbz hbf hb2 hbWB hb1
  refine wp_mixC (KeepB [w1.heap.size, w1.heap.size + 1] wz) 5 [.q [0, 1, 2], .f [3, 4]] [.q [5]] (by kernel_rfl) (by kernel_rfl) ((KeepB.refl (by first | (simp; done) | (simp; omega))).drew) ?_
  intro Q' hQ'
  (rw [wpMixC]; simp only [pick, List.drop_succ_cons, List.drop_zero, List.head?_cons, Option.toList_some, List.cons_append, List.nil_append])
  (repeat (first | go_big_quiet_skip | (go_big_quiet_want; refine quiet_simple rfl ?_; go_big_quiet_op; go_big_quiet_on) | (go_big_quiet_want; refine quiet_agg12K (ty := 134) rfl rfl (by kernel_rfl) (by assumption) (by assumption) (by assumption) (by assumption) (by assumption) (by assumption) (by assumption) (by assumption) (by assumption) (by assumption) (by assumption) (by assumption) (by simp) ?_; simp only [Act.put, List.setIfInBounds_toArray, List.set_cons_succ, List.set_cons_zero]; go_big_quiet_on) | (go_big_quiet_want; refine quiet_agg3K (ty := 135) rfl rfl (by kernel_rfl) (by assumption) (by assumption) (by assumption) (by simp) ?_; simp only [Act.put, List.setIfInBounds_toArray, List.set_cons_succ, List.set_cons_zero]; go_big_quiet_on)))
  (try refine wpQuiet_nil ?_)
  (rw [wpMixC]; simp only [pick, List.drop_succ_cons, List.drop_zero, List.head?_cons, Option.toList_some, List.cons_append, List.nil_append])
  (rw [wpSteps]; go_wp2_with (fail); rw [contF]; refine ⟨?_, ?_⟩; (next => exact KeepA))
  (rw [wpSteps]; go_wp2_with (fail); rw [contF]; refine ⟨?_, ?_⟩; (next => exact KeepA))
  (rw [wpSteps])
  (rw [wpMixC])
  (rw [wpMix]; simp only [pick, List.drop_succ_cons, List.drop_zero, List.head?_cons, Option.toList_some, List.cons_append, List.nil_append])
  (repeat (first | (go_big_quiet_step (fail)) | (quiet_step (fail))))
  (try refine wpQuiet_nil ?_)
  (rw [wpMix])
  (refine hQ' _ _ ?_)
  go_wp2_with fail
  ((try simp only [Exit.inBlock, Exit.then]); refine bodyPost_ret (v := .tuple #[.agg #[.int .i64 px, .int .i64 py, .int .i64 pz, .int .i64 tm, .int .i64 tk, .int .i64 lo, .int .i64 hi, .int .i64 li, .int .i64 ea, .int .i64 la, .int .i64 no, .int .i64 mi], .agg #[.int .i64 sx, .int .i64 sy, .int .i64 sz], .int .i64 (unl PB 24)]) ?_ rfl ?_; (next => simp [results, Try.results73, go_sem, gl, hlh, g0, g1, g2, g3, g4, g5, g6, g7, g8, g9, g10, g11, h0, h1', h2]); refine ⟨?_, ?_⟩; (next => rw [HI.out.2]); (next => exact BelowA))
 ·have hne : (E1 == 0) = false := by simpa using h1
  have HI : Hid (E = E1) := hid (HE.out.1 h1)
  clear h1
  go_enter Try.func73, Try.ntmps73
  go_wp2_with (first | (go_at_call 119; rw [← hW0]; refine (HO.out _).mono ?_; rintro _ w1 ⟨rfl, hb1⟩; have hz1 := hb1.size; obtain ⟨d0, d1, d2, fd0, fd1, fd2, hl1⟩ := three_cells ((hb1.block (w.heap.size + 1) (by omega)).trans Q1.out); clear fd0 fd1 fd2) | (go_at_call 102; obtain ⟨WB, hWB⟩ : ∃ WB, WB = (w1.alloc (.cells #[.int .i64 px, .int .i64 py, .int .i64 pz, .int .i64 tm, .int .i64 tk, .int .i64 lo, .int .i64 hi, .int .i64 li, .int .i64 ea, .int .i64 la, .int .i64 no, .int .i64 mi] 134)).alloc (.cells #[.int .i64 sx, .int .i64 sy, .int .i64 sz] 135) := ⟨_, rfl⟩; rw [← hWB]; have hbWB : Below w1.heap.size w1 WB := (by rw [hWB]; exact BelowA); obtain ⟨r0, r1, hr0, hr1⟩ := al2 w1 _ _ _ _ WB hWB; clear hWB; refine (HF.out _).mono ?_; rintro _ w2 ⟨rfl, hb2⟩; have R0 := hid ((hb2.block w1.heap.size hr0).trans r0); have R1 := hid ((hb2.block (w1.heap.size + 1) hr1).trans r1); obtain ⟨m0, m1, m2, m3, m4, m5, m6, m7, m8, m9, m10, m11, ml⟩ := tw_cells (R0.out); obtain ⟨s0, s1, s2, fs0, fs1, fs2, hls⟩ := three_cells R1.out; clear fs0 fs1 fs2 r0 r1) | (go_at_call 72; refine (track_unless _ _ _).mono ?_; rintro _ _ ⟨rfl, rfl⟩) | (go_at_call 69; refine (HFI.out _ _ (intsAt_new _ _ _ _ _ rfl (by simp) (by first | rfl | simp))).mono ?_; rintro _ _ ⟨rfl, rfl⟩))
  obtain ⟨wz, hWZ⟩ : ∃ wz, wz = w2.alloc (.cells #[.int .i64 EM, .int .i64 (unl IS 2)] 30) := ⟨_, rfl⟩
  have hbz : Below w2.heap.size w2 wz := by rw [hWZ]; exact BelowA
  have hbf : Below W0.heap.size W0 wz := ((hb1.trans (hbWB.mono (by omega))).trans (hb2.mono (by have := hbWB.size; omega))).trans (hbz.mono (by have := hbWB.size; have := hb2.size; omega))
  have hbg : Below w.heap.size w wz := hbW0.trans (hbf.mono (by omega))
  have y0 := (hbz.block w1.heap.size ml).trans R0.out
  have y1 := (hbz.block (w1.heap.size + 1) hls).trans R1.out
  have y2 := (hbf.block (w.heap.size + 1 + 1) (by omega)).trans Q2.out
  have y3 := (hbf.block (w.heap.size + 1 + 1 + 1) (by omega)).trans Q3.out
  rw [← hWZ]
  clear hWZ m0 m1 m2 m3 m4 m5 m6 m7 m8 m9 m10 m11 s0 s1 s2 d0 d1 d2
  obtain ⟨n0, n1, n2, n3, n4, n5, n6, n7, n8, n9, n10, n11, nl⟩ := tw_cells (y0)
  obtain ⟨t0, t1, t2, ft0, ft1, ft2, hlt⟩ := three_cells y1
  obtain ⟨g0, g1, g2, g3, g4, g5, g6, g7, g8, g9, g10, g11, gl⟩ := tw_cells (y2)
  obtain ⟨fg0, fg1, fg2, fg3, fg4, fg5, fg6, fg7, fg8, fg9, fg10, fg11⟩ := tw_frozen y2
  obtain ⟨h0, h1', h2, fh0, fh1, fh2, hlh⟩ := three_cells y3
  clear y0 y1 y2 y3 ft0 ft1 ft2 hbz hbf hb2 hbWB hb1
  refine wp_mixC (KeepB [w1.heap.size, w1.heap.size + 1] wz) 5 [.q [0, 1, 2], .f [3, 4]] [.q [5]] (by kernel_rfl) (by kernel_rfl) ((KeepB.refl (by first | (simp; done) | (simp; omega))).drew) ?_
  intro Q' hQ'
  (rw [wpMixC]; simp only [pick, List.drop_succ_cons, List.drop_zero, List.head?_cons, Option.toList_some, List.cons_append, List.nil_append])
  (repeat (first | go_big_quiet_skip | (go_big_quiet_want; refine quiet_simple rfl ?_; go_big_quiet_op; go_big_quiet_on) | (go_big_quiet_want; refine quiet_agg12K (ty := 134) rfl rfl (by kernel_rfl) (by assumption) (by assumption) (by assumption) (by assumption) (by assumption) (by assumption) (by assumption) (by assumption) (by assumption) (by assumption) (by assumption) (by assumption) (by simp) ?_; simp only [Act.put, List.setIfInBounds_toArray, List.set_cons_succ, List.set_cons_zero]; go_big_quiet_on) | (go_big_quiet_want; refine quiet_agg3K (ty := 135) rfl rfl (by kernel_rfl) (by assumption) (by assumption) (by assumption) (by simp) ?_; simp only [Act.put, List.setIfInBounds_toArray, List.set_cons_succ, List.set_cons_zero]; go_big_quiet_on)))
  (try refine wpQuiet_nil ?_)
  (rw [wpMixC]; simp only [pick, List.drop_succ_cons, List.drop_zero, List.head?_cons, Option.toList_some, List.cons_append, List.nil_append])
  (rw [wpSteps]; go_wp2_with (fail); rw [contF]; refine ⟨?_, ?_⟩; (next => exact KeepA))
  (rw [wpSteps]; go_wp2_with (fail); rw [contF]; refine ⟨?_, ?_⟩; (next => exact KeepA))
  (rw [wpSteps])
  (rw [wpMixC])
  (rw [wpMix]; simp only [pick, List.drop_succ_cons, List.drop_zero, List.head?_cons, Option.toList_some, List.cons_append, List.nil_append])
  (repeat (first | (go_big_quiet_step (fail)) | (quiet_step (fail))))
  (try refine wpQuiet_nil ?_)
  (rw [wpMix])
  (refine hQ' _ _ ?_)
  go_wp2_with fail
  ((try simp only [Exit.inBlock, Exit.then]); refine bodyPost_ret (v := .tuple #[.agg #[.int .i64 px, .int .i64 py, .int .i64 pz, .int .i64 tm, .int .i64 tk, .int .i64 lo, .int .i64 hi, .int .i64 li, .int .i64 ea, .int .i64 la, .int .i64 no, .int .i64 mi], .agg #[.int .i64 sx, .int .i64 sy, .int .i64 sz], .int .i64 E1]) ?_ rfl ?_; (next => simp [results, Try.results73, go_sem, gl, hlh, g0, g1, g2, g3, g4, g5, g6, g7, g8, g9, g10, g11, h0, h1', h2]); refine ⟨?_, ?_⟩; (next => rw [HI.out]); (next => exact BelowA))
end Go.Proofs.Ytlmdmpjfehpjeaa
set_option linter.unusedVariables false
set_option linter.unusedSimpArgs false
namespace Go.Proofs.Ytlmdmpjfehpjeaa
open Go.RowKit
theorem first_rg (m : TMod) (s p : V3) : -1000001 ≤ m.first s p ∧ m.first s p ≤ 1000001 := by
 obtain ⟨a1, a2, _, _⟩ := fstN_spec (m.reached s p) 2000002 (-1000001)
 unfold TMod.first; omega
theorem half_rg {a b : Int} (h : a < b) : a ≤ (a + b) / 2 ∧ (a + b) / 2 < b := by omega
end Go.Proofs.Ytlmdmpjfehpjeaa
set_option linter.unusedVariables false
set_option linter.unusedSimpArgs false
namespace Go.Proofs.Ytlmdmpjfehpjeaa
open Go.RowKit
structure Three (m : TMod) (s p : V3) (b0 b1 b2 : Nat) (W : World) : Prop where
 r0 : W.heap[b0]? = some (.cells #[.int .i64 m.px, .int .i64 m.py, .int .i64 m.pz, .int .i64 m.tm, .int .i64 m.tk, .int .i64 m.lo, .int .i64 m.hi, .int .i64 m.li, .int .i64 m.ea, .int .i64 m.la, .int .i64 m.no, .int .i64 m.mi] 134 (0, 0))
 r1 : W.heap[b1]? = some (.cells #[.int .i64 s.x, .int .i64 s.y, .int .i64 s.z] 135 (0, 0))
 r2 : W.heap[b2]? = some (.cells #[.int .i64 p.x, .int .i64 p.y, .int .i64 p.z] 22 (0, 0))
theorem Three.below {m : TMod} {s p : V3} {b0 b1 b2 : Nat} {W W' : World} (h : Three m s p b0 b1 b2 W) (hb : Below W.heap.size W W') : Three m s p b0 b1 b2 W' :=
 ⟨(hb.block _ (Array.getElem?_eq_some_iff.1 h.r0).1).trans h.r0, (hb.block _ (Array.getElem?_eq_some_iff.1 h.r1).1).trans h.r1, (hb.block _ (Array.getElem?_eq_some_iff.1 h.r2).1).trans h.r2⟩
set_option maxRecDepth 100000 in
set_option maxHeartbeats 4000000 in
theorem track_firstAt1 (m : TMod) (s p : V3) (b0 b1 b2 : Nat) (i : Int) (W : World) (h : Three m s p b0 b1 b2 W) (ho : m.Ok) (hs : s.inS 20 = true) (hpm : m.permit s) (hp : p.inS 1000 = true) (h1 : 0 ≤ i) (h2 : i ≤ 2000001) :
  Calls Try.prog 123 #[.int .i64 i, .pointer (some ⟨b0, 0, none⟩), .pointer (some ⟨b1, 0, none⟩), .pointer (some ⟨b2, 0, none⟩)] W fun e w' => e = .returned (.bool (decide (m.first s p + 1000001 ≤ i))) ∧ Below W.heap.size W w' := by
 have hsl : m.slow < s.dot s := by have := ho.slo; have := hpm.1; omega
 have HR : Hid (∀ W, Calls Try.prog 75 #[m.v, s.v, .agg #[.int .i64 p.x, .int .i64 p.y, .int .i64 p.z, .int .i64 (i - 1000000 - 1)]] W fun e w' => e = .returned (.bool (decide (m.first s p + 1000001 ≤ i))) ∧ Below W.heap.size W w') := hid (fun W => by
  have h := track_reached m s p (i - 1000000 - 1) W ho hs hpm hp ⟨by omega, by omega⟩
  rw [first_spec m s p ho.slp hsl (by omega) (by omega)] at h
  rwa [show decide (m.first s p ≤ i - 1000000 - 1) = decide (m.first s p + 1000001 ≤ i) from decide_eq_decide.2 (by omega)] at h)
 obtain ⟨m0, m1, m2, m3, m4, m5, m6, m7, m8, m9, m10, m11, ml⟩ := tw_cells (h.r0)
 obtain ⟨a0, a1, a2, fa0, fa1, fa2, hla⟩ := three_cells h.r1
 obtain ⟨p0, p1, p2, fp0, fp1, fp2, hlp⟩ := three_cells h.r2
 clear fa0 fa1 fa2 fp0 fp1 fp2 h
 generalize m.first s p = F at HR ⊢
 obtain ⟨px, py, pz, tm, tk, lo, hi, li, ea, la, no, mi⟩ := m
 obtain ⟨sx, sy, sz⟩ := s
 obtain ⟨qx, qy, qz⟩ := p
 unfold TMod.v V3.v at *
 simp only at *
 clear ho hs hpm hp hsl
 go_enter Try.func123, Try.ntmps123
 go_wp2_with (go_at_call 75; refine (HR.out _).mono ?_; rintro _ w1 ⟨rfl, hb1⟩)
 go_ret
 exact ⟨rfl, hb1⟩
set_option maxRecDepth 100000 in
set_option maxHeartbeats 4000000 in
theorem track_Search (m : TMod) (s p : V3) (b0 b1 b2 : Nat) (w : World) (h : Three m s p b0 b1 b2 w) (ho : m.Ok) (hs : s.inS 20 = true) (hpm : m.permit s) (hp : p.inS 1000 = true) :
  Calls Try.prog 122 #[.int .i64 2000002, .func (.func 123) #[] #[.pointer (some ⟨b0, 0, none⟩), .pointer (some ⟨b1, 0, none⟩), .pointer (some ⟨b2, 0, none⟩)]] w fun e w' => e = .returned (.int .i64 (m.first s p + 1000001)) ∧ Below w.heap.size w w' := by
 have HC : Hid (∀ (i : Int) (W : World), Below w.heap.size w W → 0 ≤ i → i ≤ 2000001 → Calls Try.prog 123 #[.int .i64 i, .pointer (some ⟨b0, 0, none⟩), .pointer (some ⟨b1, 0, none⟩), .pointer (some ⟨b2, 0, none⟩)] W fun e w' => e = .returned (.bool (decide (m.first s p + 1000001 ≤ i))) ∧ Below W.heap.size W w') := hid (fun i W hb h1 h2 => track_firstAt1 m s p b0 b1 b2 i W (h.below hb) ho hs hpm hp h1 h2)
 have hF := first_rg m s p
 generalize m.first s p = F at HC hF ⊢
 clear h ho hs hpm hp
 go_enter Try.func122, Try.ntmps122
 go_wp2_with fail
 go_loopw [5, 6] (fun x y wr => ∃ a b : Int, x = .int .i64 a ∧ y = .int .i64 b ∧ 0 ≤ a ∧ a ≤ F + 1000001 ∧ F + 1000001 ≤ b ∧ b ≤ 2000002 ∧ Below w.heap.size w wr) (fun x y _ => (intOf y - intOf x).toNat)
 case atStart => exact ⟨0, 2000002, rfl, rfl, by omega, by omega, by omega, by omega, Below.refl _ _⟩
 case round =>
  obtain ⟨a, b, rfl, rfl, ha, haF, hFb, hb, hbel⟩ := hrel
  by_cases hlt : a < b
  ·obtain ⟨g1, g2⟩ := half_rg hlt
   have g0 : 0 ≤ a + b := by omega
   by_cases hM : F + 1000001 ≤ (a + b) / 2
   ·go_wp2_with (go_at_call 123; refine (HC.out _ _ hbel (by omega) (by omega)).mono ?_; rintro _ w1 ⟨rfl, hb1⟩)
    go_roundw
    case rel => exact ⟨a, (a + b) / 2, rfl, rfl, ha, haF, hM, by omega, hbel.trans (hb1.mono hbel.size)⟩
    case measure => simp [intOf]; omega
   ·have hM' : decide (F + 1000001 ≤ (a + b) / 2) = false := decide_eq_false hM
    go_wp2_with (go_at_call 123; refine (HC.out _ _ hbel (by omega) (by omega)).mono ?_; rintro _ w1 ⟨rfl, hb1⟩)
    go_roundw
    case rel => exact ⟨(a + b) / 2 + 1, b, by go_num, rfl, by omega, by omega, hFb, hb, hbel.trans (hb1.mono hbel.size)⟩
    case measure => simp [intOf]; omega
  ·obtain rfl : a = F + 1000001 := by omega
   go_wp2_with fail
   go_ret
   exact ⟨rfl, hbel⟩
set_option maxRecDepth 100000 in
set_option maxHeartbeats 4000000 in
theorem track_mFirstAt (m : TMod) (s p : V3) (w : World) (ho : m.Ok) (hs : s.inS 20 = true) (hpm : m.permit s) (hp : p.inS 1000 = true) :
  Calls Try.prog 76 #[m.v, s.v, p.v] w fun e w' => e = .returned (.tuple #[.int .i64 (m.first s p), .bool (inB (m.first s p) (-1000000) 1000000)]) ∧ Below w.heap.size w w' := by
 have hF := first_rg m s p
 have HS : Hid (∀ W, Three m s p w.heap.size (w.heap.size + 1) (w.heap.size + 1 + 1) W → Calls Try.prog 122 #[.int .i64 2000002, .func (.func 123) #[] #[.pointer (some ⟨w.heap.size, 0, none⟩), .pointer (some ⟨w.heap.size + 1, 0, none⟩), .pointer (some ⟨w.heap.size + 1 + 1, 0, none⟩)]] W fun e w' => e = .returned (.int .i64 (m.first s p + 1000001)) ∧ Below W.heap.size W w') := hid (fun W h => track_Search m s p _ _ _ W h ho hs hpm hp)
 obtain ⟨W0, hW0⟩ : ∃ W0, W0 = ((w.alloc (.cells #[.int .i64 m.px, .int .i64 m.py, .int .i64 m.pz, .int .i64 m.tm, .int .i64 m.tk, .int .i64 m.lo, .int .i64 m.hi, .int .i64 m.li, .int .i64 m.ea, .int .i64 m.la, .int .i64 m.no, .int .i64 m.mi] 134)).alloc (.cells #[.int .i64 s.x, .int .i64 s.y, .int .i64 s.z] 135)).alloc (.cells #[.int .i64 p.x, .int .i64 p.y, .int .i64 p.z] 22) := ⟨_, rfl⟩
 have hbW0 : Below w.heap.size w W0 := by rw [hW0]; exact BelowA
 obtain ⟨q0, q1, q2⟩ := al3 w _ _ _ _ _ _ W0 hW0
 have HS2 := hid (HS.out W0 ⟨q0, q1, q2⟩)
 clear HS q0 q1 q2
 generalize m.first s p = F at HS2 hF ⊢
 obtain ⟨px, py, pz, tm, tk, lo, hi, li, ea, la, no, mi⟩ := m
 obtain ⟨sx, sy, sz⟩ := s
 obtain ⟨qx, qy, qz⟩ := p
 unfold TMod.v V3.v at *
 simp only at *
 clear ho hs hpm hp
 go_enter Try.func76, Try.ntmps76
 go_wp2_with (first | (go_at_call 122; rw [← hW0]; refine HS2.out.mono ?_; rintro _ w1 ⟨rfl, hb1⟩) | (go_at_call 68; refine (track_within _ _ _ _).mono ?_; rintro _ _ ⟨rfl, rfl⟩))
 have hFF : F + 1000001 - 1000000 - 1 = F := by omega
 ((try simp only [Exit.inBlock, Exit.then]); refine bodyPost_ret (v := .tuple #[.int .i64 F, .bool (inB F (-1000000) 1000000)]) ?_ rfl ?_; (next => simp [results, Try.results76, go_sem, hFF]); refine ⟨?_, ?_⟩; (next => rfl); (next => exact BelowA))
end Go.Proofs.Ytlmdmpjfehpjeaa
set_option linter.unusedVariables false
set_option linter.unusedSimpArgs false
namespace Go.Proofs.Ytlmdmpjfehpjeaa
open Go.RowKit
theorem two_zero {a b : Int} (h : firstNZ [a, b] = 0) : a = 0 ∧ b = 0 := by
 rw [firstNZ_cons, firstNZ_cons] at h; exact ⟨h.1, h.2.1⟩
theorem plE_ok {p : V3} (h : plE p = 0) : p.inS 1000 = true := by
 unfold plE at h; rwa [unl_zero (by decide)] at h
theorem momE_ok {p : V3} {t : Int} (h : momE p t = 0) : p.inS 1000 = true ∧ -1000000 ≤ t ∧ t ≤ 1000000 := by
 unfold momE at h
 obtain ⟨h1, h2⟩ := two_zero h
 rw [unl_zero (by decide)] at h2
 exact ⟨plE_ok h1, inB_true.1 h2⟩
theorem four_row {w : World} {g : Nat} {x y z u : Value} {t : TypeId} (h : w.heap[g]? = some (.cells #[x, y, z, u] t (0, 0))) :
  w.cell? ⟨g, 0, none⟩ = some x ∧ w.cell? ⟨g, 1, none⟩ = some y ∧ w.cell? ⟨g, 2, none⟩ = some z ∧ w.cell? ⟨g, 3, none⟩ = some u ∧ g < w.heap.size := by
 refine ⟨?_, ?_, ?_, ?_, (Array.getElem?_eq_some_iff.1 h).1⟩
 ·rw [cell_of_row w g 0 _ t (0, 0) h]; rfl
 ·rw [cell_of_row w g 1 _ t (0, 0) h]; rfl
 ·rw [cell_of_row w g 2 _ t (0, 0) h]; rfl
 ·rw [cell_of_row w g 3 _ t (0, 0) h]; rfl
set_option maxRecDepth 100000 in
set_option maxHeartbeats 4000000 in
theorem track_ReachedBy (m : TMod) (s p : V3) (t : Int) (w : World) :
  Calls Try.prog 15 #[m.v, s.v, .agg #[.int .i64 p.x, .int .i64 p.y, .int .i64 p.z, .int .i64 t]] w fun e w' => (firstNZ [m.both s, momE p t] = 0 → e = .returned (.tuple #[.bool (m.reached s p t), .int .i64 0])) ∧ (firstNZ [m.both s, momE p t] ≠ 0 → e = .returned (.tuple #[.bool false, .int .i64 (firstNZ [m.both s, momE p t])])) ∧ Below w.heap.size w w' := by
 have HO : Hid (∀ W, Calls Try.prog 73 #[m.v, s.v] W fun e w' => e = .returned (.tuple #[m.v, s.v, .int .i64 (m.both s)]) ∧ Below W.heap.size W w') := hid (fun W => track_openStep m s W)
 have HM : Hid (∀ W, Calls Try.prog 74 #[.agg #[.int .i64 p.x, .int .i64 p.y, .int .i64 p.z, .int .i64 t]] W fun e w' => e = .returned (.int .i64 (momE p t)) ∧ Below W.heap.size W w') := hid (fun W => track_momentErr p t W)
 have HFI : Hid (∀ v w, IntsAt w v [m.both s, momE p t] → Calls Try.prog 69 #[v] w fun e w' => e = .returned (.int .i64 (firstNZ [m.both s, momE p t])) ∧ w = w') := hid (fun v w h => track_first _ v w h)
 have HR : Hid (firstNZ [m.both s, momE p t] = 0 → ∀ W, Calls Try.prog 75 #[m.v, s.v, .agg #[.int .i64 p.x, .int .i64 p.y, .int .i64 p.z, .int .i64 t]] W fun e w' => e = .returned (.bool (m.reached s p t)) ∧ Below W.heap.size W w') := hid (fun h W => by
  obtain ⟨h1, h2⟩ := two_zero h
  obtain ⟨o1, o2, o3, o4⟩ := both_ok h1
  obtain ⟨g1, g2⟩ := momE_ok h2
  exact track_reached m s p t W o1 o2 o3 g1 ⟨by omega, by omega⟩)
 generalize firstNZ [m.both s, momE p t] = E1 at HFI HR ⊢
 generalize m.both s = EB at HO HFI
 generalize momE p t = EM at HM HFI
 generalize m.reached s p t = R at HR ⊢
 obtain ⟨px, py, pz, tm, tk, lo, hi, li, ea, la, no, mi⟩ := m
 obtain ⟨sx, sy, sz⟩ := s
 obtain ⟨qx, qy, qz⟩ := p
 unfold TMod.v V3.v at *
 simp only at *
 obtain ⟨W0, hW0⟩ : ∃ W0, W0 = ((w.alloc (.cells #[.int .i64 px, .int .i64 py, .int .i64 pz, .int .i64 tm, .int .i64 tk, .int .i64 lo, .int .i64 hi, .int .i64 li, .int .i64 ea, .int .i64 la, .int .i64 no, .int .i64 mi] 26)).alloc (.cells #[.int .i64 sx, .int .i64 sy, .int .i64 sz] 22)).alloc (.cells #[.int .i64 qx, .int .i64 qy, .int .i64 qz, .int .i64 t] 28) := ⟨_, rfl⟩
 have hbW0 : Below w.heap.size w W0 := by rw [hW0]; exact BelowA
 obtain ⟨q0, q1, q2⟩ := al3 w _ _ _ _ _ _ W0 hW0
 have l2 := (Array.getElem?_eq_some_iff.1 q2).1
 have Q2 := hid q2
 clear q0 q1 q2
 have hcase : E1 = 0 ∨ E1 ≠ 0 := by omega
 rcases hcase with h1 | h1
 ·subst h1
  have HR2 := hid (HR.out rfl)
  go_enter Try.func15, Try.ntmps15
  go_wp2_with (first | (go_at_call 73; rw [← hW0]; refine (HO.out _).mono ?_; rintro _ w1 ⟨rfl, hb1⟩; have hz1 := hb1.size; obtain ⟨c0, c1, c2, c3, hl2⟩ := four_row ((hb1.block (w.heap.size + 1 + 1) l2).trans Q2.out); have hl2' : w.heap.size + 1 + 1 < w1.heap.size + 1 := Nat.lt_succ_of_lt hl2) | (go_at_call 74; obtain ⟨WB, hWB⟩ : ∃ WB, WB = (w1.alloc (.cells #[.int .i64 px, .int .i64 py, .int .i64 pz, .int .i64 tm, .int .i64 tk, .int .i64 lo, .int .i64 hi, .int .i64 li, .int .i64 ea, .int .i64 la, .int .i64 no, .int .i64 mi] 134)).alloc (.cells #[.int .i64 sx, .int .i64 sy, .int .i64 sz] 135) := ⟨_, rfl⟩; rw [← hWB]; have hbWB : Below w1.heap.size w1 WB := (by rw [hWB]; exact BelowA); obtain ⟨r0, r1, hr0, hr1⟩ := al2 w1 _ _ _ _ WB hWB; clear hWB; refine (HM.out _).mono ?_; rintro _ w2 ⟨rfl, hb2⟩; have hb12 : Below W0.heap.size W0 w2 := (hb1.trans (hbWB.mono hz1)).trans (hb2.mono (Nat.le_trans hz1 hbWB.size)); have HB12 := hid hb12; have R0 := hid ((hb2.block w1.heap.size hr0).trans r0); have R1 := hid ((hb2.block (w1.heap.size + 1) hr1).trans r1); obtain ⟨m0, m1, m2, m3, m4, m5, m6, m7, m8, m9, m10, m11, ml⟩ := tw_cells (R0.out); obtain ⟨s0, s1, s2, fs0, fs1, fs2, hls⟩ := three_cells R1.out; clear fs0 fs1 fs2 r0 r1 hl2' c0 c1 c2 c3 hl2; obtain ⟨c0, c1, c2, c3, hl2⟩ := four_row ((HB12.out.block (w.heap.size + 1 + 1) l2).trans Q2.out); have hbf : Below w.heap.size w w2 := hbW0.trans (hb12.mono (by have := hbW0.size; omega))) | (go_at_call 69; refine (HFI.out _ _ (intsAt_new _ _ _ _ _ rfl (by simp) (by first | rfl | simp))).mono ?_; rintro _ _ ⟨rfl, rfl⟩) | (go_at_call 75; refine (HR2.out _).mono ?_; rintro _ w3 ⟨rfl, hb3⟩))
  ((try simp only [Exit.inBlock, Exit.then]); refine bodyPost_ret (v := .tuple #[.bool R, .int .i64 0]) ?_ rfl ?_; (next => simp [results, Try.results15, go_sem]))
  exact ⟨fun _ => rfl, fun h => absurd rfl h, by exact BelowA⟩
 ·have hne : (E1 != 0) = true := by simpa using h1
  have HN := hid h1
  clear h1
  go_enter Try.func15, Try.ntmps15
  go_wp2_with (first | (go_at_call 73; rw [← hW0]; refine (HO.out _).mono ?_; rintro _ w1 ⟨rfl, hb1⟩; have hz1 := hb1.size; obtain ⟨c0, c1, c2, c3, hl2⟩ := four_row ((hb1.block (w.heap.size + 1 + 1) l2).trans Q2.out); have hl2' : w.heap.size + 1 + 1 < w1.heap.size + 1 := Nat.lt_succ_of_lt hl2) | (go_at_call 74; obtain ⟨WB, hWB⟩ : ∃ WB, WB = (w1.alloc (.cells #[.int .i64 px, .int .i64 py, .int .i64 pz, .int .i64 tm, .int .i64 tk, .int .i64 lo, .int .i64 hi, .int .i64 li, .int .i64 ea, .int .i64 la, .int .i64 no, .int .i64 mi] 134)).alloc (.cells #[.int .i64 sx, .int .i64 sy, .int .i64 sz] 135) := ⟨_, rfl⟩; rw [← hWB]; have hbWB : Below w1.heap.size w1 WB := (by rw [hWB]; exact BelowA); obtain ⟨r0, r1, hr0, hr1⟩ := al2 w1 _ _ _ _ WB hWB; clear hWB; refine (HM.out _).mono ?_; rintro _ w2 ⟨rfl, hb2⟩; have hb12 : Below W0.heap.size W0 w2 := (hb1.trans (hbWB.mono hz1)).trans (hb2.mono (Nat.le_trans hz1 hbWB.size)); have HB12 := hid hb12; have R0 := hid ((hb2.block w1.heap.size hr0).trans r0); have R1 := hid ((hb2.block (w1.heap.size + 1) hr1).trans r1); obtain ⟨m0, m1, m2, m3, m4, m5, m6, m7, m8, m9, m10, m11, ml⟩ := tw_cells (R0.out); obtain ⟨s0, s1, s2, fs0, fs1, fs2, hls⟩ := three_cells R1.out; clear fs0 fs1 fs2 r0 r1 hl2' c0 c1 c2 c3 hl2; obtain ⟨c0, c1, c2, c3, hl2⟩ := four_row ((HB12.out.block (w.heap.size + 1 + 1) l2).trans Q2.out); have hbf : Below w.heap.size w w2 := hbW0.trans (hb12.mono (by have := hbW0.size; omega))) | (go_at_call 69; refine (HFI.out _ _ (intsAt_new _ _ _ _ _ rfl (by simp) (by first | rfl | simp))).mono ?_; rintro _ _ ⟨rfl, rfl⟩))
  ((try simp only [Exit.inBlock, Exit.then]); refine bodyPost_ret (v := .tuple #[.bool false, .int .i64 E1]) ?_ rfl ?_; (next => simp [results, Try.results15, go_sem]))
  exact ⟨fun h => absurd h HN.out, fun _ => rfl, by exact BelowA⟩
set_option maxRecDepth 100000 in
set_option maxHeartbeats 4000000 in
theorem track_FirstAt (m : TMod) (s p : V3) (w : World) :
  Calls Try.prog 16 #[m.v, s.v, p.v] w fun e w' => (firstNZ [m.both s, plE p] = 0 → inB (m.first s p) (-1000000) 1000000 = true → e = .returned (.tuple #[.int .i64 (m.first s p), .int .i64 0])) ∧ (firstNZ [m.both s, plE p] = 0 → inB (m.first s p) (-1000000) 1000000 = false → e = .returned (.tuple #[.int .i64 0, .int .i64 8])) ∧ (firstNZ [m.both s, plE p] ≠ 0 → e = .returned (.tuple #[.int .i64 0, .int .i64 (firstNZ [m.both s, plE p])])) ∧ Below w.heap.size w w' := by
 have HO : Hid (∀ W, Calls Try.prog 73 #[m.v, s.v] W fun e w' => e = .returned (.tuple #[m.v, s.v, .int .i64 (m.both s)]) ∧ Below W.heap.size W w') := hid (fun W => track_openStep m s W)
 have HM : Hid (∀ W, Calls Try.prog 70 #[p.v] W fun e w' => e = .returned (.int .i64 (plE p)) ∧ Below W.heap.size W w') := hid (fun W => track_placeErr p W)
 have HFI : Hid (∀ v w, IntsAt w v [m.both s, plE p] → Calls Try.prog 69 #[v] w fun e w' => e = .returned (.int .i64 (firstNZ [m.both s, plE p])) ∧ w = w') := hid (fun v w h => track_first _ v w h)
 have HR : Hid (firstNZ [m.both s, plE p] = 0 → ∀ W, Calls Try.prog 76 #[m.v, s.v, p.v] W fun e w' => e = .returned (.tuple #[.int .i64 (m.first s p), .bool (inB (m.first s p) (-1000000) 1000000)]) ∧ Below W.heap.size W w') := hid (fun h W => by
  obtain ⟨h1, h2⟩ := two_zero h
  obtain ⟨o1, o2, o3, o4⟩ := both_ok h1
  exact track_mFirstAt m s p W o1 o2 o3 (plE_ok h2))
 generalize firstNZ [m.both s, plE p] = E1 at HFI HR ⊢
 generalize m.both s = EB at HO HFI
 generalize plE p = EM at HM HFI
 generalize hB : inB (m.first s p) (-1000000) 1000000 = B at HR ⊢
 clear hB
 generalize m.first s p = FF at HR ⊢
 obtain ⟨px, py, pz, tm, tk, lo, hi, li, ea, la, no, mi⟩ := m
 obtain ⟨sx, sy, sz⟩ := s
 obtain ⟨qx, qy, qz⟩ := p
 unfold TMod.v V3.v at *
 simp only at *
 obtain ⟨W0, hW0⟩ : ∃ W0, W0 = ((w.alloc (.cells #[.int .i64 px, .int .i64 py, .int .i64 pz, .int .i64 tm, .int .i64 tk, .int .i64 lo, .int .i64 hi, .int .i64 li, .int .i64 ea, .int .i64 la, .int .i64 no, .int .i64 mi] 26)).alloc (.cells #[.int .i64 sx, .int .i64 sy, .int .i64 sz] 22)).alloc (.cells #[.int .i64 qx, .int .i64 qy, .int .i64 qz] 22) := ⟨_, rfl⟩
 have hbW0 : Below w.heap.size w W0 := by rw [hW0]; exact BelowA
 obtain ⟨q0, q1, q2⟩ := al3 w _ _ _ _ _ _ W0 hW0
 have l2 := (Array.getElem?_eq_some_iff.1 q2).1
 have Q2 := hid q2
 clear q0 q1 q2
 have hcase : E1 = 0 ∨ E1 ≠ 0 := by omega
 rcases hcase with h1 | h1
 ·subst h1
  have HR2 := hid (HR.out rfl)
  cases B
  ·go_enter Try.func16, Try.ntmps16
   go_wp2_with (first | (go_at_call 73; rw [← hW0]; refine (HO.out _).mono ?_; rintro _ w1 ⟨rfl, hb1⟩; have hz1 := hb1.size; obtain ⟨c0, c1, c2, fc0, fc1, fc2, hl2⟩ := three_cells ((hb1.block (w.heap.size + 1 + 1) l2).trans Q2.out); have hl2' : w.heap.size + 1 + 1 < w1.heap.size + 1 := Nat.lt_succ_of_lt hl2) | (go_at_call 70; obtain ⟨WB, hWB⟩ : ∃ WB, WB = (w1.alloc (.cells #[.int .i64 px, .int .i64 py, .int .i64 pz, .int .i64 tm, .int .i64 tk, .int .i64 lo, .int .i64 hi, .int .i64 li, .int .i64 ea, .int .i64 la, .int .i64 no, .int .i64 mi] 134)).alloc (.cells #[.int .i64 sx, .int .i64 sy, .int .i64 sz] 135) := ⟨_, rfl⟩; rw [← hWB]; have hbWB : Below w1.heap.size w1 WB := (by rw [hWB]; exact BelowA); obtain ⟨r0, r1, hr0, hr1⟩ := al2 w1 _ _ _ _ WB hWB; clear hWB; refine (HM.out _).mono ?_; rintro _ w2 ⟨rfl, hb2⟩; have hb12 : Below W0.heap.size W0 w2 := (hb1.trans (hbWB.mono hz1)).trans (hb2.mono (Nat.le_trans hz1 hbWB.size)); have HB12 := hid hb12; have R0 := hid ((hb2.block w1.heap.size hr0).trans r0); have R1 := hid ((hb2.block (w1.heap.size + 1) hr1).trans r1); obtain ⟨m0, m1, m2, m3, m4, m5, m6, m7, m8, m9, m10, m11, ml⟩ := tw_cells (R0.out); obtain ⟨s0, s1, s2, fs0, fs1, fs2, hls⟩ := three_cells R1.out; clear fs0 fs1 fs2 r0 r1 hl2' c0 c1 c2 fc0 fc1 fc2 hl2; obtain ⟨c0, c1, c2, fc0, fc1, fc2, hl2⟩ := three_cells ((HB12.out.block (w.heap.size + 1 + 1) l2).trans Q2.out); have hbf : Below w.heap.size w w2 := hbW0.trans (hb12.mono (by have := hbW0.size; omega))) | (go_at_call 69; refine (HFI.out _ _ (intsAt_new _ _ _ _ _ rfl (by simp) (by first | rfl | simp))).mono ?_; rintro _ _ ⟨rfl, rfl⟩) | (go_at_call 76; refine (HR2.out _).mono ?_; rintro _ w3 ⟨rfl, hb3⟩))
   ((try simp only [Exit.inBlock, Exit.then]); refine bodyPost_ret (v := .tuple #[.int .i64 0, .int .i64 8]) ?_ rfl ?_; (next => simp [results, Try.results16, go_sem]))
   exact ⟨fun _ h => absurd h (by decide), fun _ _ => rfl, fun h => absurd rfl h, by exact BelowA⟩
  ·go_enter Try.func16, Try.ntmps16
   go_wp2_with (first | (go_at_call 73; rw [← hW0]; refine (HO.out _).mono ?_; rintro _ w1 ⟨rfl, hb1⟩; have hz1 := hb1.size; obtain ⟨c0, c1, c2, fc0, fc1, fc2, hl2⟩ := three_cells ((hb1.block (w.heap.size + 1 + 1) l2).trans Q2.out); have hl2' : w.heap.size + 1 + 1 < w1.heap.size + 1 := Nat.lt_succ_of_lt hl2) | (go_at_call 70; obtain ⟨WB, hWB⟩ : ∃ WB, WB = (w1.alloc (.cells #[.int .i64 px, .int .i64 py, .int .i64 pz, .int .i64 tm, .int .i64 tk, .int .i64 lo, .int .i64 hi, .int .i64 li, .int .i64 ea, .int .i64 la, .int .i64 no, .int .i64 mi] 134)).alloc (.cells #[.int .i64 sx, .int .i64 sy, .int .i64 sz] 135) := ⟨_, rfl⟩; rw [← hWB]; have hbWB : Below w1.heap.size w1 WB := (by rw [hWB]; exact BelowA); obtain ⟨r0, r1, hr0, hr1⟩ := al2 w1 _ _ _ _ WB hWB; clear hWB; refine (HM.out _).mono ?_; rintro _ w2 ⟨rfl, hb2⟩; have hb12 : Below W0.heap.size W0 w2 := (hb1.trans (hbWB.mono hz1)).trans (hb2.mono (Nat.le_trans hz1 hbWB.size)); have HB12 := hid hb12; have R0 := hid ((hb2.block w1.heap.size hr0).trans r0); have R1 := hid ((hb2.block (w1.heap.size + 1) hr1).trans r1); obtain ⟨m0, m1, m2, m3, m4, m5, m6, m7, m8, m9, m10, m11, ml⟩ := tw_cells (R0.out); obtain ⟨s0, s1, s2, fs0, fs1, fs2, hls⟩ := three_cells R1.out; clear fs0 fs1 fs2 r0 r1 hl2' c0 c1 c2 fc0 fc1 fc2 hl2; obtain ⟨c0, c1, c2, fc0, fc1, fc2, hl2⟩ := three_cells ((HB12.out.block (w.heap.size + 1 + 1) l2).trans Q2.out); have hbf : Below w.heap.size w w2 := hbW0.trans (hb12.mono (by have := hbW0.size; omega))) | (go_at_call 69; refine (HFI.out _ _ (intsAt_new _ _ _ _ _ rfl (by simp) (by first | rfl | simp))).mono ?_; rintro _ _ ⟨rfl, rfl⟩) | (go_at_call 76; refine (HR2.out _).mono ?_; rintro _ w3 ⟨rfl, hb3⟩))
   ((try simp only [Exit.inBlock, Exit.then]); refine bodyPost_ret (v := .tuple #[.int .i64 FF, .int .i64 0]) ?_ rfl ?_; (next => simp [results, Try.results16, go_sem]))
   exact ⟨fun _ _ => rfl, fun _ h => absurd h (by decide), fun h => absurd rfl h, by exact BelowA⟩
 ·have hne : (E1 != 0) = true := by simpa using h1
  have HN := hid h1
  clear h1
  go_enter Try.func16, Try.ntmps16
  go_wp2_with (first | (go_at_call 73; rw [← hW0]; refine (HO.out _).mono ?_; rintro _ w1 ⟨rfl, hb1⟩; have hz1 := hb1.size; obtain ⟨c0, c1, c2, fc0, fc1, fc2, hl2⟩ := three_cells ((hb1.block (w.heap.size + 1 + 1) l2).trans Q2.out); have hl2' : w.heap.size + 1 + 1 < w1.heap.size + 1 := Nat.lt_succ_of_lt hl2) | (go_at_call 70; obtain ⟨WB, hWB⟩ : ∃ WB, WB = (w1.alloc (.cells #[.int .i64 px, .int .i64 py, .int .i64 pz, .int .i64 tm, .int .i64 tk, .int .i64 lo, .int .i64 hi, .int .i64 li, .int .i64 ea, .int .i64 la, .int .i64 no, .int .i64 mi] 134)).alloc (.cells #[.int .i64 sx, .int .i64 sy, .int .i64 sz] 135) := ⟨_, rfl⟩; rw [← hWB]; have hbWB : Below w1.heap.size w1 WB := (by rw [hWB]; exact BelowA); obtain ⟨r0, r1, hr0, hr1⟩ := al2 w1 _ _ _ _ WB hWB; clear hWB; refine (HM.out _).mono ?_; rintro _ w2 ⟨rfl, hb2⟩; have hb12 : Below W0.heap.size W0 w2 := (hb1.trans (hbWB.mono hz1)).trans (hb2.mono (Nat.le_trans hz1 hbWB.size)); have HB12 := hid hb12; have R0 := hid ((hb2.block w1.heap.size hr0).trans r0); have R1 := hid ((hb2.block (w1.heap.size + 1) hr1).trans r1); obtain ⟨m0, m1, m2, m3, m4, m5, m6, m7, m8, m9, m10, m11, ml⟩ := tw_cells (R0.out); obtain ⟨s0, s1, s2, fs0, fs1, fs2, hls⟩ := three_cells R1.out; clear fs0 fs1 fs2 r0 r1 hl2' c0 c1 c2 fc0 fc1 fc2 hl2; obtain ⟨c0, c1, c2, fc0, fc1, fc2, hl2⟩ := three_cells ((HB12.out.block (w.heap.size + 1 + 1) l2).trans Q2.out); have hbf : Below w.heap.size w w2 := hbW0.trans (hb12.mono (by have := hbW0.size; omega))) | (go_at_call 69; refine (HFI.out _ _ (intsAt_new _ _ _ _ _ rfl (by simp) (by first | rfl | simp))).mono ?_; rintro _ _ ⟨rfl, rfl⟩))
  ((try simp only [Exit.inBlock, Exit.then]); refine bodyPost_ret (v := .tuple #[.int .i64 0, .int .i64 E1]) ?_ rfl ?_; (next => simp [results, Try.results16, go_sem]))
  exact ⟨fun h => absurd h HN.out, fun h => absurd h HN.out, fun _ => rfl, by exact BelowA⟩
end Go.Proofs.Ytlmdmpjfehpjeaa
set_option linter.unusedVariables false
set_option linter.unusedSimpArgs false
namespace Go.Proofs.Ytlmdmpjfehpjeaa
open Go.RowKit
def THit.zero : THit := ⟨⟨0, 0, 0⟩, 0, 0⟩
def THit.cell (x : THit) : Nat → Value
 | 0 => .int .i64 x.p.x
 | 1 => .int .i64 x.p.y
 | 2 => .int .i64 x.p.z
 | 3 => .int .i64 x.t
 | _ => .int .i64 x.w
def THit.v (x : THit) : Value := .agg #[.int .i64 x.p.x, .int .i64 x.p.y, .int .i64 x.p.z, .int .i64 x.t, .int .i64 x.w]
def hitAt (l : List THit) (i : Nat) : THit := l.getD i THit.zero
theorem hitAt_lt {l : List THit} {i : Nat} (h : i < l.length) : hitAt l i = l[i] := by simp [hitAt, List.getD, h]
theorem hitAt_take {l : List THit} {k : Nat} (h : k < l.length) : l.take (k + 1) = l.take k ++ [hitAt l k] := by
 rw [List.take_succ_eq_append_getElem h, hitAt_lt h]
def HitsAt (w : World) (v : Value) (l : List THit) : Prop := SlAt w v l.length 5 (fun i j => (hitAt l i).cell j)
theorem HitsAt.below {w w' : World} {v : Value} {l : List THit} (h : HitsAt w v l) (hb : Below w.heap.size w w') : HitsAt w' v l := SlAt.below h hb
theorem HitsAt.opn {w : World} {v : Value} {l : List THit} (h : HitsAt w v l) : ∃ ao cap, v = .slice ao l.length cap ∧ l.length ≤ cap ∧ cap ≤ maxLen ∧
  ∀ k, k < l.length → ∃ b off, ao = some ⟨b, off, none⟩ ∧ b < w.heap.size ∧ ∀ i, i < l.length →
   w.cell? ⟨b, off + i * 5, none⟩ = some (.int .i64 (hitAt l i).p.x) ∧ w.cell? ⟨b, off + i * 5 + 1, none⟩ = some (.int .i64 (hitAt l i).p.y) ∧ w.cell? ⟨b, off + i * 5 + 2, none⟩ = some (.int .i64 (hitAt l i).p.z) ∧ w.cell? ⟨b, off + i * 5 + 3, none⟩ = some (.int .i64 (hitAt l i).t) ∧ w.cell? ⟨b, off + i * 5 + 4, none⟩ = some (.int .i64 (hitAt l i).w) := by
 obtain ⟨ao, cap, rfl, h1, h2, h3, _⟩ := h
 refine ⟨ao, cap, rfl, h1, h2, fun k hk => ?_⟩
 obtain ⟨b, off, e, hlt, hc⟩ := h3 (by omega)
 exact ⟨b, off, e, hlt, fun i hi => ⟨hc i 0 hi (by omega), hc i 1 hi (by omega), hc i 2 hi (by omega), hc i 3 hi (by omega), hc i 4 hi (by omega)⟩⟩
def hitsIdx (l : List THit) : Int := if 12 < l.length then 0 else scanI (fun i => (hitAt l i).err) l.length
def hitsE (l : List THit) : Int := if 12 < l.length then 8 else scan (fun i => (hitAt l i).err) l.length
theorem five_row {w : World} {g : Nat} {x y z u v : Value} {t : TypeId} (h : w.heap[g]? = some (.cells #[x, y, z, u, v] t (0, 0))) :
  w.cell? ⟨g, 0, none⟩ = some x ∧ w.cell? ⟨g, 1, none⟩ = some y ∧ w.cell? ⟨g, 2, none⟩ = some z ∧ w.cell? ⟨g, 3, none⟩ = some u ∧ w.cell? ⟨g, 4, none⟩ = some v ∧ g < w.heap.size := by
 refine ⟨?_, ?_, ?_, ?_, ?_, (Array.getElem?_eq_some_iff.1 h).1⟩
 ·rw [cell_of_row w g 0 _ t (0, 0) h]; rfl
 ·rw [cell_of_row w g 1 _ t (0, 0) h]; rfl
 ·rw [cell_of_row w g 2 _ t (0, 0) h]; rfl
 ·rw [cell_of_row w g 3 _ t (0, 0) h]; rfl
 ·rw [cell_of_row w g 4 _ t (0, 0) h]; rfl
set_option maxRecDepth 100000 in
set_option maxHeartbeats 4000000 in
theorem track_CheckHits (l : List THit) (v : Value) (w : World) (h : HitsAt w v l) :
  Calls Try.prog 29 #[v] w fun e w' => e = .returned (.tuple #[.int .i64 (hitsIdx l), .int .i64 (hitsE l)]) ∧ Below w.heap.size w w' := by
 obtain ⟨ao, cap, rfl, h1, h2, h3⟩ := h.opn
 unfold maxLen at h2
 by_cases hbig : 12 < l.length
 ·have HR : Hid (hitsIdx l = 0 ∧ hitsE l = 8) := hid (by simp [hitsIdx, hitsE, hbig])
  go_enter Try.func29, Try.ntmps29
  go_wp2_with fail
  go_ret2
  exact ⟨by rw [HR.out.1, HR.out.2]; rfl, Below.refl _ _⟩
 have HBIG := hid hbig
 go_enter Try.func29, Try.ntmps29
 go_wp2_with fail
 go_loopw [12] (fun i wr => ∃ k : Nat, k ≤ l.length ∧ i = .int .i64 k ∧ Hid (∀ j, j < k → (hitAt l j).err = 0) ∧ Below w.heap.size w wr) (fun i _ => l.length - (intOf i).toNat)
 case atStart => exact ⟨0, Nat.zero_le _, rfl, hid (fun j hj => by omega), Below.refl _ _⟩
 case round =>
  obtain ⟨k, hk, rfl, HZ, hbel⟩ := hrel
  have hzw := hbel.size
  by_cases hlt : k < l.length
  ·obtain ⟨b, off, rfl, hb, hc⟩ := h3 k hlt
   obtain ⟨c0, c1, c2, c3, c4⟩ := hc k hlt
   obtain ⟨hcb, hfb⟩ := bcell hbel
   rw [← hcb b _ hb] at c0 c1 c2 c3 c4
   have hbw : b < wr.heap.size := by omega
   have HBAD : Hid (∀ e, (hitAt l k).err = e → e ≠ 0 → hitsIdx l = k ∧ hitsE l = e) := hid (by
    intro e he hne
    have hne' : (hitAt l k).err ≠ 0 := by rw [he]; exact hne
    unfold hitsIdx hitsE
    rw [if_neg hbig, if_neg hbig, scan_at (f := fun i => (hitAt l i).err) HZ.out hlt hne', scanI_at (f := fun i => (hitAt l i).err) HZ.out hlt hne', he]
    exact ⟨rfl, rfl⟩)
   have HOK : Hid ((hitAt l k).err = 0 → ∀ j, j < k + 1 → (hitAt l j).err = 0) := hid (by
    intro he j hj
    rcases Nat.lt_or_ge j k with h | h
    ·exact HZ.out j h
    ·rw [show j = k from by omega]; exact he)
   have HE : Hid ((hitAt l k).err = firstNZ [plE (hitAt l k).p, tmE (hitAt l k).t, unl (inB (hitAt l k).w 0 100) 2]) := hid rfl
   have HP : Hid (∀ W, Calls Try.prog 70 #[(hitAt l k).p.v] W fun e w' => e = .returned (.int .i64 (plE (hitAt l k).p)) ∧ Below W.heap.size W w') := hid (fun W => track_placeErr _ W)
   have HT : Hid (∀ W, Calls Try.prog 71 #[.int .i64 (hitAt l k).t] W fun e w' => e = .returned (.int .i64 (tmE (hitAt l k).t)) ∧ W = w') := hid (fun W => track_timeErr _ W)
   generalize (hitAt l k).err = E at HBAD HOK HE
   generalize hitAt l k = x at *
   obtain ⟨⟨x0, x1, x2⟩, t, u⟩ := x
   simp only [V3.v] at *
   generalize plE ⟨x0, x1, x2⟩ = P at HP HE
   generalize tmE t = T at HT HE
   have HF : Hid (∀ v w, IntsAt w v [P, T, unl (inB u 0 100) 2] → Calls Try.prog 69 #[v] w fun e w' => e = .returned (.int .i64 E) ∧ w = w') := hid (fun v w h => by rw [HE.out]; exact track_first _ v w h)
   clear hc h3 h hcb hfb HE
   obtain ⟨W1, hW1⟩ : ∃ W1, W1 = wr.alloc (.cells #[.int .i64 x0, .int .i64 x1, .int .i64 x2, .int .i64 t, .int .i64 u] 92) := ⟨_, rfl⟩
   have HW1 := hid hW1
   obtain ⟨y0, y1, y2, y3, y4, hly⟩ := five_row (w := W1) (g := wr.heap.size) (x := .int .i64 x0) (y := .int .i64 x1) (z := .int .i64 x2) (u := .int .i64 t) (v := .int .i64 u) (t := 92) (by rw [hW1]; exact heap_alloc_new wr _)
   have hz1 : wr.heap.size < W1.heap.size := by rw [hW1]; simp
   have hB1 : Below wr.heap.size wr W1 := by rw [hW1]; exact BelowA
   clear hW1
   have hbw1 : b < W1.heap.size := by omega
   cases hz : (E != 0)
   all_goals
    have HZZ := hid hz
    go_wp2_with fail
    rw [← HW1.out]
    refine wp_mixC (fun wc => Below (W1.heap.size) W1 wc) 12 [.q [0, 1, 3, 4, 6, 7], .f [2, 5, 8, 9, 10, 11]] [.q [12]] (by kernel_rfl) (by kernel_rfl) ((Below.refl _ _).drew) ?_
    intro Q' hQ'
    (rw [wpMixC]; simp only [pick, List.drop_succ_cons, List.drop_zero, List.head?_cons, Option.toList_some, List.cons_append, List.nil_append])
    (repeat (first | go_big_quiet_skip | (go_big_quiet_want; refine quiet_simple rfl ?_; go_big_quiet_op; go_big_quiet_on) | (go_big_quiet_want; refine quiet_cellB (ty := 3) rfl rfl (by kernel_rfl) (by assumption) (by first | omega | (simp; omega)) ?_; simp only [Act.put, List.setIfInBounds_toArray, List.set_cons_succ, List.set_cons_zero]; go_big_quiet_on) | (go_big_quiet_want; refine quiet_agg3B (ty := 22) rfl rfl (by kernel_rfl) (by assumption) (by assumption) (by assumption) (by first | omega | (simp; omega)) ?_; simp only [Act.put, List.setIfInBounds_toArray, List.set_cons_succ, List.set_cons_zero]; go_big_quiet_on)))
    (try refine wpQuiet_nil ?_)
    (rw [wpMixC]; simp only [pick, List.drop_succ_cons, List.drop_zero, List.head?_cons, Option.toList_some, List.cons_append, List.nil_append])
    (rw [wpSteps]; go_wp2_with ((go_at_call 70; refine (HP.out _).mono ?_; rintro _ w2 ⟨rfl, hb2⟩)); rw [contF]; refine ⟨?_, ?_⟩; (next => exact BelowA))
    (rw [wpSteps]; go_wp2_with ((go_at_call 71; refine (HT.out _).mono ?_; rintro _ _ ⟨rfl, rfl⟩)); rw [contF]; refine ⟨?_, ?_⟩; (next => exact BelowA))
    (rw [wpSteps]; go_wp2_with ((go_at_call 68; refine (track_within _ _ _ _).mono ?_; rintro _ _ ⟨rfl, rfl⟩)); rw [contF]; refine ⟨?_, ?_⟩; (next => exact BelowA))
    (rw [wpSteps]; go_wp2_with ((go_at_call 72; refine (track_unless _ _ _).mono ?_; rintro _ _ ⟨rfl, rfl⟩)); rw [contF]; refine ⟨?_, ?_⟩; (next => exact BelowA))
    (rw [wpSteps]; go_wp2_with (fail); rw [contF]; refine ⟨?_, ?_⟩; (next => exact BelowA))
    (rw [wpSteps]; go_wp2_with ((go_at_call 69; refine (HF.out _ _ (intsAt_new _ _ _ _ _ rfl (by simp) (by first | rfl | simp))).mono ?_; rintro _ _ ⟨rfl, rfl⟩)); rw [contF]; refine ⟨?_, ?_⟩; (next => exact BelowA))
    (rw [wpSteps])
    (rw [wpMixC])
    (rw [wpMix]; simp only [pick, List.drop_succ_cons, List.drop_zero, List.head?_cons, Option.toList_some, List.cons_append, List.nil_append])
    (repeat (first | (go_big_quiet_step (fail)) | (quiet_step (fail))))
    (try refine wpQuiet_nil ?_)
    (rw [wpMix])
    (refine hQ' _ _ ?_)
   ·go_wp2_with fail
    go_roundw
    case rel => exact ⟨k + 1, by omega, by go_num, hid (HOK.out (by simpa using HZZ.out)), by exact BelowA⟩
    case measure => simp [intOf]; omega
   ·go_wp2_with fail
    go_ret2
    obtain ⟨e2, e3⟩ := HBAD.out _ rfl (by simpa using HZZ.out)
    exact ⟨by rw [e2, e3]; rfl, by exact BelowA⟩
  ·have hkl : k = l.length := by omega
   have e1 := scan_end (f := fun i => (hitAt l i).err) (n := l.length) fun j hj => HZ.out j (by omega)
   have e2 := scanI_end (f := fun i => (hitAt l i).err) (n := l.length) fun j hj => HZ.out j (by omega)
   have HR : Hid (hitsIdx l = 0 ∧ hitsE l = 0) := hid (by unfold hitsIdx hitsE; rw [if_neg hbig, if_neg hbig, e1, e2]; exact ⟨rfl, rfl⟩)
   clear e1 e2
   go_wp2_with fail
   go_ret2
   exact ⟨by rw [HR.out.1, HR.out.2]; rfl, by exact BelowA⟩
theorem track_hitsErr (l : List THit) (v : Value) (w : World) (h : HitsAt w v l) :
  Calls Try.prog 89 #[v] w fun e w' => e = .returned (.int .i64 (hitsE l)) ∧ Below w.heap.size w w' := by
 go_enter Try.func89, Try.ntmps89
 go_wp2_with (go_at_call 29; refine (track_CheckHits l v _ h).mono ?_; rintro _ w1 ⟨rfl, hb1⟩)
 go_ret
 exact ⟨rfl, hb1⟩
end Go.Proofs.Ytlmdmpjfehpjeaa
set_option linter.unusedVariables false
set_option linter.unusedSimpArgs false
namespace Go.Proofs.Ytlmdmpjfehpjeaa
open Go.RowKit
structure THit.Ok (h : THit) : Prop where
 p : h.p.inS 1000 = true
 t : -10000 ≤ h.t ∧ h.t ≤ 10000
 w : 0 ≤ h.w ∧ h.w ≤ 100
theorem hit_ok {h : THit} (e : h.err = 0) : h.Ok := by
 unfold THit.err at e
 rw [firstNZ_cons, firstNZ_cons, firstNZ_cons] at e
 obtain ⟨h1, h2, h3, _⟩ := e
 unfold tmE at h2
 rw [unl_zero (by decide)] at h2 h3
 exact ⟨plE_ok h1, inB_true.1 h2, inB_true.1 h3⟩
set_option maxRecDepth 100000 in
set_option maxHeartbeats 4000000 in
theorem track_ends (m : TMod) (h : THit) (w : World) (ho : m.Ok) (hh : h.Ok) :
  Calls Try.prog 128 #[m.v, h.v] w fun e w' => e = .returned (.tuple #[.agg #[.int .i64 h.p.x, .int .i64 h.p.y, .int .i64 h.p.z, .int .i64 (h.t + m.ea)], .agg #[.int .i64 h.p.x, .int .i64 h.p.y, .int .i64 h.p.z, .int .i64 (h.t - m.la - 1)]]) ∧ Below w.heap.size w w' := by
 have h1 := hh.t
 have h2 := ho.ea
 have h3 := ho.la
 obtain ⟨TE, hTE⟩ : ∃ TE, h.t + m.ea = TE := ⟨_, rfl⟩
 obtain ⟨TL, hTL⟩ : ∃ TL, h.t - m.la = TL := ⟨_, rfl⟩
 obtain ⟨TM, hTM⟩ : ∃ TM, TL - 1 = TM := ⟨_, rfl⟩
 have k1 : IntKind.i64.wrap (h.t + m.ea) = TE := by rw [hTE]; exact IntWalk.i64_in _ (by omega)
 have k2 : IntKind.i64.wrap (h.t - m.la) = TL := by rw [hTL]; exact IntWalk.i64_in _ (by omega)
 have k3 : IntKind.i64.wrap (TL - 1) = TM := by rw [hTM]; exact IntWalk.i64_in _ (by omega)
 rw [hTE, hTL, hTM]
 clear hTE hTL hTM ho hh h1 h2 h3
 obtain ⟨px, py, pz, tm, tk, lo, hi, li, ea, la, no, mi⟩ := m
 obtain ⟨⟨x0, x1, x2⟩, t, u⟩ := h
 unfold TMod.v THit.v
 simp only at *
 obtain ⟨W, hW⟩ : ∃ W, W = (((w.alloc (.cells #[.int .i64 px, .int .i64 py, .int .i64 pz, .int .i64 tm, .int .i64 tk, .int .i64 lo, .int .i64 hi, .int .i64 li, .int .i64 ea, .int .i64 la, .int .i64 no, .int .i64 mi] 134)).alloc (.cells #[.int .i64 x0, .int .i64 x1, .int .i64 x2, .int .i64 t, .int .i64 u] 92)).alloc (.cells #[.int .i64 0, .int .i64 0, .int .i64 0, .int .i64 0] 28)).alloc (.cells #[.int .i64 0, .int .i64 0, .int .i64 0, .int .i64 0] 28) := ⟨_, rfl⟩
 have hbW : Below w.heap.size w W := by rw [hW]; exact BelowA
 obtain ⟨hz0, q0, q1, q2, q3⟩ := al4 w _ _ _ _ _ _ _ _ W hW
 obtain ⟨m0, m1, m2, m3, m4, m5, m6, m7, m8, m9, m10, m11, ml⟩ := tw_cells (q0)
 obtain ⟨y0, y1, y2, y3, y4, hly⟩ := five_row q1
 obtain ⟨g0, g1, g2, g3, hlg⟩ := four_row q2
 obtain ⟨e0, e1, e2, e3, hle⟩ := four_row q3
 obtain ⟨fg0, fg1, fg2, fg3, _, _, _, _, _, _, _, _⟩ := tw_frozen q2
 obtain ⟨fe0, fe1, fe2, fe3, _, _, _, _, _, _, _, _⟩ := tw_frozen q3
 clear q0 q1 q2 q3
 go_enter Try.func128, Try.ntmps128
 go_wp2_with fail
 rw [← hW]
 clear hW
 refine wp_mixC (fun wc => Below ((w.heap.size + 1 + 1)) W wc) 20 [.q [0, 1, 2, 3, 4, 5, 6, 7, 8, 9, 10, 11, 12, 13, 14, 15, 16, 17, 18], .f [19]] [.f [20]] (by kernel_rfl) (by kernel_rfl) ((Below.refl _ _).drew) ?_
 intro Q' hQ'
 (rw [wpMixC]; simp only [pick, List.drop_succ_cons, List.drop_zero, List.head?_cons, Option.toList_some, List.cons_append, List.nil_append])
 (repeat (first | go_big_quiet_skip | (go_big_quiet_want; refine quiet_simple rfl ?_; go_big_quiet_op; go_big_quiet_on) | (go_big_quiet_want; refine quiet_cellB (ty := 3) rfl rfl (by kernel_rfl) (by assumption) (by first | omega | (simp; omega)) ?_; simp only [Act.put, List.setIfInBounds_toArray, List.set_cons_succ, List.set_cons_zero]; go_big_quiet_on) | (go_big_quiet_want; refine quiet_agg3B (ty := 22) rfl rfl (by kernel_rfl) (by assumption) (by assumption) (by assumption) (by first | omega | (simp; omega)) ?_; simp only [Act.put, List.setIfInBounds_toArray, List.set_cons_succ, List.set_cons_zero]; go_big_quiet_on)))
 (try refine wpQuiet_nil ?_)
 (rw [wpMixC]; simp only [pick, List.drop_succ_cons, List.drop_zero, List.head?_cons, Option.toList_some, List.cons_append, List.nil_append])
 (rw [wpSteps]; go_wp2_with (fail); rw [contF]; refine ⟨?_, ?_⟩; (next => exact BelowA))
 (rw [wpSteps])
 (rw [wpMixC])
 (rw [wpMix]; simp only [pick, List.drop_succ_cons, List.drop_zero, List.head?_cons, Option.toList_some, List.cons_append, List.nil_append])
 (go_wp2_with ((first | fail)); rw [contF])
 (rw [wpMix])
 (refine hQ' _ _ ?_)
 go_wp2_with fail
 ((try simp only [Exit.inBlock, Exit.then]); refine bodyPost_ret (v := .tuple #[.agg #[.int .i64 x0, .int .i64 x1, .int .i64 x2, .int .i64 TE], .agg #[.int .i64 x0, .int .i64 x1, .int .i64 x2, .int .i64 TM]]) ?_ rfl ?_; (next => simp [results, Try.results128, go_sem, hlg, hle, g0, g1, g2, g3, e0, e1, e2, e3]); refine ⟨?_, ?_⟩; (next => rfl); (next => exact BelowA))
set_option maxRecDepth 100000 in
set_option maxHeartbeats 4000000 in
theorem track_penalty (m : TMod) (s : V3) (h : THit) (w : World) (ho : m.Ok) (hs : s.inS 20 = true) (hpm : m.permit s) (hh : h.Ok) :
  Calls Try.prog 90 #[m.v, s.v, h.v] w fun e w' => e = .returned (.int .i64 (m.pen s h)) ∧ Below w.heap.size w w' := by
 have b1 := hh.t
 have b2 := ho.ea
 have b3 := ho.la
 have HEN : Hid (∀ W, Calls Try.prog 128 #[m.v, h.v] W fun e w' => e = .returned (.tuple #[.agg #[.int .i64 h.p.x, .int .i64 h.p.y, .int .i64 h.p.z, .int .i64 (h.t + m.ea)], .agg #[.int .i64 h.p.x, .int .i64 h.p.y, .int .i64 h.p.z, .int .i64 (h.t - m.la - 1)]]) ∧ Below W.heap.size W w') := hid (fun W => track_ends m h W ho hh)
 have HR1 : Hid (∀ W, Calls Try.prog 75 #[m.v, s.v, .agg #[.int .i64 h.p.x, .int .i64 h.p.y, .int .i64 h.p.z, .int .i64 (h.t + m.ea)]] W fun e w' => e = .returned (.bool (m.reached s h.p (h.t + m.ea))) ∧ Below W.heap.size W w') := hid (fun W => track_reached m s h.p _ W ho hs hpm hh.p ⟨by omega, by omega⟩)
 have HR2 : Hid (∀ W, Calls Try.prog 75 #[m.v, s.v, .agg #[.int .i64 h.p.x, .int .i64 h.p.y, .int .i64 h.p.z, .int .i64 (h.t - m.la - 1)]] W fun e w' => e = .returned (.bool (m.reached s h.p (h.t - m.la - 1))) ∧ Below W.heap.size W w') := hid (fun W => track_reached m s h.p _ W ho hs hpm hh.p ⟨by omega, by omega⟩)
 have k1 : IntKind.i64.wrap (h.w * m.mi) = h.w * m.mi := IntWalk.i64_in _ (by have := mul_rg (x := h.w) (y := m.mi) (A := 100) (B := 100) (C := 10000) (by have := hh.w; omega) (by have := ho.mi; omega) (by decide); omega)
 have k2 : IntKind.i64.wrap (h.w * m.no) = h.w * m.no := IntWalk.i64_in _ (by have := mul_rg (x := h.w) (y := m.no) (A := 100) (B := 100) (C := 10000) (by have := hh.w; omega) (by have := ho.no; omega) (by decide); omega)
 have HV : Hid (m.pen s h = if m.reached s h.p (h.t + m.ea) = false then h.w * m.mi else if m.reached s h.p (h.t - m.la - 1) = true then h.w * m.no else 0) := hid rfl
 obtain ⟨A, hA⟩ : ∃ A, h.w * m.mi = A := ⟨_, rfl⟩
 obtain ⟨B, hB⟩ : ∃ B, h.w * m.no = B := ⟨_, rfl⟩
 have k1' : IntKind.i64.wrap (h.w * m.mi) = A := by rw [k1]; exact hA
 have k2' : IntKind.i64.wrap (h.w * m.no) = B := by rw [k2]; exact hB
 rw [hA, hB] at HV
 have HA := hid (mul_rg (x := h.w) (y := m.mi) (A := 100) (B := 100) (C := 10000) (by have := hh.w; omega) (by have := ho.mi; omega) (by decide))
 have HB := hid (mul_rg (x := h.w) (y := m.no) (A := 100) (B := 100) (C := 10000) (by have := hh.w; omega) (by have := ho.no; omega) (by decide))
 rw [hA] at HA
 rw [hB] at HB
 have hA2 := HA.out
 have hB2 := HB.out
 clear k1 k2
 generalize m.pen s h = E at HV ⊢
 generalize m.reached s h.p (h.t + m.ea) = R1 at HR1 HV
 generalize m.reached s h.p (h.t - m.la - 1) = R2 at HR2 HV
 generalize h.t + m.ea = TE at HEN HR1
 generalize h.t - m.la - 1 = TL at HEN HR2
 clear b1 b2 b3 ho hs hpm hh
 obtain ⟨px, py, pz, tm, tk, lo, hi, li, ea, la, no, mi⟩ := m
 obtain ⟨sx, sy, sz⟩ := s
 obtain ⟨⟨x0, x1, x2⟩, t, u⟩ := h
 unfold TMod.v THit.v V3.v at *
 simp only at *
 obtain ⟨W0, hW0⟩ : ∃ W0, W0 = ((w.alloc (.cells #[.int .i64 px, .int .i64 py, .int .i64 pz, .int .i64 tm, .int .i64 tk, .int .i64 lo, .int .i64 hi, .int .i64 li, .int .i64 ea, .int .i64 la, .int .i64 no, .int .i64 mi] 134)).alloc (.cells #[.int .i64 sx, .int .i64 sy, .int .i64 sz] 135)).alloc (.cells #[.int .i64 x0, .int .i64 x1, .int .i64 x2, .int .i64 t, .int .i64 u] 92) := ⟨_, rfl⟩
 have hbW0 : Below w.heap.size w W0 := by rw [hW0]; exact BelowA
 obtain ⟨q0, q1, q2⟩ := al3 w _ _ _ _ _ _ W0 hW0
 have Q0 := hid q0
 have Q1 := hid q1
 have Q2 := hid q2
 have l0 := (Array.getElem?_eq_some_iff.1 q0).1
 have l1 := (Array.getElem?_eq_some_iff.1 q1).1
 have l2 := (Array.getElem?_eq_some_iff.1 q2).1
 clear q0 q1 q2
 cases R1
 all_goals cases R2
 all_goals
  go_enter Try.func90, Try.ntmps90
  go_wp2_with (first | (go_at_call 128; rw [← hW0]; refine (HEN.out _).mono ?_; rintro _ w1 ⟨rfl, hb1⟩; have hz1 := hb1.size; obtain ⟨m0, m1, m2, m3, m4, m5, m6, m7, m8, m9, m10, m11, ml⟩ := tw_cells ((hb1.block w.heap.size l0).trans Q0.out); have ml' : w.heap.size < w1.heap.size + 1 := Nat.lt_succ_of_lt ml; obtain ⟨s0, s1, s2, fs0, fs1, fs2, hls⟩ := three_cells ((hb1.block (w.heap.size + 1) l1).trans Q1.out); have hls' : w.heap.size + 1 < w1.heap.size + 1 := Nat.lt_succ_of_lt hls) | (go_at_call 75; obtain ⟨WB, hWB⟩ : ∃ WB, WB = (w1.alloc (.cells #[.int .i64 x0, .int .i64 x1, .int .i64 x2, .int .i64 TE] 28)).alloc (.cells #[.int .i64 x0, .int .i64 x1, .int .i64 x2, .int .i64 TL] 28) := ⟨_, rfl⟩; rw [← hWB]; have hbWB : Below w1.heap.size w1 WB := (by rw [hWB]; exact BelowA); have hbB : Below W0.heap.size W0 WB := hb1.trans (hbWB.mono hz1); obtain ⟨r3, r4, hr3, hr4⟩ := al2 w1 _ _ _ _ WB hWB; have R4 := hid r4; clear hWB r3 r4; refine (HR1.out _).mono ?_; rintro _ w2 ⟨rfl, hb2⟩; clear m0 m1 m2 m3 m4 m5 m6 m7 m8 m9 m10 m11 ml s0 s1 s2 fs0 fs1 fs2 hls ml' hls'; have hb02 : Below W0.heap.size W0 w2 := hbB.trans (hb2.mono hbB.size); have hb0 : Below w.heap.size w w2 := hbW0.trans (hb02.mono (by have := hbW0.size; omega)); obtain ⟨m0, m1, m2, m3, m4, m5, m6, m7, m8, m9, m10, m11, ml⟩ := tw_cells ((hb02.block w.heap.size l0).trans Q0.out); obtain ⟨s0, s1, s2, fs0, fs1, fs2, hls⟩ := three_cells ((hb02.block (w.heap.size + 1) l1).trans Q1.out); obtain ⟨y0, y1, y2, y3, y4, hly⟩ := five_row ((hb02.block (w.heap.size + 1 + 1) l2).trans Q2.out); obtain ⟨z0, z1, z2, z3, hlz⟩ := four_row ((hb2.block (w1.heap.size + 1) hr4).trans R4.out)) | (go_at_call 75; refine (HR2.out _).mono ?_; rintro _ w3 ⟨rfl, hb3⟩; clear m0 m1 m2 m3 m4 m5 m6 m7 m8 m9 m10 m11 ml s0 s1 s2 fs0 fs1 fs2 hls z0 z1 z2 z3 hlz y0 y1 y2 y3 y4 hly; have hb03 : Below W0.heap.size W0 w3 := hb02.trans (hb3.mono hb02.size); have hb0' : Below w.heap.size w w3 := hbW0.trans (hb03.mono (by have := hbW0.size; omega)); obtain ⟨m0, m1, m2, m3, m4, m5, m6, m7, m8, m9, m10, m11, ml⟩ := tw_cells ((hb03.block w.heap.size l0).trans Q0.out); obtain ⟨s0, s1, s2, fs0, fs1, fs2, hls⟩ := three_cells ((hb03.block (w.heap.size + 1) l1).trans Q1.out); obtain ⟨y0, y1, y2, y3, y4, hly⟩ := five_row ((hb03.block (w.heap.size + 1 + 1) l2).trans Q2.out)))
  go_ret
  exact ⟨ret_int (by rw [HV.out]; simp), by exact BelowA⟩
end Go.Proofs.Ytlmdmpjfehpjeaa
set_option linter.unusedVariables false
set_option linter.unusedSimpArgs false
namespace Go.Proofs.Ytlmdmpjfehpjeaa
open Go.RowKit
theorem score_take (m : TMod) (s : V3) {l : List THit} {k : Nat} (h : k < l.length) : m.score s (l.take (k + 1)) = m.score s (l.take k) + m.pen s (hitAt l k) := by
 rw [hitAt_take h]; unfold TMod.score TMod.pens; rw [List.map_append, List.foldl_append]; rfl
theorem pen_rg {m : TMod} {s : V3} {h : THit} (ho : m.Ok) (hh : h.Ok) : -10000 ≤ m.pen s h ∧ m.pen s h ≤ 10000 := by
 have h1 := mul_rg (x := h.w) (y := m.mi) (A := 100) (B := 100) (C := 10000) (by have := hh.w; omega) (by have := ho.mi; omega) (by decide)
 have h2 := mul_rg (x := h.w) (y := m.no) (A := 100) (B := 100) (C := 10000) (by have := hh.w; omega) (by have := ho.no; omega) (by decide)
 unfold TMod.pen
 split
 ·exact h1
 ·split
  ·exact h2
  ·omega
theorem hitsE_ok {l : List THit} (h : hitsE l = 0) : l.length ≤ 12 ∧ ∀ i, i < l.length → (hitAt l i).Ok := by
 unfold hitsE at h
 split at h
 ·cases h
 ·next hb => exact ⟨by omega, fun i hi => hit_ok (scan_zero h i hi)⟩
set_option maxRecDepth 100000 in
set_option maxHeartbeats 4000000 in
theorem track_score (m : TMod) (s : V3) (l : List THit) (v : Value) (w : World) (h : HitsAt w v l) (hl : l.length ≤ 12) (hok : ∀ i, i < l.length → (hitAt l i).Ok) (ho : m.Ok) (hs : s.inS 20 = true) (hpm : m.permit s) :
  Calls Try.prog 91 #[m.v, s.v, v] w fun e w' => e = .returned (.int .i64 (m.score s l)) ∧ Below w.heap.size w w' := by
 obtain ⟨ao, cap, rfl, h1, h2, h3⟩ := h.opn
 unfold maxLen at h2
 have HPE : Hid (∀ i, i < l.length → ∀ W, Calls Try.prog 90 #[m.v, s.v, (hitAt l i).v] W fun e w' => e = .returned (.int .i64 (m.pen s (hitAt l i))) ∧ Below W.heap.size W w') := hid (fun i hi W => track_penalty m s _ W ho hs hpm (hok i hi))
 have HRG : Hid (∀ i, i < l.length → -10000 ≤ m.pen s (hitAt l i) ∧ m.pen s (hitAt l i) ≤ 10000) := hid (fun i hi => pen_rg ho (hok i hi))
 have HST : Hid (∀ k, k < l.length → m.score s (l.take (k + 1)) = m.score s (l.take k) + m.pen s (hitAt l k)) := hid (fun k hk => score_take m s hk)
 have HS0 : Hid (m.score s (l.take 0) = 0) := hid (by simp [TMod.score, TMod.pens])
 have HSN : Hid (m.score s (l.take l.length) = m.score s l) := hid (by rw [List.take_length])
 generalize hSC : m.score s l = SC at HSN ⊢
 clear hSC
 generalize hFK : (fun k => m.score s (l.take k)) = FK
 have HFK : Hid (∀ k, m.score s (l.take k) = FK k) := hid (fun k => by rw [← hFK])
 simp only [HFK.out] at HST HS0 HSN
 generalize hPK : (fun k => m.pen s (hitAt l k)) = PK
 have HPK : Hid (∀ k, m.pen s (hitAt l k) = PK k) := hid (fun k => by rw [← hPK])
 simp only [HPK.out] at HST HRG HPE
 clear hFK HFK hPK HPK h hok ho hs hpm
 obtain ⟨px, py, pz, tm, tk, lo, hi, li, ea, la, no, mi⟩ := m
 obtain ⟨sx, sy, sz⟩ := s
 unfold TMod.v V3.v at *
 simp only at *
 obtain ⟨W0, hW0⟩ : ∃ W0, W0 = (w.alloc (.cells #[.int .i64 px, .int .i64 py, .int .i64 pz, .int .i64 tm, .int .i64 tk, .int .i64 lo, .int .i64 hi, .int .i64 li, .int .i64 ea, .int .i64 la, .int .i64 no, .int .i64 mi] 134)).alloc (.cells #[.int .i64 sx, .int .i64 sy, .int .i64 sz] 135) := ⟨_, rfl⟩
 have hbW0 : Below w.heap.size w W0 := by rw [hW0]; exact BelowA
 obtain ⟨q0, q1, l0, l1⟩ := al2 w _ _ _ _ W0 hW0
 have Q0 := hid q0
 have Q1 := hid q1
 have hzW0 := hbW0.size
 clear q0 q1
 go_enter Try.func91, Try.ntmps91
 go_wp2_with fail
 rw [← hW0]
 clear hW0
 go_loopw [7, 12] (fun n i wr => ∃ (k : Nat) (N : Int), k ≤ l.length ∧ i = .int .i64 k ∧ n = .int .i64 N ∧ Hid (N = FK k) ∧ -10000 * (k : Int) ≤ N ∧ N ≤ 10000 * (k : Int) ∧ Below W0.heap.size W0 wr) (fun _ i _ => l.length - (intOf i).toNat)
 case atStart => exact ⟨0, 0, Nat.zero_le _, rfl, rfl, hid HS0.out.symm, by omega, by omega, Below.refl _ _⟩
 case round =>
  obtain ⟨k, N, hk, rfl, rfl, HN, hN1, hN2, hbel⟩ := hrel
  have hzw := hbel.size
  by_cases hlt : k < l.length
  ·obtain ⟨b, off, rfl, hb, hc⟩ := h3 k hlt
   obtain ⟨c0, c1, c2, c3, c4⟩ := hc k hlt
   have hbx : Below w.heap.size w wr := hbW0.trans (hbel.mono hzW0)
   have hcb : ∀ o, wr.cell? ⟨b, o, none⟩ = w.cell? ⟨b, o, none⟩ := fun o => hbx.cell (p := ⟨b, o, none⟩) hb
   rw [← hcb] at c0 c1 c2 c3 c4
   have hbw : b < wr.heap.size := by omega
   have HP := hid (HPE.out k hlt)
   have hR := HRG.out k hlt
   have HT := hid (HST.out k hlt)
   generalize hX : hitAt l k = x at *
   generalize PK k = PN at hR HT HP
   obtain ⟨⟨x0, x1, x2⟩, t, u⟩ := x
   simp only [THit.v] at *
   clear hX hc h3 hcb HPE HRG
   obtain ⟨W1, hW1⟩ : ∃ W1, W1 = wr.alloc (.cells #[.int .i64 x0, .int .i64 x1, .int .i64 x2, .int .i64 t, .int .i64 u] 92) := ⟨_, rfl⟩
   have HW1 := hid hW1
   have hB1 : Below wr.heap.size wr W1 := by rw [hW1]; exact BelowA
   have l0r : w.heap.size < wr.heap.size := by omega
   have l1r : w.heap.size + 1 < wr.heap.size := by omega
   obtain ⟨m0, m1, m2, m3, m4, m5, m6, m7, m8, m9, m10, m11, ml⟩ := tw_cells ((hbel.block w.heap.size l0).trans Q0.out)
   obtain ⟨s0, s1, s2, fs0, fs1, fs2, hls⟩ := three_cells ((hbel.block (w.heap.size + 1) l1).trans Q1.out)
   clear hW1 fs0 fs1 fs2
   go_wp2_with (go_at_call 90; rw [← HW1.out]; refine (HP.out _).mono ?_; rintro _ w2 ⟨rfl, hb2⟩)
   go_roundw
   case rel => exact ⟨k + 1, N + PN, by omega, by go_num, by go_num, hid (by rw [HT.out, HN.out]), by push_cast; omega, by push_cast; omega, (hbel.trans (hB1.mono hzw)).trans (hb2.mono (Nat.le_trans hzw hB1.size))⟩
   case measure => simp [intOf]; omega
  ·have hkl : k = l.length := by omega
   subst hkl
   have hbx : Below w.heap.size w wr := hbW0.trans (hbel.mono hzW0)
   go_wp2_with fail
   go_ret
   exact ⟨ret_int (by rw [HN.out]; exact HSN.out), hbx⟩
set_option maxRecDepth 100000 in
set_option maxHeartbeats 4000000 in
theorem track_ScoreOf (m : TMod) (s : V3) (l : List THit) (v : Value) (w : World) (h : HitsAt w v l) :
  Calls Try.prog 32 #[m.v, s.v, v] w fun e w' => (firstNZ [m.both s, hitsE l] = 0 → e = .returned (.tuple #[.int .i64 (m.score s l), .int .i64 0])) ∧ (firstNZ [m.both s, hitsE l] ≠ 0 → e = .returned (.tuple #[.int .i64 0, .int .i64 (firstNZ [m.both s, hitsE l])])) ∧ Below w.heap.size w w' := by
 have HO : Hid (∀ W, Calls Try.prog 73 #[m.v, s.v] W fun e w' => e = .returned (.tuple #[m.v, s.v, .int .i64 (m.both s)]) ∧ Below W.heap.size W w') := hid (fun W => track_openStep m s W)
 have HM : Hid (∀ W, Below w.heap.size w W → Calls Try.prog 89 #[v] W fun e w' => e = .returned (.int .i64 (hitsE l)) ∧ Below W.heap.size W w') := hid (fun W hb => track_hitsErr l v W (h.below hb))
 have HFI : Hid (∀ v w, IntsAt w v [m.both s, hitsE l] → Calls Try.prog 69 #[v] w fun e w' => e = .returned (.int .i64 (firstNZ [m.both s, hitsE l])) ∧ w = w') := hid (fun v w h => track_first _ v w h)
 have HR : Hid (firstNZ [m.both s, hitsE l] = 0 → ∀ W, Below w.heap.size w W → Calls Try.prog 91 #[m.v, s.v, v] W fun e w' => e = .returned (.int .i64 (m.score s l)) ∧ Below W.heap.size W w') := hid (fun h0 W hb => by
  obtain ⟨h1, h2⟩ := two_zero h0
  obtain ⟨o1, o2, o3, o4⟩ := both_ok h1
  obtain ⟨g1, g2⟩ := hitsE_ok h2
  exact track_score m s l v W (h.below hb) g1 g2 o1 o2 o3)
 obtain ⟨ao, cap, rfl, _, _, _⟩ := h.opn
 clear h
 generalize firstNZ [m.both s, hitsE l] = E1 at HFI HR ⊢
 generalize m.both s = EB at HO HFI
 generalize hitsE l = EM at HM HFI
 generalize m.score s l = R at HR ⊢
 obtain ⟨px, py, pz, tm, tk, lo, hi, li, ea, la, no, mi⟩ := m
 obtain ⟨sx, sy, sz⟩ := s
 unfold TMod.v V3.v at *
 simp only at *
 obtain ⟨W0, hW0⟩ : ∃ W0, W0 = (w.alloc (.cells #[.int .i64 px, .int .i64 py, .int .i64 pz, .int .i64 tm, .int .i64 tk, .int .i64 lo, .int .i64 hi, .int .i64 li, .int .i64 ea, .int .i64 la, .int .i64 no, .int .i64 mi] 26)).alloc (.cells #[.int .i64 sx, .int .i64 sy, .int .i64 sz] 22) := ⟨_, rfl⟩
 have hbW0 : Below w.heap.size w W0 := by rw [hW0]; exact BelowA
 have hzW0 := hbW0.size
 have hcase : E1 = 0 ∨ E1 ≠ 0 := by omega
 rcases hcase with h1 | h1
 ·subst h1
  have HR2 := hid (HR.out rfl)
  go_enter Try.func32, Try.ntmps32
  go_wp2_with (first | (go_at_call 73; rw [← hW0]; refine (HO.out _).mono ?_; rintro _ w1 ⟨rfl, hb1⟩; have hz1 := hb1.size) | (go_at_call 89; obtain ⟨WB, hWB⟩ : ∃ WB, WB = (w1.alloc (.cells #[.int .i64 px, .int .i64 py, .int .i64 pz, .int .i64 tm, .int .i64 tk, .int .i64 lo, .int .i64 hi, .int .i64 li, .int .i64 ea, .int .i64 la, .int .i64 no, .int .i64 mi] 134)).alloc (.cells #[.int .i64 sx, .int .i64 sy, .int .i64 sz] 135) := ⟨_, rfl⟩; rw [← hWB]; have hbWB : Below w1.heap.size w1 WB := (by rw [hWB]; exact BelowA); obtain ⟨r0, r1, hr0, hr1⟩ := al2 w1 _ _ _ _ WB hWB; clear hWB; have hbWw : Below w.heap.size w WB := (hbW0.trans (hb1.mono hzW0)).trans (hbWB.mono (Nat.le_trans hzW0 hz1)); refine (HM.out _ hbWw).mono ?_; rintro _ w2 ⟨rfl, hb2⟩; have hbf : Below w.heap.size w w2 := hbWw.trans (hb2.mono hbWw.size); have R0 := hid ((hb2.block w1.heap.size hr0).trans r0); have R1 := hid ((hb2.block (w1.heap.size + 1) hr1).trans r1); obtain ⟨m0, m1, m2, m3, m4, m5, m6, m7, m8, m9, m10, m11, ml⟩ := tw_cells (R0.out); obtain ⟨s0, s1, s2, fs0, fs1, fs2, hls⟩ := three_cells R1.out; clear fs0 fs1 fs2 r0 r1) | (go_at_call 69; refine (HFI.out _ _ (intsAt_new _ _ _ _ _ rfl (by simp) (by first | rfl | simp))).mono ?_; rintro _ _ ⟨rfl, rfl⟩) | (go_at_call 91; refine (HR2.out _ (by exact BelowA)).mono ?_; rintro _ w3 ⟨rfl, hb3⟩))
  ((try simp only [Exit.inBlock, Exit.then]); refine bodyPost_ret (v := .tuple #[.int .i64 R, .int .i64 0]) ?_ rfl ?_; (next => simp [results, Try.results32, go_sem]))
  exact ⟨fun _ => rfl, fun h => absurd rfl h, by exact BelowA⟩
 ·have hne : (E1 != 0) = true := by simpa using h1
  have HN := hid h1
  clear h1
  go_enter Try.func32, Try.ntmps32
  go_wp2_with (first | (go_at_call 73; rw [← hW0]; refine (HO.out _).mono ?_; rintro _ w1 ⟨rfl, hb1⟩; have hz1 := hb1.size) | (go_at_call 89; obtain ⟨WB, hWB⟩ : ∃ WB, WB = (w1.alloc (.cells #[.int .i64 px, .int .i64 py, .int .i64 pz, .int .i64 tm, .int .i64 tk, .int .i64 lo, .int .i64 hi, .int .i64 li, .int .i64 ea, .int .i64 la, .int .i64 no, .int .i64 mi] 134)).alloc (.cells #[.int .i64 sx, .int .i64 sy, .int .i64 sz] 135) := ⟨_, rfl⟩; rw [← hWB]; have hbWB : Below w1.heap.size w1 WB := (by rw [hWB]; exact BelowA); obtain ⟨r0, r1, hr0, hr1⟩ := al2 w1 _ _ _ _ WB hWB; clear hWB; have hbWw : Below w.heap.size w WB := (hbW0.trans (hb1.mono hzW0)).trans (hbWB.mono (Nat.le_trans hzW0 hz1)); refine (HM.out _ hbWw).mono ?_; rintro _ w2 ⟨rfl, hb2⟩; have hbf : Below w.heap.size w w2 := hbWw.trans (hb2.mono hbWw.size); have R0 := hid ((hb2.block w1.heap.size hr0).trans r0); have R1 := hid ((hb2.block (w1.heap.size + 1) hr1).trans r1); obtain ⟨m0, m1, m2, m3, m4, m5, m6, m7, m8, m9, m10, m11, ml⟩ := tw_cells (R0.out); obtain ⟨s0, s1, s2, fs0, fs1, fs2, hls⟩ := three_cells R1.out; clear fs0 fs1 fs2 r0 r1) | (go_at_call 69; refine (HFI.out _ _ (intsAt_new _ _ _ _ _ rfl (by simp) (by first | rfl | simp))).mono ?_; rintro _ _ ⟨rfl, rfl⟩))
  ((try simp only [Exit.inBlock, Exit.then]); refine bodyPost_ret (v := .tuple #[.int .i64 0, .int .i64 E1]) ?_ rfl ?_; (next => simp [results, Try.results32, go_sem]))
  exact ⟨fun h => absurd h HN.out, fun _ => rfl, by exact BelowA⟩
end Go.Proofs.Ytlmdmpjfehpjeaa