/- The law of limits, walked: three cases. -/
import Derived.Test.YtllddidjiabegaaZ3
set_option linter.unusedVariables false
set_option linter.unusedSimpArgs false
namespace Go.Proofs.Ytllddidjiabegaa
open Go.RowKit

set_option maxRecDepth 100000 in
set_option maxHeartbeats 4000000 in
theorem law_Limits_eeo (T H S r wv bl bh cv ll lh : Int) (w : World)
    (HW : Hid (∀ W, Calls Try.prog 46 #[.int .i64 T, .int .i64 H, .int .i64 S] W fun e w' => e = .returned (.tuple #[.int .i64 0, .int .i64 2]) ∧ Below W.heap.size W w'))
    (HB : Hid (∀ W, Calls Try.prog 48 #[.int .i64 T, .int .i64 S, .int .i64 r] W fun e w' => e = .returned (.tuple #[.agg #[.int .i64 0, .int .i64 0], .int .i64 2]) ∧ Below W.heap.size W w'))
    (HL : Hid (∀ W, Calls Try.prog 47 #[.int .i64 T, .int .i64 H, .int .i64 r] W fun e w' => e = .returned (.tuple #[.agg #[.int .i64 ll, .int .i64 lh], .int .i64 0]) ∧ Below W.heap.size W w'))
    (HC : Hid (∀ W, Calls Try.prog 43 #[.int .i64 T, .int .i64 S, .int .i64 r] W fun e w' => e = .returned (.tuple #[.int .i64 0, .int .i64 2]) ∧ Below W.heap.size W w'))
    (hA : firstNZ [studyErr T H, tenErr S] = 2) (hB : firstNZ [trErr T, tenErr S, rskErr r] = 2) (hC : firstNZ [studyErr T H, rskErr r] = 0)
    (RL : Hid (∀ W, Calls Try.prog 54 #[.int .i64 T, .int .i64 H, .int .i64 r] W fun e w' => e = .returned (.tuple #[.agg #[.int .i64 ll, .int .i64 lh], .bool true]) ∧ Below W.heap.size W w'))
    : Calls Try.prog 7 #[.int .i64 T, .int .i64 H, .agg #[.int .i64 S, .int .i64 r]] w fun e w' => e = .returned (.bool true) ∧ Below w.heap.size w w' := by
  have HA := hid hA
  have HBB := hid hB
  have HCC := hid hC
  clear hA hB hC
  go_enter Try.func7, Try.ntmps7
  go_wp2_with (go_at_call 11; refine (law_awake _).mono ?_; rintro _ w1 ⟨rfl, hb1⟩; obtain ⟨hc1, hf1⟩ := bcell hb1; have hz1 := hb1.size; (try simp only [World.size_alloc, World.heap_drewN] at hz1); have hk1_0 : w.heap.size < w1.heap.size := (by omega); have q1_0_0 := hc1 (w.heap.size) 0 (by first | assumption | (simp; done) | (simp; omega)); (try simp at q1_0_0); have p1_0_0 := hf1 (w.heap.size) 0 (by first | assumption | (simp; done) | (simp; omega)); (try simp at p1_0_0); have q1_0_1 := hc1 (w.heap.size) 1 (by first | assumption | (simp; done) | (simp; omega)); (try simp at q1_0_1); have p1_0_1 := hf1 (w.heap.size) 1 (by first | assumption | (simp; done) | (simp; omega)); (try simp at p1_0_1))
  go_quiet (fail)
  go_wp2_with (first | (go_at_call 46; refine (HW.out _).mono ?_; rintro _ w2 ⟨rfl, hb2⟩; obtain ⟨hc2, hf2⟩ := bcell hb2; have hz2 := hb2.size; (try simp only [World.size_alloc, World.heap_drewN] at hz2)) | (go_at_call 48; refine (HB.out _).mono ?_; rintro _ w3 ⟨rfl, hb3⟩) | (go_at_call 47; refine (HL.out _).mono ?_; rintro _ w4 ⟨rfl, hb4⟩) | (go_at_call 43; refine (HC.out _).mono ?_; rintro _ w5 ⟨rfl, hb5⟩) | (go_at_call 50; refine (ref_StudyErr _ _ _).mono ?_; rintro _ _ ⟨rfl, rfl⟩) | (go_at_call 41; refine (ref_ShareErr _ _).mono ?_; rintro _ _ ⟨rfl, rfl⟩))
  have HBX : Hid (Pair2 (w3.alloc (.cells #[.int .i64 0, .int .i64 0] 74)) w3.heap.size (.int .i64 0) (.int .i64 0)) := hid ⟨by simp, by simp, by simp⟩
  have HLX : Hid (Pair2 (w4.alloc (.cells #[.int .i64 ll, .int .i64 lh] 74)) w4.heap.size (.int .i64 ll) (.int .i64 lh)) := hid ⟨by simp, by simp, by simp⟩
  refine (first_list [studyErr T H, tenErr S] 2 _ _ _ rfl (by decide) rfl).mono ?_
  rintro _ _ ⟨rfl, rfl⟩
  rw [HA.out]
  go_wp2_with (first | (go_at_call 41; refine (ref_ShareErr _ _).mono ?_; rintro _ _ ⟨rfl, rfl⟩) | (go_at_call 40; refine (ref_CountErr _ _).mono ?_; rintro _ _ ⟨rfl, rfl⟩) | (go_at_call 42; refine (ref_RiskErr _ _).mono ?_; rintro _ _ ⟨rfl, rfl⟩))
  refine (first_list [trErr T, tenErr S, rskErr r] 3 _ _ _ rfl (by decide) (by first | (with_reducible rfl) | simp)).mono ?_
  rintro _ _ ⟨rfl, rfl⟩
  rw [HBB.out]
  go_wp2_with fail
  obtain ⟨W7, hW7⟩ : ∃ W7, W7 = (w5.alloc (.cells #[.int .i64 (studyErr T H), .int .i64 (tenErr S)] 3)).alloc (.cells #[.int .i64 (trErr T), .int .i64 (tenErr S), .int .i64 (rskErr r)] 3) := ⟨_, rfl⟩
  rw [← hW7]
  obtain ⟨hB7, hB7a, hB7b⟩ : Below w.heap.size w W7 ∧ Below (w3.alloc (.cells #[.int .i64 0, .int .i64 0] 74)).heap.size (w3.alloc (.cells #[.int .i64 0, .int .i64 0] 74)) W7 ∧ Below (w4.alloc (.cells #[.int .i64 ll, .int .i64 lh] 74)).heap.size (w4.alloc (.cells #[.int .i64 ll, .int .i64 lh] 74)) W7 := by rw [hW7]; exact ⟨by (repeat (with_reducible first | exact Below.refl _ _ | assumption | refine Below.drewN _ ?_ | refine Below.drew ?_ | refine Below_alloc ?_ _ | refine Below.alloc ?_ (by first | (simp; done) | (simp; omega) | omega) _ | refine Below.setCell ?_ (by first | (simp; done) | (simp; omega) | omega) _ | refine Below_call ?_ (by assumption) | refine Below.trans ?_ (by assumption))), by (repeat (with_reducible first | exact Below.refl _ _ | assumption | refine Below.drewN _ ?_ | refine Below.drew ?_ | refine Below_alloc ?_ _ | refine Below.alloc ?_ (by first | (simp; done) | (simp; omega) | omega) _ | refine Below.setCell ?_ (by first | (simp; done) | (simp; omega) | omega) _ | refine Below_call ?_ (by assumption) | refine Below.trans ?_ (by assumption))), by (repeat (with_reducible first | exact Below.refl _ _ | assumption | refine Below.drewN _ ?_ | refine Below.drew ?_ | refine Below_alloc ?_ _ | refine Below.alloc ?_ (by first | (simp; done) | (simp; omega) | omega) _ | refine Below.setCell ?_ (by first | (simp; done) | (simp; omega) | omega) _ | refine Below_call ?_ (by assumption) | refine Below.trans ?_ (by assumption)))⟩
  obtain ⟨n7, e70, e71⟩ := HBX.out.below hB7a
  have HL7 := hid (HLX.out.below hB7b)
  clear hW7 hB7a hB7b hb1 hb2 hb3 hb4 hb5 HBX HLX
  refine wp_mixC (fun wc => Below (W7.heap.size) W7 wc) 49 [.q [0, 1, 2, 3, 4, 5, 6, 7, 8, 9, 10, 11, 12, 13, 14, 15, 16, 17, 18, 19, 20, 21, 22, 23, 24, 25, 26, 27, 28, 29, 30, 31], .f [32], .q [33, 34, 35, 36, 37, 38, 39, 40, 41, 42, 43], .f [44], .q [45, 46, 47, 48]] [] (by kernel_rfl) (by kernel_rfl) ((Below.refl _ _).drew) ?_
  intro Q' hQ'
  (rw [wpMixC]; simp only [pick, List.drop_succ_cons, List.drop_zero, List.head?_cons, Option.toList_some, List.cons_append, List.nil_append])
  (repeat (first | go_big_quiet_skip | (go_big_quiet_want; refine quiet_simple rfl ?_; go_big_quiet_op; go_big_quiet_on) | (go_big_quiet_want; refine quiet_agg2B (ty := 74) rfl rfl (by kernel_rfl) (by assumption) (by assumption) (by first | omega | (simp; omega)) ?_; simp only [Act.put, List.setIfInBounds_toArray, List.set_cons_succ, List.set_cons_zero]; go_big_quiet_on)))
  (try refine wpQuiet_nil ?_)
  (rw [wpMixC]; simp only [pick, List.drop_succ_cons, List.drop_zero, List.head?_cons, Option.toList_some, List.cons_append, List.nil_append])
  (rw [wpSteps]; go_wp2_with (fail); rw [contF]; refine ⟨?_, ?_⟩; (next => (repeat (with_reducible first | exact Below.refl _ _ | assumption | refine Below.drewN _ ?_ | refine Below.drew ?_ | refine Below_alloc ?_ _ | refine Below.alloc ?_ (by first | (simp; done) | (simp; omega) | omega) _ | refine Below.setCell ?_ (by first | (simp; done) | (simp; omega) | omega) _ | refine Below_call ?_ (by assumption) | refine Below.trans ?_ (by assumption)))))
  (rw [wpSteps])
  (rw [wpMixC]; simp only [pick, List.drop_succ_cons, List.drop_zero, List.head?_cons, Option.toList_some, List.cons_append, List.nil_append])
  (repeat (first | go_big_quiet_skip | (go_big_quiet_want; refine quiet_simple rfl ?_; go_big_quiet_op; go_big_quiet_on) | (go_big_quiet_want; refine quiet_agg2B (ty := 74) rfl rfl (by kernel_rfl) (by assumption) (by assumption) (by first | omega | (simp; omega)) ?_; simp only [Act.put, List.setIfInBounds_toArray, List.set_cons_succ, List.set_cons_zero]; go_big_quiet_on)))
  (try refine wpQuiet_nil ?_)
  (rw [wpMixC]; simp only [pick, List.drop_succ_cons, List.drop_zero, List.head?_cons, Option.toList_some, List.cons_append, List.nil_append])
  (rw [wpSteps]; go_wp2_with (fail); rw [contF]; refine ⟨?_, ?_⟩; (next => (repeat (with_reducible first | exact Below.refl _ _ | assumption | refine Below.drewN _ ?_ | refine Below.drew ?_ | refine Below_alloc ?_ _ | refine Below.alloc ?_ (by first | (simp; done) | (simp; omega) | omega) _ | refine Below.setCell ?_ (by first | (simp; done) | (simp; omega) | omega) _ | refine Below_call ?_ (by assumption) | refine Below.trans ?_ (by assumption)))))
  (rw [wpSteps])
  (rw [wpMixC]; simp only [pick, List.drop_succ_cons, List.drop_zero, List.head?_cons, Option.toList_some, List.cons_append, List.nil_append])
  (repeat (first | go_big_quiet_skip | (go_big_quiet_want; refine quiet_simple rfl ?_; go_big_quiet_op; go_big_quiet_on) | (go_big_quiet_want; refine quiet_agg2B (ty := 74) rfl rfl (by kernel_rfl) (by assumption) (by assumption) (by first | omega | (simp; omega)) ?_; simp only [Act.put, List.setIfInBounds_toArray, List.set_cons_succ, List.set_cons_zero]; go_big_quiet_on)))
  (try refine wpQuiet_nil ?_)
  (rw [wpMixC])
  (rw [wpMix])
  (refine hQ' _ _ ?_)
  obtain ⟨W8, hW8⟩ : ∃ W8, W8 = W7.drew := ⟨_, rfl⟩
  rw [← hW8]
  have hb8 : Below W7.heap.size W7 W8 := by rw [hW8]; (repeat (with_reducible first | exact Below.refl _ _ | assumption | refine Below.drewN _ ?_ | refine Below.drew ?_ | refine Below_alloc ?_ _ | refine Below.alloc ?_ (by first | (simp; done) | (simp; omega) | omega) _ | refine Below.setCell ?_ (by first | (simp; done) | (simp; omega) | omega) _ | refine Below_call ?_ (by assumption) | refine Below.trans ?_ (by assumption)))
  clear hW8
  have hB9 : Below W7.heap.size W7 W8 := by (repeat (with_reducible first | exact Below.refl _ _ | assumption | refine Below.drewN _ ?_ | refine Below.drew ?_ | refine Below_alloc ?_ _ | refine Below.alloc ?_ (by first | (simp; done) | (simp; omega) | omega) _ | refine Below.setCell ?_ (by first | (simp; done) | (simp; omega) | omega) _ | refine Below_call ?_ (by assumption) | refine Below.trans ?_ (by assumption)))
  have hBW : Below w.heap.size w W8 := by (repeat (with_reducible first | exact Below.refl _ _ | assumption | refine Below.drewN _ ?_ | refine Below.drew ?_ | refine Below_alloc ?_ _ | refine Below.alloc ?_ (by first | (simp; done) | (simp; omega) | omega) _ | refine Below.setCell ?_ (by first | (simp; done) | (simp; omega) | omega) _ | refine Below_call ?_ (by assumption) | refine Below.trans ?_ (by assumption)))
  have HL9 := hid (HL7.out.below hB9)
  clear hB9
  go_wp2_with (first | (go_at_call 50; refine (ref_StudyErr _ _ _).mono ?_; rintro _ _ ⟨rfl, rfl⟩) | (go_at_call 42; refine (ref_RiskErr _ _).mono ?_; rintro _ _ ⟨rfl, rfl⟩))
  refine (first_list [studyErr T H, rskErr r] 2 _ _ _ rfl (by decide) (by first | (with_reducible rfl) | simp)).mono ?_
  rintro _ _ ⟨rfl, rfl⟩
  rw [HCC.out]
  have HLA := hid (HL9.out.below (w' := (W8).alloc (.cells #[.int .i64 (studyErr T H), .int .i64 (rskErr r)] 3)) (by (repeat (with_reducible first | exact Below.refl _ _ | assumption | refine Below.drewN _ ?_ | refine Below.drew ?_ | refine Below_alloc ?_ _ | refine Below.alloc ?_ (by first | (simp; done) | (simp; omega) | omega) _ | refine Below.setCell ?_ (by first | (simp; done) | (simp; omega) | omega) _ | refine Below_call ?_ (by assumption) | refine Below.trans ?_ (by assumption)))))
  go_wp2_with (go_at_call 54; refine (RL.out _).mono ?_; rintro _ w10 ⟨rfl, hb10⟩; obtain ⟨n10, e0, e1⟩ := HLA.out.below hb10)
  go_ret
  exact ⟨by simp, by (repeat (with_reducible first | exact Below.refl _ _ | assumption | refine Below.drewN _ ?_ | refine Below.drew ?_ | refine Below_alloc ?_ _ | refine Below.alloc ?_ (by first | (simp; done) | (simp; omega) | omega) _ | refine Below.setCell ?_ (by first | (simp; done) | (simp; omega) | omega) _ | refine Below_call ?_ (by assumption) | refine Below.trans ?_ (by assumption)))⟩

set_option maxRecDepth 100000 in
set_option maxHeartbeats 4000000 in
theorem law_Limits_een (T H S r wv bl bh cv ll lh : Int) (w : World)
    (HW : Hid (∀ W, Calls Try.prog 46 #[.int .i64 T, .int .i64 H, .int .i64 S] W fun e w' => e = .returned (.tuple #[.int .i64 0, .int .i64 2]) ∧ Below W.heap.size W w'))
    (HB : Hid (∀ W, Calls Try.prog 48 #[.int .i64 T, .int .i64 S, .int .i64 r] W fun e w' => e = .returned (.tuple #[.agg #[.int .i64 0, .int .i64 0], .int .i64 2]) ∧ Below W.heap.size W w'))
    (HL : Hid (∀ W, Calls Try.prog 47 #[.int .i64 T, .int .i64 H, .int .i64 r] W fun e w' => e = .returned (.tuple #[.agg #[.int .i64 0, .int .i64 0], .int .i64 12]) ∧ Below W.heap.size W w'))
    (HC : Hid (∀ W, Calls Try.prog 43 #[.int .i64 T, .int .i64 S, .int .i64 r] W fun e w' => e = .returned (.tuple #[.int .i64 0, .int .i64 2]) ∧ Below W.heap.size W w'))
    (hA : firstNZ [studyErr T H, tenErr S] = 2) (hB : firstNZ [trErr T, tenErr S, rskErr r] = 2) (hC : firstNZ [studyErr T H, rskErr r] = 0)
    (RL : Hid (∀ W, Calls Try.prog 54 #[.int .i64 T, .int .i64 H, .int .i64 r] W fun e w' => e = .returned (.tuple #[.agg #[.int .i64 ll, .int .i64 lh], .bool false]) ∧ Below W.heap.size W w'))
    : Calls Try.prog 7 #[.int .i64 T, .int .i64 H, .agg #[.int .i64 S, .int .i64 r]] w fun e w' => e = .returned (.bool true) ∧ Below w.heap.size w w' := by
  have HA := hid hA
  have HBB := hid hB
  have HCC := hid hC
  clear hA hB hC
  go_enter Try.func7, Try.ntmps7
  go_wp2_with (go_at_call 11; refine (law_awake _).mono ?_; rintro _ w1 ⟨rfl, hb1⟩; obtain ⟨hc1, hf1⟩ := bcell hb1; have hz1 := hb1.size; (try simp only [World.size_alloc, World.heap_drewN] at hz1); have hk1_0 : w.heap.size < w1.heap.size := (by omega); have q1_0_0 := hc1 (w.heap.size) 0 (by first | assumption | (simp; done) | (simp; omega)); (try simp at q1_0_0); have p1_0_0 := hf1 (w.heap.size) 0 (by first | assumption | (simp; done) | (simp; omega)); (try simp at p1_0_0); have q1_0_1 := hc1 (w.heap.size) 1 (by first | assumption | (simp; done) | (simp; omega)); (try simp at q1_0_1); have p1_0_1 := hf1 (w.heap.size) 1 (by first | assumption | (simp; done) | (simp; omega)); (try simp at p1_0_1))
  go_quiet (fail)
  go_wp2_with (first | (go_at_call 46; refine (HW.out _).mono ?_; rintro _ w2 ⟨rfl, hb2⟩; obtain ⟨hc2, hf2⟩ := bcell hb2; have hz2 := hb2.size; (try simp only [World.size_alloc, World.heap_drewN] at hz2)) | (go_at_call 48; refine (HB.out _).mono ?_; rintro _ w3 ⟨rfl, hb3⟩) | (go_at_call 47; refine (HL.out _).mono ?_; rintro _ w4 ⟨rfl, hb4⟩) | (go_at_call 43; refine (HC.out _).mono ?_; rintro _ w5 ⟨rfl, hb5⟩) | (go_at_call 50; refine (ref_StudyErr _ _ _).mono ?_; rintro _ _ ⟨rfl, rfl⟩) | (go_at_call 41; refine (ref_ShareErr _ _).mono ?_; rintro _ _ ⟨rfl, rfl⟩))
  have HBX : Hid (Pair2 (w3.alloc (.cells #[.int .i64 0, .int .i64 0] 74)) w3.heap.size (.int .i64 0) (.int .i64 0)) := hid ⟨by simp, by simp, by simp⟩
  have HLX : Hid (Pair2 (w4.alloc (.cells #[.int .i64 0, .int .i64 0] 74)) w4.heap.size (.int .i64 0) (.int .i64 0)) := hid ⟨by simp, by simp, by simp⟩
  refine (first_list [studyErr T H, tenErr S] 2 _ _ _ rfl (by decide) rfl).mono ?_
  rintro _ _ ⟨rfl, rfl⟩
  rw [HA.out]
  go_wp2_with (first | (go_at_call 41; refine (ref_ShareErr _ _).mono ?_; rintro _ _ ⟨rfl, rfl⟩) | (go_at_call 40; refine (ref_CountErr _ _).mono ?_; rintro _ _ ⟨rfl, rfl⟩) | (go_at_call 42; refine (ref_RiskErr _ _).mono ?_; rintro _ _ ⟨rfl, rfl⟩))
  refine (first_list [trErr T, tenErr S, rskErr r] 3 _ _ _ rfl (by decide) (by first | (with_reducible rfl) | simp)).mono ?_
  rintro _ _ ⟨rfl, rfl⟩
  rw [HBB.out]
  go_wp2_with fail
  obtain ⟨W7, hW7⟩ : ∃ W7, W7 = (w5.alloc (.cells #[.int .i64 (studyErr T H), .int .i64 (tenErr S)] 3)).alloc (.cells #[.int .i64 (trErr T), .int .i64 (tenErr S), .int .i64 (rskErr r)] 3) := ⟨_, rfl⟩
  rw [← hW7]
  obtain ⟨hB7, hB7a, hB7b⟩ : Below w.heap.size w W7 ∧ Below (w3.alloc (.cells #[.int .i64 0, .int .i64 0] 74)).heap.size (w3.alloc (.cells #[.int .i64 0, .int .i64 0] 74)) W7 ∧ Below (w4.alloc (.cells #[.int .i64 0, .int .i64 0] 74)).heap.size (w4.alloc (.cells #[.int .i64 0, .int .i64 0] 74)) W7 := by rw [hW7]; exact ⟨by (repeat (with_reducible first | exact Below.refl _ _ | assumption | refine Below.drewN _ ?_ | refine Below.drew ?_ | refine Below_alloc ?_ _ | refine Below.alloc ?_ (by first | (simp; done) | (simp; omega) | omega) _ | refine Below.setCell ?_ (by first | (simp; done) | (simp; omega) | omega) _ | refine Below_call ?_ (by assumption) | refine Below.trans ?_ (by assumption))), by (repeat (with_reducible first | exact Below.refl _ _ | assumption | refine Below.drewN _ ?_ | refine Below.drew ?_ | refine Below_alloc ?_ _ | refine Below.alloc ?_ (by first | (simp; done) | (simp; omega) | omega) _ | refine Below.setCell ?_ (by first | (simp; done) | (simp; omega) | omega) _ | refine Below_call ?_ (by assumption) | refine Below.trans ?_ (by assumption))), by (repeat (with_reducible first | exact Below.refl _ _ | assumption | refine Below.drewN _ ?_ | refine Below.drew ?_ | refine Below_alloc ?_ _ | refine Below.alloc ?_ (by first | (simp; done) | (simp; omega) | omega) _ | refine Below.setCell ?_ (by first | (simp; done) | (simp; omega) | omega) _ | refine Below_call ?_ (by assumption) | refine Below.trans ?_ (by assumption)))⟩
  obtain ⟨n7, e70, e71⟩ := HBX.out.below hB7a
  have HL7 := hid (HLX.out.below hB7b)
  clear hW7 hB7a hB7b hb1 hb2 hb3 hb4 hb5 HBX HLX
  refine wp_mixC (fun wc => Below (W7.heap.size) W7 wc) 49 [.q [0, 1, 2, 3, 4, 5, 6, 7, 8, 9, 10, 11, 12, 13, 14, 15, 16, 17, 18, 19, 20, 21, 22, 23, 24, 25, 26, 27, 28, 29, 30, 31], .f [32], .q [33, 34, 35, 36, 37, 38, 39, 40, 41, 42, 43], .f [44], .q [45, 46, 47, 48]] [] (by kernel_rfl) (by kernel_rfl) ((Below.refl _ _).drew) ?_
  intro Q' hQ'
  (rw [wpMixC]; simp only [pick, List.drop_succ_cons, List.drop_zero, List.head?_cons, Option.toList_some, List.cons_append, List.nil_append])
  (repeat (first | go_big_quiet_skip | (go_big_quiet_want; refine quiet_simple rfl ?_; go_big_quiet_op; go_big_quiet_on) | (go_big_quiet_want; refine quiet_agg2B (ty := 74) rfl rfl (by kernel_rfl) (by assumption) (by assumption) (by first | omega | (simp; omega)) ?_; simp only [Act.put, List.setIfInBounds_toArray, List.set_cons_succ, List.set_cons_zero]; go_big_quiet_on)))
  (try refine wpQuiet_nil ?_)
  (rw [wpMixC]; simp only [pick, List.drop_succ_cons, List.drop_zero, List.head?_cons, Option.toList_some, List.cons_append, List.nil_append])
  (rw [wpSteps]; go_wp2_with (fail); rw [contF]; refine ⟨?_, ?_⟩; (next => (repeat (with_reducible first | exact Below.refl _ _ | assumption | refine Below.drewN _ ?_ | refine Below.drew ?_ | refine Below_alloc ?_ _ | refine Below.alloc ?_ (by first | (simp; done) | (simp; omega) | omega) _ | refine Below.setCell ?_ (by first | (simp; done) | (simp; omega) | omega) _ | refine Below_call ?_ (by assumption) | refine Below.trans ?_ (by assumption)))))
  (rw [wpSteps])
  (rw [wpMixC]; simp only [pick, List.drop_succ_cons, List.drop_zero, List.head?_cons, Option.toList_some, List.cons_append, List.nil_append])
  (repeat (first | go_big_quiet_skip | (go_big_quiet_want; refine quiet_simple rfl ?_; go_big_quiet_op; go_big_quiet_on) | (go_big_quiet_want; refine quiet_agg2B (ty := 74) rfl rfl (by kernel_rfl) (by assumption) (by assumption) (by first | omega | (simp; omega)) ?_; simp only [Act.put, List.setIfInBounds_toArray, List.set_cons_succ, List.set_cons_zero]; go_big_quiet_on)))
  (try refine wpQuiet_nil ?_)
  (rw [wpMixC]; simp only [pick, List.drop_succ_cons, List.drop_zero, List.head?_cons, Option.toList_some, List.cons_append, List.nil_append])
  (rw [wpSteps]; go_wp2_with (fail); rw [contF]; refine ⟨?_, ?_⟩; (next => (repeat (with_reducible first | exact Below.refl _ _ | assumption | refine Below.drewN _ ?_ | refine Below.drew ?_ | refine Below_alloc ?_ _ | refine Below.alloc ?_ (by first | (simp; done) | (simp; omega) | omega) _ | refine Below.setCell ?_ (by first | (simp; done) | (simp; omega) | omega) _ | refine Below_call ?_ (by assumption) | refine Below.trans ?_ (by assumption)))))
  (rw [wpSteps])
  (rw [wpMixC]; simp only [pick, List.drop_succ_cons, List.drop_zero, List.head?_cons, Option.toList_some, List.cons_append, List.nil_append])
  (repeat (first | go_big_quiet_skip | (go_big_quiet_want; refine quiet_simple rfl ?_; go_big_quiet_op; go_big_quiet_on) | (go_big_quiet_want; refine quiet_agg2B (ty := 74) rfl rfl (by kernel_rfl) (by assumption) (by assumption) (by first | omega | (simp; omega)) ?_; simp only [Act.put, List.setIfInBounds_toArray, List.set_cons_succ, List.set_cons_zero]; go_big_quiet_on)))
  (try refine wpQuiet_nil ?_)
  (rw [wpMixC])
  (rw [wpMix])
  (refine hQ' _ _ ?_)
  obtain ⟨W8, hW8⟩ : ∃ W8, W8 = W7.drew := ⟨_, rfl⟩
  rw [← hW8]
  have hb8 : Below W7.heap.size W7 W8 := by rw [hW8]; (repeat (with_reducible first | exact Below.refl _ _ | assumption | refine Below.drewN _ ?_ | refine Below.drew ?_ | refine Below_alloc ?_ _ | refine Below.alloc ?_ (by first | (simp; done) | (simp; omega) | omega) _ | refine Below.setCell ?_ (by first | (simp; done) | (simp; omega) | omega) _ | refine Below_call ?_ (by assumption) | refine Below.trans ?_ (by assumption)))
  clear hW8
  have hB9 : Below W7.heap.size W7 W8 := by (repeat (with_reducible first | exact Below.refl _ _ | assumption | refine Below.drewN _ ?_ | refine Below.drew ?_ | refine Below_alloc ?_ _ | refine Below.alloc ?_ (by first | (simp; done) | (simp; omega) | omega) _ | refine Below.setCell ?_ (by first | (simp; done) | (simp; omega) | omega) _ | refine Below_call ?_ (by assumption) | refine Below.trans ?_ (by assumption)))
  have hBW : Below w.heap.size w W8 := by (repeat (with_reducible first | exact Below.refl _ _ | assumption | refine Below.drewN _ ?_ | refine Below.drew ?_ | refine Below_alloc ?_ _ | refine Below.alloc ?_ (by first | (simp; done) | (simp; omega) | omega) _ | refine Below.setCell ?_ (by first | (simp; done) | (simp; omega) | omega) _ | refine Below_call ?_ (by assumption) | refine Below.trans ?_ (by assumption)))
  have HL9 := hid (HL7.out.below hB9)
  clear hB9
  go_wp2_with (first | (go_at_call 50; refine (ref_StudyErr _ _ _).mono ?_; rintro _ _ ⟨rfl, rfl⟩) | (go_at_call 42; refine (ref_RiskErr _ _).mono ?_; rintro _ _ ⟨rfl, rfl⟩))
  refine (first_list [studyErr T H, rskErr r] 2 _ _ _ rfl (by decide) (by first | (with_reducible rfl) | simp)).mono ?_
  rintro _ _ ⟨rfl, rfl⟩
  rw [HCC.out]
  have HLA := hid (HL9.out.below (w' := (W8).alloc (.cells #[.int .i64 (studyErr T H), .int .i64 (rskErr r)] 3)) (by (repeat (with_reducible first | exact Below.refl _ _ | assumption | refine Below.drewN _ ?_ | refine Below.drew ?_ | refine Below_alloc ?_ _ | refine Below.alloc ?_ (by first | (simp; done) | (simp; omega) | omega) _ | refine Below.setCell ?_ (by first | (simp; done) | (simp; omega) | omega) _ | refine Below_call ?_ (by assumption) | refine Below.trans ?_ (by assumption)))))
  go_wp2_with (go_at_call 54; refine (RL.out _).mono ?_; rintro _ w10 ⟨rfl, hb10⟩; obtain ⟨n10, e0, e1⟩ := HLA.out.below hb10)
  go_ret
  exact ⟨by simp, by (repeat (with_reducible first | exact Below.refl _ _ | assumption | refine Below.drewN _ ?_ | refine Below.drew ?_ | refine Below_alloc ?_ _ | refine Below.alloc ?_ (by first | (simp; done) | (simp; omega) | omega) _ | refine Below.setCell ?_ (by first | (simp; done) | (simp; omega) | omega) _ | refine Below_call ?_ (by assumption) | refine Below.trans ?_ (by assumption)))⟩

set_option maxRecDepth 100000 in
set_option maxHeartbeats 4000000 in
theorem law_Limits_eee (T H S r wv bl bh cv ll lh : Int) (w : World)
    (HW : Hid (∀ W, Calls Try.prog 46 #[.int .i64 T, .int .i64 H, .int .i64 S] W fun e w' => e = .returned (.tuple #[.int .i64 0, .int .i64 2]) ∧ Below W.heap.size W w'))
    (HB : Hid (∀ W, Calls Try.prog 48 #[.int .i64 T, .int .i64 S, .int .i64 r] W fun e w' => e = .returned (.tuple #[.agg #[.int .i64 0, .int .i64 0], .int .i64 2]) ∧ Below W.heap.size W w'))
    (HL : Hid (∀ W, Calls Try.prog 47 #[.int .i64 T, .int .i64 H, .int .i64 r] W fun e w' => e = .returned (.tuple #[.agg #[.int .i64 0, .int .i64 0], .int .i64 2]) ∧ Below W.heap.size W w'))
    (HC : Hid (∀ W, Calls Try.prog 43 #[.int .i64 T, .int .i64 S, .int .i64 r] W fun e w' => e = .returned (.tuple #[.int .i64 0, .int .i64 2]) ∧ Below W.heap.size W w'))
    (hA : firstNZ [studyErr T H, tenErr S] = 2) (hB : firstNZ [trErr T, tenErr S, rskErr r] = 2) (hC : firstNZ [studyErr T H, rskErr r] = 2)
    : Calls Try.prog 7 #[.int .i64 T, .int .i64 H, .agg #[.int .i64 S, .int .i64 r]] w fun e w' => e = .returned (.bool true) ∧ Below w.heap.size w w' := by
  have HA := hid hA
  have HBB := hid hB
  have HCC := hid hC
  clear hA hB hC
  go_enter Try.func7, Try.ntmps7
  go_wp2_with (go_at_call 11; refine (law_awake _).mono ?_; rintro _ w1 ⟨rfl, hb1⟩; obtain ⟨hc1, hf1⟩ := bcell hb1; have hz1 := hb1.size; (try simp only [World.size_alloc, World.heap_drewN] at hz1); have hk1_0 : w.heap.size < w1.heap.size := (by omega); have q1_0_0 := hc1 (w.heap.size) 0 (by first | assumption | (simp; done) | (simp; omega)); (try simp at q1_0_0); have p1_0_0 := hf1 (w.heap.size) 0 (by first | assumption | (simp; done) | (simp; omega)); (try simp at p1_0_0); have q1_0_1 := hc1 (w.heap.size) 1 (by first | assumption | (simp; done) | (simp; omega)); (try simp at q1_0_1); have p1_0_1 := hf1 (w.heap.size) 1 (by first | assumption | (simp; done) | (simp; omega)); (try simp at p1_0_1))
  go_quiet (fail)
  go_wp2_with (first | (go_at_call 46; refine (HW.out _).mono ?_; rintro _ w2 ⟨rfl, hb2⟩; obtain ⟨hc2, hf2⟩ := bcell hb2; have hz2 := hb2.size; (try simp only [World.size_alloc, World.heap_drewN] at hz2)) | (go_at_call 48; refine (HB.out _).mono ?_; rintro _ w3 ⟨rfl, hb3⟩) | (go_at_call 47; refine (HL.out _).mono ?_; rintro _ w4 ⟨rfl, hb4⟩) | (go_at_call 43; refine (HC.out _).mono ?_; rintro _ w5 ⟨rfl, hb5⟩) | (go_at_call 50; refine (ref_StudyErr _ _ _).mono ?_; rintro _ _ ⟨rfl, rfl⟩) | (go_at_call 41; refine (ref_ShareErr _ _).mono ?_; rintro _ _ ⟨rfl, rfl⟩))
  have HBX : Hid (Pair2 (w3.alloc (.cells #[.int .i64 0, .int .i64 0] 74)) w3.heap.size (.int .i64 0) (.int .i64 0)) := hid ⟨by simp, by simp, by simp⟩
  have HLX : Hid (Pair2 (w4.alloc (.cells #[.int .i64 0, .int .i64 0] 74)) w4.heap.size (.int .i64 0) (.int .i64 0)) := hid ⟨by simp, by simp, by simp⟩
  refine (first_list [studyErr T H, tenErr S] 2 _ _ _ rfl (by decide) rfl).mono ?_
  rintro _ _ ⟨rfl, rfl⟩
  rw [HA.out]
  go_wp2_with (first | (go_at_call 41; refine (ref_ShareErr _ _).mono ?_; rintro _ _ ⟨rfl, rfl⟩) | (go_at_call 40; refine (ref_CountErr _ _).mono ?_; rintro _ _ ⟨rfl, rfl⟩) | (go_at_call 42; refine (ref_RiskErr _ _).mono ?_; rintro _ _ ⟨rfl, rfl⟩))
  refine (first_list [trErr T, tenErr S, rskErr r] 3 _ _ _ rfl (by decide) (by first | (with_reducible rfl) | simp)).mono ?_
  rintro _ _ ⟨rfl, rfl⟩
  rw [HBB.out]
  go_wp2_with fail
  obtain ⟨W7, hW7⟩ : ∃ W7, W7 = (w5.alloc (.cells #[.int .i64 (studyErr T H), .int .i64 (tenErr S)] 3)).alloc (.cells #[.int .i64 (trErr T), .int .i64 (tenErr S), .int .i64 (rskErr r)] 3) := ⟨_, rfl⟩
  rw [← hW7]
  obtain ⟨hB7, hB7a, hB7b⟩ : Below w.heap.size w W7 ∧ Below (w3.alloc (.cells #[.int .i64 0, .int .i64 0] 74)).heap.size (w3.alloc (.cells #[.int .i64 0, .int .i64 0] 74)) W7 ∧ Below (w4.alloc (.cells #[.int .i64 0, .int .i64 0] 74)).heap.size (w4.alloc (.cells #[.int .i64 0, .int .i64 0] 74)) W7 := by rw [hW7]; exact ⟨by (repeat (with_reducible first | exact Below.refl _ _ | assumption | refine Below.drewN _ ?_ | refine Below.drew ?_ | refine Below_alloc ?_ _ | refine Below.alloc ?_ (by first | (simp; done) | (simp; omega) | omega) _ | refine Below.setCell ?_ (by first | (simp; done) | (simp; omega) | omega) _ | refine Below_call ?_ (by assumption) | refine Below.trans ?_ (by assumption))), by (repeat (with_reducible first | exact Below.refl _ _ | assumption | refine Below.drewN _ ?_ | refine Below.drew ?_ | refine Below_alloc ?_ _ | refine Below.alloc ?_ (by first | (simp; done) | (simp; omega) | omega) _ | refine Below.setCell ?_ (by first | (simp; done) | (simp; omega) | omega) _ | refine Below_call ?_ (by assumption) | refine Below.trans ?_ (by assumption))), by (repeat (with_reducible first | exact Below.refl _ _ | assumption | refine Below.drewN _ ?_ | refine Below.drew ?_ | refine Below_alloc ?_ _ | refine Below.alloc ?_ (by first | (simp; done) | (simp; omega) | omega) _ | refine Below.setCell ?_ (by first | (simp; done) | (simp; omega) | omega) _ | refine Below_call ?_ (by assumption) | refine Below.trans ?_ (by assumption)))⟩
  obtain ⟨n7, e70, e71⟩ := HBX.out.below hB7a
  have HL7 := hid (HLX.out.below hB7b)
  clear hW7 hB7a hB7b hb1 hb2 hb3 hb4 hb5 HBX HLX
  refine wp_mixC (fun wc => Below (W7.heap.size) W7 wc) 49 [.q [0, 1, 2, 3, 4, 5, 6, 7, 8, 9, 10, 11, 12, 13, 14, 15, 16, 17, 18, 19, 20, 21, 22, 23, 24, 25, 26, 27, 28, 29, 30, 31], .f [32], .q [33, 34, 35, 36, 37, 38, 39, 40, 41, 42, 43], .f [44], .q [45, 46, 47, 48]] [] (by kernel_rfl) (by kernel_rfl) ((Below.refl _ _).drew) ?_
  intro Q' hQ'
  (rw [wpMixC]; simp only [pick, List.drop_succ_cons, List.drop_zero, List.head?_cons, Option.toList_some, List.cons_append, List.nil_append])
  (repeat (first | go_big_quiet_skip | (go_big_quiet_want; refine quiet_simple rfl ?_; go_big_quiet_op; go_big_quiet_on) | (go_big_quiet_want; refine quiet_agg2B (ty := 74) rfl rfl (by kernel_rfl) (by assumption) (by assumption) (by first | omega | (simp; omega)) ?_; simp only [Act.put, List.setIfInBounds_toArray, List.set_cons_succ, List.set_cons_zero]; go_big_quiet_on)))
  (try refine wpQuiet_nil ?_)
  (rw [wpMixC]; simp only [pick, List.drop_succ_cons, List.drop_zero, List.head?_cons, Option.toList_some, List.cons_append, List.nil_append])
  (rw [wpSteps]; go_wp2_with (fail); rw [contF]; refine ⟨?_, ?_⟩; (next => (repeat (with_reducible first | exact Below.refl _ _ | assumption | refine Below.drewN _ ?_ | refine Below.drew ?_ | refine Below_alloc ?_ _ | refine Below.alloc ?_ (by first | (simp; done) | (simp; omega) | omega) _ | refine Below.setCell ?_ (by first | (simp; done) | (simp; omega) | omega) _ | refine Below_call ?_ (by assumption) | refine Below.trans ?_ (by assumption)))))
  (rw [wpSteps])
  (rw [wpMixC]; simp only [pick, List.drop_succ_cons, List.drop_zero, List.head?_cons, Option.toList_some, List.cons_append, List.nil_append])
  (repeat (first | go_big_quiet_skip | (go_big_quiet_want; refine quiet_simple rfl ?_; go_big_quiet_op; go_big_quiet_on) | (go_big_quiet_want; refine quiet_agg2B (ty := 74) rfl rfl (by kernel_rfl) (by assumption) (by assumption) (by first | omega | (simp; omega)) ?_; simp only [Act.put, List.setIfInBounds_toArray, List.set_cons_succ, List.set_cons_zero]; go_big_quiet_on)))
  (try refine wpQuiet_nil ?_)
  (rw [wpMixC]; simp only [pick, List.drop_succ_cons, List.drop_zero, List.head?_cons, Option.toList_some, List.cons_append, List.nil_append])
  (rw [wpSteps]; go_wp2_with (fail); rw [contF]; refine ⟨?_, ?_⟩; (next => (repeat (with_reducible first | exact Below.refl _ _ | assumption | refine Below.drewN _ ?_ | refine Below.drew ?_ | refine Below_alloc ?_ _ | refine Below.alloc ?_ (by first | (simp; done) | (simp; omega) | omega) _ | refine Below.setCell ?_ (by first | (simp; done) | (simp; omega) | omega) _ | refine Below_call ?_ (by assumption) | refine Below.trans ?_ (by assumption)))))
  (rw [wpSteps])
  (rw [wpMixC]; simp only [pick, List.drop_succ_cons, List.drop_zero, List.head?_cons, Option.toList_some, List.cons_append, List.nil_append])
  (repeat (first | go_big_quiet_skip | (go_big_quiet_want; refine quiet_simple rfl ?_; go_big_quiet_op; go_big_quiet_on) | (go_big_quiet_want; refine quiet_agg2B (ty := 74) rfl rfl (by kernel_rfl) (by assumption) (by assumption) (by first | omega | (simp; omega)) ?_; simp only [Act.put, List.setIfInBounds_toArray, List.set_cons_succ, List.set_cons_zero]; go_big_quiet_on)))
  (try refine wpQuiet_nil ?_)
  (rw [wpMixC])
  (rw [wpMix])
  (refine hQ' _ _ ?_)
  obtain ⟨W8, hW8⟩ : ∃ W8, W8 = W7.drew := ⟨_, rfl⟩
  rw [← hW8]
  have hb8 : Below W7.heap.size W7 W8 := by rw [hW8]; (repeat (with_reducible first | exact Below.refl _ _ | assumption | refine Below.drewN _ ?_ | refine Below.drew ?_ | refine Below_alloc ?_ _ | refine Below.alloc ?_ (by first | (simp; done) | (simp; omega) | omega) _ | refine Below.setCell ?_ (by first | (simp; done) | (simp; omega) | omega) _ | refine Below_call ?_ (by assumption) | refine Below.trans ?_ (by assumption)))
  clear hW8
  have hB9 : Below W7.heap.size W7 W8 := by (repeat (with_reducible first | exact Below.refl _ _ | assumption | refine Below.drewN _ ?_ | refine Below.drew ?_ | refine Below_alloc ?_ _ | refine Below.alloc ?_ (by first | (simp; done) | (simp; omega) | omega) _ | refine Below.setCell ?_ (by first | (simp; done) | (simp; omega) | omega) _ | refine Below_call ?_ (by assumption) | refine Below.trans ?_ (by assumption)))
  have hBW : Below w.heap.size w W8 := by (repeat (with_reducible first | exact Below.refl _ _ | assumption | refine Below.drewN _ ?_ | refine Below.drew ?_ | refine Below_alloc ?_ _ | refine Below.alloc ?_ (by first | (simp; done) | (simp; omega) | omega) _ | refine Below.setCell ?_ (by first | (simp; done) | (simp; omega) | omega) _ | refine Below_call ?_ (by assumption) | refine Below.trans ?_ (by assumption)))
  have HL9 := hid (HL7.out.below hB9)
  clear hB9
  go_wp2_with (first | (go_at_call 50; refine (ref_StudyErr _ _ _).mono ?_; rintro _ _ ⟨rfl, rfl⟩) | (go_at_call 42; refine (ref_RiskErr _ _).mono ?_; rintro _ _ ⟨rfl, rfl⟩))
  refine (first_list [studyErr T H, rskErr r] 2 _ _ _ rfl (by decide) (by first | (with_reducible rfl) | simp)).mono ?_
  rintro _ _ ⟨rfl, rfl⟩
  rw [HCC.out]
  have HLA := hid (HL9.out.below (w' := (W8).alloc (.cells #[.int .i64 (studyErr T H), .int .i64 (rskErr r)] 3)) (by (repeat (with_reducible first | exact Below.refl _ _ | assumption | refine Below.drewN _ ?_ | refine Below.drew ?_ | refine Below_alloc ?_ _ | refine Below.alloc ?_ (by first | (simp; done) | (simp; omega) | omega) _ | refine Below.setCell ?_ (by first | (simp; done) | (simp; omega) | omega) _ | refine Below_call ?_ (by assumption) | refine Below.trans ?_ (by assumption)))))
  obtain ⟨n10, e0, e1⟩ := HLA.out
  go_wp2_with fail
  go_ret
  exact ⟨by simp, by (repeat (with_reducible first | exact Below.refl _ _ | assumption | refine Below.drewN _ ?_ | refine Below.drew ?_ | refine Below_alloc ?_ _ | refine Below.alloc ?_ (by first | (simp; done) | (simp; omega) | omega) _ | refine Below.setCell ?_ (by first | (simp; done) | (simp; omega) | omega) _ | refine Below_call ?_ (by assumption) | refine Below.trans ?_ (by assumption)))⟩

end Go.Proofs.Ytllddidjiabegaa
