/- The chapter's examples hold. -/
import Derived.Test.YtllddidjiabegaaX5
set_option linter.unusedVariables false
set_option linter.unusedSimpArgs false
namespace Go.Proofs.Ytllddidjiabegaa
open Go.RowKit

theorem aw1 : pofErr 3 4 = 0 := by decide
theorem aw2 : pofList 3 4 = [1, 2, 0] := by decide
theorem aw3 : cbErr exM exL = 0 := by decide
theorem aw4 : cbN exM exL = 2 := by decide
theorem aw5 : sbList exM exL = [0, 1, 2] := by decide
theorem aw6 : chanceV 4 2 2 1 = .tuple #[.agg #[.int .i64 5, .int .i64 6], .int .i64 0] := by rfl
theorem aw7 : lowNum 5 6 = 5 ∧ lowDen 5 6 = 6 := by decide
theorem aw8 : limForV 2 2 100 = .tuple #[.agg #[.int .i64 3, .int .i64 10], .int .i64 0] := by rfl

set_option maxRecDepth 100000 in
set_option maxHeartbeats 1000000 in
theorem law_awake (w : World) : Calls Try.prog 11 #[] w fun e w' => e = .returned (.bool true) ∧ Below w.heap.size w w' := by
  have HP : Hid (∀ W, Calls Try.prog 60 #[.int .i64 3, .int .i64 4] W (RetIntsE W [1, 2, 0] 0)) := hid (fun W => by have := blind_PermutationOf 3 4 W; rwa [aw1, aw2] at this)
  have HC : Hid (∀ W cv v, EventsAt W v exL → ClausesAt W cv exM.cs → Calls Try.prog 18 #[.agg #[cv, .int .i64 10, .int .i64 3, .int .i64 6], v] W fun e w' => e = .returned (.tuple #[.int .i64 2, .int .i64 0]) ∧ Below W.heap.size W w') := hid (fun W cv v hl hc => by have := blind_CountBy exM cv exL v W hl hc; rwa [aw3, aw4] at this)
  have HX : Hid (∀ W, Calls Try.prog 24 #[.agg #[.int .i64 4, .int .i64 2, .int .i64 2, .int .i64 1]] W fun e w' => e = .returned (.tuple #[.agg #[.int .i64 5, .int .i64 6], .int .i64 0]) ∧ Below W.heap.size W w') := hid (fun W => by have := blind_ChanceOf 4 2 2 1 W; rwa [aw6] at this)
  have HL : Hid (∀ W, Calls Try.prog 47 #[.int .i64 2, .int .i64 2, .int .i64 100] W fun e w' => e = .returned (.tuple #[.agg #[.int .i64 3, .int .i64 10], .int .i64 0]) ∧ Below W.heap.size W w') := hid (fun W => by have := blind_LimitsFor 2 2 100 W; rwa [aw8] at this)
  have HS : Hid (∀ W cv v, EventsAt W v exL → ClausesAt W cv exM.cs → Calls Try.prog 16 #[.agg #[cv, .int .i64 10, .int .i64 3, .int .i64 6], v] W (RetIntsE W [0, 1, 2] 0)) := hid (fun W cv v hl hc => by have := blind_SelectedBy exM cv exL v W hl hc; rwa [aw3, aw5] at this)
  have HI : Hid (∀ W v u l, IntsAt W v l → IntsAt W u l → Calls Try.prog 21 #[v, u] W fun e w' => e = .returned (.bool true) ∧ Below W.heap.size W w') := hid (fun W v u l h h' => (base_Ints l l v u W h h').mono (by rintro _ _ ⟨rfl, k, rfl⟩; exact ⟨by simp, Below.drewN _ (Below.refl _ _)⟩))
  have HLo : Hid (∀ W, Calls Try.prog 72 #[.int .i64 5, .int .i64 6] W fun e w' => e = .returned (.agg #[.int .i64 5, .int .i64 6]) ∧ Below W.heap.size W w') := hid (fun W => by have := base_Lowest 5 6 W (by omega) (by omega) (by omega) (by omega); rwa [aw7.1, aw7.2] at this)
  go_enter Try.func11, Try.ntmps11
  go_wp2_with (go_at_call 60; refine (HP.out _).mono ?_; rintro _ w1 ⟨pv, rfl, hp1, hb1⟩)
  go_wp2_with (go_at_call 70; refine (law_Method _).mono ?_; rintro _ w2 ⟨cv, rfl, hcl, hb2⟩; unfold methV)
  go_wp2_with (first | (go_at_call 71; refine (law_Events _).mono ?_; rintro _ w3 ⟨lv, rfl, hlv, hb3⟩) | (go_at_call 18; refine (HC.out _ _ _ hlv (hcl.below hb3)).mono ?_; rintro _ w4 ⟨rfl, hb4⟩) | (go_at_call 24; refine (HX.out _).mono ?_; rintro _ w5 ⟨rfl, hb5⟩) | (go_at_call 47; refine (HL.out _).mono ?_; rintro _ w6 ⟨rfl, hb6⟩))
  refine (law_Method _).mono ?_
  rintro _ w7 ⟨cv2, rfl, hcl2, hb7⟩
  unfold methV
  go_wp2_with (first | (go_at_call 71; refine (law_Events _).mono ?_; rintro _ w8 ⟨lv2, rfl, hlv2, hb8⟩) | (go_at_call 16; refine (HS.out _ _ _ hlv2 (hcl2.below hb8)).mono ?_; rintro _ w9 ⟨sv, rfl, hsv, hb9⟩))
  obtain ⟨hB1, hBw, hB5, hB6⟩ : Below w1.heap.size w1 w9 ∧ Below w.heap.size w w9 ∧ Below (w5.alloc (.cells #[.int .i64 5, .int .i64 6] 48)).heap.size (w5.alloc (.cells #[.int .i64 5, .int .i64 6] 48)) w9 ∧ Below (w6.alloc (.cells #[.int .i64 3, .int .i64 10] 74)).heap.size (w6.alloc (.cells #[.int .i64 3, .int .i64 10] 74)) w9 := ⟨by (repeat (with_reducible first | exact Below.refl _ _ | assumption | refine Below.drewN _ ?_ | refine Below.drew ?_ | refine Below_alloc ?_ _ | refine Below.alloc ?_ (by first | (simp; done) | (simp; omega) | omega) _ | refine Below.setCell ?_ (by first | (simp; done) | (simp; omega) | omega) _ | refine Below_call ?_ (by assumption) | refine Below.trans ?_ (by assumption))), by (repeat (with_reducible first | exact Below.refl _ _ | assumption | refine Below.drewN _ ?_ | refine Below.drew ?_ | refine Below_alloc ?_ _ | refine Below.alloc ?_ (by first | (simp; done) | (simp; omega) | omega) _ | refine Below.setCell ?_ (by first | (simp; done) | (simp; omega) | omega) _ | refine Below_call ?_ (by assumption) | refine Below.trans ?_ (by assumption))), by (repeat (with_reducible first | exact Below.refl _ _ | assumption | refine Below.drewN _ ?_ | refine Below.drew ?_ | refine Below_alloc ?_ _ | refine Below.alloc ?_ (by first | (simp; done) | (simp; omega) | omega) _ | refine Below.setCell ?_ (by first | (simp; done) | (simp; omega) | omega) _ | refine Below_call ?_ (by assumption) | refine Below.trans ?_ (by assumption))), by (repeat (with_reducible first | exact Below.refl _ _ | assumption | refine Below.drewN _ ?_ | refine Below.drew ?_ | refine Below_alloc ?_ _ | refine Below.alloc ?_ (by first | (simp; done) | (simp; omega) | omega) _ | refine Below.setCell ?_ (by first | (simp; done) | (simp; omega) | omega) _ | refine Below_call ?_ (by assumption) | refine Below.trans ?_ (by assumption)))⟩
  have a0 := (bcell hB5).1 w5.heap.size 0 (by simp)
  have a1 := (bcell hB5).1 w5.heap.size 1 (by simp)
  have b0 := (bcell hB6).1 w6.heap.size 0 (by simp)
  have b1 := (bcell hB6).1 w6.heap.size 1 (by simp)
  simp at a0 a1 b0 b1
  have k5 : w5.heap.size < w9.heap.size := by have := hB5.size; simp at this; omega
  have k6 : w6.heap.size < w9.heap.size := by have := hB6.size; simp at this; omega
  have hpv := hp1.below hB1
  clear hB1 hB5 hB6 hb1 hb2 hb3 hb4 hb5 hb6 hb7 hb8 hb9 hcl hcl2 hlv hlv2
  refine wp_mix [.f [0, 1, 2], .q [3], .f [4, 5, 6, 7, 8, 9, 10, 11, 12, 13, 14, 15, 16, 17, 18, 19], .p 20 21, .f [22, 23, 24, 25, 26, 27, 28], .q [30], .f [29, 31, 32, 33, 34, 35, 36, 37], .q [38], .f [39, 40, 41, 42, 43, 44, 45, 46]] (by kernel_rfl) (by kernel_rfl) ?_
  intro Q' hQ'
  have hnew : IntsAt (w9.alloc (.cells #[.int .i64 1, .int .i64 2, .int .i64 0] 3)).drew (.slice (some ⟨w9.heap.size, 0, none⟩) 3 3) [1, 2, 0] := (intsAt_new w9 3 [1, 2, 0] 3 _ rfl (by decide) rfl).below (Below.drew (Below.refl _ _))
  rw [wpMix]
  simp only [pick, List.drop_succ_cons, List.drop_zero, List.head?_cons, Option.toList_some, List.cons_append, List.nil_append]
  go_wp2_with fail
  rw [contF]
  rw [wpMix]
  simp only [pick, List.drop_succ_cons, List.drop_zero, List.head?_cons, Option.toList_some, List.cons_append, List.nil_append]
  repeat (first | (go_big_quiet_step (fail)) | (quiet_step (fail)))
  try refine wpQuiet_nil ?_
  rw [wpMix]
  simp only [pick, List.drop_succ_cons, List.drop_zero, List.head?_cons, Option.toList_some, List.cons_append, List.nil_append]
  go_wp2_with (go_at_call 21; go_loud (refine (HI.out _ pv _ [1, 2, 0] (hpv.below (by (repeat (with_reducible first | exact Below.refl _ _ | assumption | refine Below.drewN _ ?_ | refine Below.drew ?_ | refine Below_alloc ?_ _ | refine Below.alloc ?_ (by first | (simp; done) | (simp; omega) | omega) _ | refine Below.setCell ?_ (by first | (simp; done) | (simp; omega) | omega) _ | refine Below_call ?_ (by assumption) | refine Below.trans ?_ (by assumption))))) hnew).mono ?_); rintro _ w10 ⟨rfl, hb10⟩)
  rw [contF]
  have hB9 : Below w9.heap.size w9 w10 := by (repeat (with_reducible first | exact Below.refl _ _ | assumption | refine Below.drewN _ ?_ | refine Below.drew ?_ | refine Below_alloc ?_ _ | refine Below.alloc ?_ (by first | (simp; done) | (simp; omega) | omega) _ | refine Below.setCell ?_ (by first | (simp; done) | (simp; omega) | omega) _ | refine Below_call ?_ (by assumption) | refine Below.trans ?_ (by assumption)))
  have a0' := ((bcell hB9).1 _ 0 k5).trans a0
  have a1' := ((bcell hB9).1 _ 1 k5).trans a1
  have b0' := ((bcell hB9).1 _ 0 k6).trans b0
  have b1' := ((bcell hB9).1 _ 1 k6).trans b1
  have k5' : w5.heap.size < w10.heap.size := Nat.lt_of_lt_of_le k5 hB9.size
  have k6' : w6.heap.size < w10.heap.size := Nat.lt_of_lt_of_le k6 hB9.size
  have hBw' : Below w.heap.size w w10 := hBw.trans (hB9.mono hBw.size)
  have hsv' := hsv.below hB9
  clear hb10 hB9 a0 a1 b0 b1 k5 k6 hBw hsv hpv
  rw [wpMix]
  refine ⟨?_, ?_⟩
  all_goals
    simp only [pick, List.drop_succ_cons, List.drop_zero, List.head?_cons, Option.toList_some, List.cons_append, List.nil_append]
    go_wp2_with (go_at_call 72; go_loud (refine (HLo.out _).mono ?_); go_loud (rintro _ w11 ⟨rfl, hb11⟩); go_loud (have k5 : w5.heap.size < w11.heap.size := Nat.lt_of_lt_of_le k5' hb11.size); have k6 : w6.heap.size < w11.heap.size := (Nat.lt_of_lt_of_le k6' hb11.size); have a0 := ((bcell hb11).1 _ 0 k5').trans a0'; have a1 := ((bcell hb11).1 _ 1 k5').trans a1'; have b0 := ((bcell hb11).1 _ 0 k6').trans b0'; have b1 := ((bcell hb11).1 _ 1 k6').trans b1')
    rw [contF]
    rw [wpMix]
    simp only [pick, List.drop_succ_cons, List.drop_zero, List.head?_cons, Option.toList_some, List.cons_append, List.nil_append]
    go_wp2_with fail
    rw [contF]
    rw [wpMix]
    simp only [pick, List.drop_succ_cons, List.drop_zero, List.head?_cons, Option.toList_some, List.cons_append, List.nil_append]
    repeat (first | (go_big_quiet_step (fail)) | (quiet_step (fail)))
    try refine wpQuiet_nil ?_
    rw [wpMix]
    simp only [pick, List.drop_succ_cons, List.drop_zero, List.head?_cons, Option.toList_some, List.cons_append, List.nil_append]
    go_wp2_with fail
    rw [contF]
    rw [wpMix]
    simp only [pick, List.drop_succ_cons, List.drop_zero, List.head?_cons, Option.toList_some, List.cons_append, List.nil_append]
    repeat (first | (go_big_quiet_step (fail)) | (quiet_step (fail)))
    try refine wpQuiet_nil ?_
    rw [wpMix]
    simp only [pick, List.drop_succ_cons, List.drop_zero, List.head?_cons, Option.toList_some, List.cons_append, List.nil_append]
    go_wp2_with (first | (go_at_call 21; refine (HI.out _ sv _ [0, 1, 2] (hsv'.below (by (repeat (with_reducible first | exact Below.refl _ _ | assumption | refine Below.drewN _ ?_ | refine Below.drew ?_ | refine Below_alloc ?_ _ | refine Below.alloc ?_ (by first | (simp; done) | (simp; omega) | omega) _ | refine Below.setCell ?_ (by first | (simp; done) | (simp; omega) | omega) _ | refine Below_call ?_ (by assumption) | refine Below.trans ?_ (by assumption))))) (intsAt_new _ _ _ _ _ rfl (by first | decide | simp) (by first | rfl | simp))).mono ?_; rintro _ w12 ⟨rfl, hb12⟩) | (go_at_call 73; refine (blind_SumOf_ab _).mono ?_; rintro _ w13 ⟨rfl, hb13⟩))
    rw [contF]
    rw [wpMix]
    refine hQ' _ _ ?_
    go_wp2
    go_ret
    exact ⟨rfl, by (repeat (with_reducible first | exact Below.refl _ _ | assumption | refine Below.drewN _ ?_ | refine Below.drew ?_ | refine Below_alloc ?_ _ | refine Below.alloc ?_ (by first | (simp; done) | (simp; omega) | omega) _ | refine Below.setCell ?_ (by first | (simp; done) | (simp; omega) | omega) _ | refine Below_call ?_ (by assumption) | refine Below.trans ?_ (by assumption)))⟩

end Go.Proofs.Ytllddidjiabegaa
