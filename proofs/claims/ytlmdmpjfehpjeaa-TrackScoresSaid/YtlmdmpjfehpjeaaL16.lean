/- Wide numbers added, subtracted, compared. -/
import Derived.Test.YtlmdmpjfehpjeaaL15
set_option linter.unusedVariables false
set_option linter.unusedSimpArgs false
namespace Go.Proofs.Ytlmdmpjfehpjeaa
open Go.RowKit

theorem sg_zero {z : Int} : sg z = 0 ↔ z = 0 := by unfold sg; split; omega; split <;> omega
theorem sg_same {x y : Int} (hx : x ≠ 0) (h : sg x = sg y) : (x + y).natAbs = x.natAbs + y.natAbs ∧ sg (x + y) = sg x := by
  unfold sg at *
  split at h <;> split at h <;> (try split at h) <;> (try split at h) <;> (first | omega | (refine ⟨by omega, ?_⟩; split <;> (try split) <;> omega))
theorem sg_diff {x y : Int} (hx : x ≠ 0) (hy : y ≠ 0) (h : sg x ≠ sg y) (hlt : y.natAbs < x.natAbs) : (x + y).natAbs = x.natAbs - y.natAbs ∧ sg (x + y) = sg x := by
  unfold sg at *
  split at h <;> split at h <;> (try split at h) <;> (try split at h) <;> (first | omega | (refine ⟨by omega, ?_⟩; split <;> (try split) <;> omega))
theorem sg_opp {x y : Int} (hx : x ≠ 0) (h : sg x ≠ sg y) (he : x.natAbs = y.natAbs) : x + y = 0 := by
  unfold sg at *
  split at h <;> split at h <;> (try split at h) <;> (try split at h) <;> omega
theorem cmpN_lt {a b : Nat} (h : a < b) : cmpN a b = -1 := by unfold cmpN; rw [if_pos h]
theorem cmpN_eq {a b : Nat} (h : a = b) : cmpN a b = 0 := by unfold cmpN; rw [if_neg (by omega), if_pos h]
theorem cmpN_gt {a b : Nat} (h : b < a) : cmpN a b = 1 := by unfold cmpN; rw [if_neg (by omega), if_neg (by omega)]

theorem alloc3 (w : World) (a b c : Array Value) (t s r : TypeId) : ∀ W, W = ((w.alloc (.cells a t)).alloc (.cells b s)).alloc (.cells c r) →
    W.heap[w.heap.size]? = some (.cells a t (0, 0)) ∧ W.heap[w.heap.size + 1]? = some (.cells b s (0, 0)) ∧ W.heap[w.heap.size + 1 + 1]? = some (.cells c r (0, 0)) := by
  rintro W rfl
  refine ⟨?_, ?_, ?_⟩
  · rw [Below.heap_alloc _ _ _ (by simp; omega), Below.heap_alloc _ _ _ (by simp), heap_alloc_new]
  · rw [Below.heap_alloc _ _ _ (by simp)]
    have := heap_alloc_new (w.alloc (.cells a t)) (.cells b s)
    simpa using this
  · have := heap_alloc_new ((w.alloc (.cells a t)).alloc (.cells b s)) (.cells c r)
    simpa using this

set_option maxRecDepth 100000 in
set_option maxHeartbeats 1000000 in
theorem base_WideAdd (x y : Int) (u v : Value) (w : World) (N : Nat → Prop) (hN : ∀ b, w.heap.size ≤ b → N b) (hu : WideAt w u x N) (hv : WideAt w v y N) (hx : (dig x.natAbs).length ≤ 100000) (hy : (dig y.natAbs).length ≤ 100000) :
    Calls Try.prog 136 #[u, v] w (RetWide w (x + y) N) := by
  have HU := hid hu
  have HV := hid hv
  obtain ⟨ao, cap, rfl, gu⟩ := hu
  obtain ⟨bo, cap2, rfl, gv⟩ := hv
  have HGU := hid gu
  have HGV := hid gv
  obtain ⟨sx, hsx⟩ : ∃ sx, sx = sg x := ⟨_, rfl⟩
  obtain ⟨sy, hsy⟩ : ∃ sy, sy = sg y := ⟨_, rfl⟩
  obtain ⟨lx, hlx⟩ : ∃ lx, lx = (dig x.natAbs).length := ⟨_, rfl⟩
  obtain ⟨ly, hly⟩ : ∃ ly, ly = (dig y.natAbs).length := ⟨_, rfl⟩
  have HSX := hid hsx
  have HSY := hid hsy
  have hrx := sg_range x
  have hry := sg_range y
  rw [← hsx, ← hlx] at HU ⊢
  rw [← hsy, ← hly] at HV ⊢
  rw [← hlx] at HGU
  rw [← hly] at HGV
  rw [← hsx] at hrx
  rw [← hsy] at hry
  have HLX := hid (And.intro hlx hx)
  have HLY := hid (And.intro hly hy)
  have HNN := hid hN
  clear gu gv hx hy hN hsx hsy hlx hly
  obtain ⟨W, hW⟩ : ∃ W, W = ((w.alloc (.cells #[.int .i64 sx, .slice ao lx cap] 51)).alloc (.cells #[.int .i64 sy, .slice bo ly cap2] 51)).alloc (.cells #[.int .i64 0, .slice none 0 0] 51) := ⟨_, rfl⟩
  have hzW : W.heap.size = w.heap.size + 1 + 1 + 1 := by rw [hW]; simp
  have hBW : Below w.heap.size w W := by rw [hW]; (repeat (with_reducible first | exact Below.refl _ _ | assumption | refine Below.drewN _ ?_ | refine Below.drew ?_ | refine Below_alloc ?_ _ | refine Below.alloc ?_ (by first | (simp; done) | (simp; omega) | omega) _ | refine Below.setCell ?_ (by first | (simp; done) | (simp; omega) | omega) _ | refine Below_call ?_ (by assumption) | refine Below.trans ?_ (by assumption)))
  obtain ⟨q0, q1, q2⟩ := alloc3 w _ _ _ _ _ _ W hW
  have HWC := hid q2
  obtain ⟨a0, a1, fa0, fa1, hl0⟩ := two_cells q0
  obtain ⟨b0, b1, fb0, fb1, hl1⟩ := two_cells q1
  obtain ⟨c0, c1, f0, f1, hl2⟩ := two_cells q2
  clear q0 q1 q2
  have hNW : ∀ b, b < w.heap.size → b ≠ w.heap.size + 1 + 1 := fun b h => by omega
  have HNW := hid hNW
  have HIa : Hid (∀ W', Below w.heap.size w W' → IntsAt W' (.slice ao lx cap) (dig x.natAbs)) := hid (fun W' h => HGU.out.ints.below h)
  have HIb : Hid (∀ W', Below w.heap.size w W' → IntsAt W' (.slice bo ly cap2) (dig y.natAbs)) := hid (fun W' h => HGV.out.ints.below h)
  clear hNW
  by_cases hx0 : sx = 0
  · have HE : Hid (x + y = y) := hid (by have := sg_zero.1 (HSX.out.symm.trans hx0); omega)
    subst hx0
    go_enter Try.func136, Try.ntmps136
    go_wp2_with fail
    ((try simp only [Exit.inBlock, Exit.then]); refine bodyPost_ret (v := .agg #[.int .i64 sy, .slice bo ly cap2]) ?_ rfl ?_; (next => simp [results, Try.results136, go_sem]))
    rw [HE.out]
    exact ⟨_, rfl, HV.out.mono (by (repeat (with_reducible first | exact Below.refl _ _ | assumption | refine Below.drewN _ ?_ | refine Below.drew ?_ | refine Below_alloc ?_ _ | refine Below.alloc ?_ (by first | (simp; done) | (simp; omega) | omega) _ | refine Below.setCell ?_ (by first | (simp; done) | (simp; omega) | omega) _ | refine Below_call ?_ (by assumption) | refine Below.trans ?_ (by assumption)))) (fun b h h' => h'), by (repeat (with_reducible first | exact Below.refl _ _ | assumption | refine Below.drewN _ ?_ | refine Below.drew ?_ | refine Below_alloc ?_ _ | refine Below.alloc ?_ (by first | (simp; done) | (simp; omega) | omega) _ | refine Below.setCell ?_ (by first | (simp; done) | (simp; omega) | omega) _ | refine Below_call ?_ (by assumption) | refine Below.trans ?_ (by assumption)))⟩
  by_cases hy0 : sy = 0
  · have HE : Hid (x + y = x) := hid (by have := sg_zero.1 (HSY.out.symm.trans hy0); omega)
    subst hy0
    go_enter Try.func136, Try.ntmps136
    go_wp2_with fail
    ((try simp only [Exit.inBlock, Exit.then]); refine bodyPost_ret (v := .agg #[.int .i64 sx, .slice ao lx cap]) ?_ rfl ?_; (next => simp [results, Try.results136, go_sem]))
    rw [HE.out]
    exact ⟨_, rfl, HU.out.mono (by (repeat (with_reducible first | exact Below.refl _ _ | assumption | refine Below.drewN _ ?_ | refine Below.drew ?_ | refine Below_alloc ?_ _ | refine Below.alloc ?_ (by first | (simp; done) | (simp; omega) | omega) _ | refine Below.setCell ?_ (by first | (simp; done) | (simp; omega) | omega) _ | refine Below_call ?_ (by assumption) | refine Below.trans ?_ (by assumption)))) (fun b h h' => h'), by (repeat (with_reducible first | exact Below.refl _ _ | assumption | refine Below.drewN _ ?_ | refine Below.drew ?_ | refine Below_alloc ?_ _ | refine Below.alloc ?_ (by first | (simp; done) | (simp; omega) | omega) _ | refine Below.setCell ?_ (by first | (simp; done) | (simp; omega) | omega) _ | refine Below_call ?_ (by assumption) | refine Below.trans ?_ (by assumption)))⟩
  have hxn : x ≠ 0 := fun h => hx0 (HSX.out.trans (sg_zero.2 h))
  have hyn : y ≠ 0 := fun h => hy0 (HSY.out.trans (sg_zero.2 h))
  by_cases hs : sx = sy
  · have HSAME := hid (sg_same hxn (HSX.out.symm.trans (hs.trans HSY.out)))
    have HSX' := HSX
    subst hs
    clear hxn hyn
    go_enter Try.func136, Try.ntmps136
    go_wp2_with fail
    rw [← hW]
    clear hW
    refine wp_mixC (fun wc => Below (W.heap.size) W wc) 8 [.q [0, 1, 2, 3, 4, 5], .f [6, 7]] [.f [8]] (by kernel_rfl) (by kernel_rfl) ((Below.refl _ _).drew) ?_
    intro Q' hQ'
    (rw [wpMixC]; simp only [pick, List.drop_succ_cons, List.drop_zero, List.head?_cons, Option.toList_some, List.cons_append, List.nil_append])
    (repeat (first | go_big_quiet_skip | (go_big_quiet_want; refine quiet_simple rfl ?_; go_big_quiet_op; go_big_quiet_on) | (go_big_quiet_want; refine quiet_cellB (ty := 3) rfl rfl (by kernel_rfl) (by assumption) (by first | omega | (simp; omega)) ?_; simp only [Act.put, List.setIfInBounds_toArray, List.set_cons_succ, List.set_cons_zero]; go_big_quiet_on) | (go_big_quiet_want; refine quiet_cellB (ty := 49) rfl rfl (by kernel_rfl) (by assumption) (by first | omega | (simp; omega)) ?_; simp only [Act.put, List.setIfInBounds_toArray, List.set_cons_succ, List.set_cons_zero]; go_big_quiet_on)))
    (try refine wpQuiet_nil ?_)
    (rw [wpMixC]; simp only [pick, List.drop_succ_cons, List.drop_zero, List.head?_cons, Option.toList_some, List.cons_append, List.nil_append])
    (rw [wpSteps]; go_wp2_with ((first | (go_at_call 149; refine (base_addDigits _ _ _ _ _ (HIa.out _ (by (repeat (with_reducible first | exact Below.refl _ _ | assumption | refine Below.drewN _ ?_ | refine Below.drew ?_ | refine Below_alloc ?_ _ | refine Below.alloc ?_ (by first | (simp; done) | (simp; omega) | omega) _ | refine Below.setCell ?_ (by first | (simp; done) | (simp; omega) | omega) _ | refine Below_call ?_ (by assumption) | refine Below.trans ?_ (by assumption))))) (HIb.out _ (by (repeat (with_reducible first | exact Below.refl _ _ | assumption | refine Below.drewN _ ?_ | refine Below.drew ?_ | refine Below_alloc ?_ _ | refine Below.alloc ?_ (by first | (simp; done) | (simp; omega) | omega) _ | refine Below.setCell ?_ (by first | (simp; done) | (simp; omega) | omega) _ | refine Below_call ?_ (by assumption) | refine Below.trans ?_ (by assumption))))) (isD_dig _) (isD_dig _) 100000 (by omega) HLX.out.2 HLY.out.2).mono ?_; rintro _ w1 ⟨r, rfl, xs, hdx, hisd, hval, hlen, hb1⟩; obtain ⟨ro, rc, rfl⟩ := hdx.shape; have HDX := hid (And.intro hdx (And.intro hisd (And.intro hval hlen))); have HB1 := hid hb1; have hzw1 := hb1.size; clear hdx hisd hval hlen) | (go_at_call 140; refine (base_wideOf _ _ _ _ _ (HDX.out.1.ints.below (by (repeat (with_reducible first | exact Below.refl _ _ | assumption | refine Below.drewN _ ?_ | refine Below.drew ?_ | refine Below_alloc ?_ _ | refine Below.alloc ?_ (by first | (simp; done) | (simp; omega) | omega) _ | refine Below.setCell ?_ (by first | (simp; done) | (simp; omega) | omega) _ | refine Below_call ?_ (by assumption) | refine Below.trans ?_ (by assumption))))) HDX.out.2.1).mono ?_; rintro _ w2 ⟨rfl, hb2⟩; have HB2 := hid hb2; obtain ⟨e0, e1, p0, p1, hlt1⟩ := two_cells ((hb2.block (w.heap.size + 1 + 1) (by first | omega | exact hl2 | exact hm2 | exact Nat.lt_of_lt_of_le hl2 hzw1 | exact Nat.lt_of_lt_of_le hm2 hzw1)).trans ((HB1.out.block (w.heap.size + 1 + 1) (by first | omega | exact hl2 | exact hm2 | exact Nat.lt_of_lt_of_le hl2 hzw1 | exact Nat.lt_of_lt_of_le hm2 hzw1)).trans HWC.out))))); rw [contF]; refine ⟨?_, ?_⟩; (next => (repeat (with_reducible first | exact Below.refl _ _ | assumption | refine Below.drewN _ ?_ | refine Below.drew ?_ | refine Below_alloc ?_ _ | refine Below.alloc ?_ (by first | (simp; done) | (simp; omega) | omega) _ | refine Below.setCell ?_ (by first | (simp; done) | (simp; omega) | omega) _ | refine Below_call ?_ (by assumption) | refine Below.trans ?_ (by assumption)))))
    (rw [wpSteps]; go_wp2_with ((first | (go_at_call 149; refine (base_addDigits _ _ _ _ _ (HIa.out _ (by (repeat (with_reducible first | exact Below.refl _ _ | assumption | refine Below.drewN _ ?_ | refine Below.drew ?_ | refine Below_alloc ?_ _ | refine Below.alloc ?_ (by first | (simp; done) | (simp; omega) | omega) _ | refine Below.setCell ?_ (by first | (simp; done) | (simp; omega) | omega) _ | refine Below_call ?_ (by assumption) | refine Below.trans ?_ (by assumption))))) (HIb.out _ (by (repeat (with_reducible first | exact Below.refl _ _ | assumption | refine Below.drewN _ ?_ | refine Below.drew ?_ | refine Below_alloc ?_ _ | refine Below.alloc ?_ (by first | (simp; done) | (simp; omega) | omega) _ | refine Below.setCell ?_ (by first | (simp; done) | (simp; omega) | omega) _ | refine Below_call ?_ (by assumption) | refine Below.trans ?_ (by assumption))))) (isD_dig _) (isD_dig _) 100000 (by omega) HLX.out.2 HLY.out.2).mono ?_; rintro _ w1 ⟨r, rfl, xs, hdx, hisd, hval, hlen, hb1⟩; obtain ⟨ro, rc, rfl⟩ := hdx.shape; have HDX := hid (And.intro hdx (And.intro hisd (And.intro hval hlen))); have HB1 := hid hb1; have hzw1 := hb1.size; clear hdx hisd hval hlen) | (go_at_call 140; refine (base_wideOf _ _ _ _ _ (HDX.out.1.ints.below (by (repeat (with_reducible first | exact Below.refl _ _ | assumption | refine Below.drewN _ ?_ | refine Below.drew ?_ | refine Below_alloc ?_ _ | refine Below.alloc ?_ (by first | (simp; done) | (simp; omega) | omega) _ | refine Below.setCell ?_ (by first | (simp; done) | (simp; omega) | omega) _ | refine Below_call ?_ (by assumption) | refine Below.trans ?_ (by assumption))))) HDX.out.2.1).mono ?_; rintro _ w2 ⟨rfl, hb2⟩; have HB2 := hid hb2; obtain ⟨e0, e1, p0, p1, hlt1⟩ := two_cells ((hb2.block (w.heap.size + 1 + 1) (by first | omega | exact hl2 | exact hm2 | exact Nat.lt_of_lt_of_le hl2 hzw1 | exact Nat.lt_of_lt_of_le hm2 hzw1)).trans ((HB1.out.block (w.heap.size + 1 + 1) (by first | omega | exact hl2 | exact hm2 | exact Nat.lt_of_lt_of_le hl2 hzw1 | exact Nat.lt_of_lt_of_le hm2 hzw1)).trans HWC.out))))); rw [contF]; refine ⟨?_, ?_⟩; (next => (repeat (with_reducible first | exact Below.refl _ _ | assumption | refine Below.drewN _ ?_ | refine Below.drew ?_ | refine Below_alloc ?_ _ | refine Below.alloc ?_ (by first | (simp; done) | (simp; omega) | omega) _ | refine Below.setCell ?_ (by first | (simp; done) | (simp; omega) | omega) _ | refine Below_call ?_ (by assumption) | refine Below.trans ?_ (by assumption)))))
    (rw [wpSteps])
    (rw [wpMixC])
    (rw [wpMix]; simp only [pick, List.drop_succ_cons, List.drop_zero, List.head?_cons, Option.toList_some, List.cons_append, List.nil_append])
    (go_wp2_with ((first | (go_at_call 149; refine (base_addDigits _ _ _ _ _ (HIa.out _ (by (repeat (with_reducible first | exact Below.refl _ _ | assumption | refine Below.drewN _ ?_ | refine Below.drew ?_ | refine Below_alloc ?_ _ | refine Below.alloc ?_ (by first | (simp; done) | (simp; omega) | omega) _ | refine Below.setCell ?_ (by first | (simp; done) | (simp; omega) | omega) _ | refine Below_call ?_ (by assumption) | refine Below.trans ?_ (by assumption))))) (HIb.out _ (by (repeat (with_reducible first | exact Below.refl _ _ | assumption | refine Below.drewN _ ?_ | refine Below.drew ?_ | refine Below_alloc ?_ _ | refine Below.alloc ?_ (by first | (simp; done) | (simp; omega) | omega) _ | refine Below.setCell ?_ (by first | (simp; done) | (simp; omega) | omega) _ | refine Below_call ?_ (by assumption) | refine Below.trans ?_ (by assumption))))) (isD_dig _) (isD_dig _) 100000 (by omega) HLX.out.2 HLY.out.2).mono ?_; rintro _ w1 ⟨r, rfl, xs, hdx, hisd, hval, hlen, hb1⟩; obtain ⟨ro, rc, rfl⟩ := hdx.shape; have HDX := hid (And.intro hdx (And.intro hisd (And.intro hval hlen))); have HB1 := hid hb1; have hzw1 := hb1.size; clear hdx hisd hval hlen) | (go_at_call 140; refine (base_wideOf _ _ _ _ _ (HDX.out.1.ints.below (by (repeat (with_reducible first | exact Below.refl _ _ | assumption | refine Below.drewN _ ?_ | refine Below.drew ?_ | refine Below_alloc ?_ _ | refine Below.alloc ?_ (by first | (simp; done) | (simp; omega) | omega) _ | refine Below.setCell ?_ (by first | (simp; done) | (simp; omega) | omega) _ | refine Below_call ?_ (by assumption) | refine Below.trans ?_ (by assumption))))) HDX.out.2.1).mono ?_; rintro _ w2 ⟨rfl, hb2⟩; have HB2 := hid hb2; obtain ⟨e0, e1, p0, p1, hlt1⟩ := two_cells ((hb2.block (w.heap.size + 1 + 1) (by first | omega | exact hl2 | exact hm2 | exact Nat.lt_of_lt_of_le hl2 hzw1 | exact Nat.lt_of_lt_of_le hm2 hzw1)).trans ((HB1.out.block (w.heap.size + 1 + 1) (by first | omega | exact hl2 | exact hm2 | exact Nat.lt_of_lt_of_le hl2 hzw1 | exact Nat.lt_of_lt_of_le hm2 hzw1)).trans HWC.out))))); rw [contF])
    (rw [wpMix])
    (refine hQ' _ _ ?_)
    go_wp2_with fail
    ((try simp only [Exit.inBlock, Exit.then]); refine bodyPost_ret (v := .agg #[.int .i64 (sg0 (dval xs) sx), .slice ro (tri xs).length rc]) ?_ rfl ?_; (next => simp [results, Try.results136, go_sem, hlt1, e0, e1]))
    have hd := HDX.out
    have hsm := HSAME.out
    exact ⟨_, rfl, wide_fin hd.2.1 (by rw [hd.2.2.1, dval_dig, dval_dig, hsm.1]; push_cast; rfl) (fun _ => HSX.out.trans hsm.2.symm) hd.1 HB2.out (fun b h => ⟨by have : W.heap.size ≤ b := h; omega, HNN.out b (by have : W.heap.size ≤ b := h; omega)⟩) _ _, by (repeat (with_reducible first | exact Below.refl _ _ | assumption | refine Below.drewN _ ?_ | refine Below.drew ?_ | refine Below_alloc ?_ _ | refine Below.alloc ?_ (by first | (simp; done) | (simp; omega) | omega) _ | refine Below.setCell ?_ (by first | (simp; done) | (simp; omega) | omega) _ | refine Below_call ?_ (by assumption) | refine Below.trans ?_ (by assumption)))⟩
  have HNE : Hid (sg x ≠ sg y) := hid (by rw [← HSX.out, ← HSY.out]; exact hs)
  have HXN := hid hxn
  have HYN := hid hyn
  obtain ⟨C, hC⟩ : ∃ C, C = cmpN x.natAbs y.natAbs := ⟨_, rfl⟩
  have HCC := hid hC
  have HCMP : Hid (∀ W', Below w.heap.size w W' → Calls Try.prog 150 #[.slice ao lx cap, .slice bo ly cap2] W' fun e w' => e = .returned (.int .i64 C) ∧ Below W'.heap.size W' w') := hid (fun W' h => by
    have h1 := HIa.out W' h
    have h2 := HIb.out W' h
    rw [hC]
    exact base_cmpDigits x.natAbs y.natAbs _ _ W' h1 h2)
  clear hxn hyn hC
  have hcase : (x.natAbs = y.natAbs ∧ C = 0) ∨ (y.natAbs < x.natAbs ∧ C = 1) ∨ (x.natAbs < y.natAbs ∧ C = -1) := by
    rcases Nat.lt_trichotomy x.natAbs y.natAbs with h | h | h
    · exact Or.inr (Or.inr ⟨h, HCC.out.trans (cmpN_lt h)⟩)
    · exact Or.inl ⟨h, HCC.out.trans (cmpN_eq h)⟩
    · exact Or.inr (Or.inl ⟨h, HCC.out.trans (cmpN_gt h)⟩)
  rcases hcase with ⟨hcmp, rfl⟩ | ⟨hcmp, rfl⟩ | ⟨hcmp, rfl⟩
  · have HZ : Hid (x + y = 0) := hid (sg_opp HXN.out HNE.out hcmp)
    clear hcmp
    go_enter Try.func136, Try.ntmps136
    go_wp2_with (rw [← hW]; go_at_call 150; refine (HCMP.out _ (by (repeat (with_reducible first | exact Below.refl _ _ | assumption | refine Below.drewN _ ?_ | refine Below.drew ?_ | refine Below_alloc ?_ _ | refine Below.alloc ?_ (by first | (simp; done) | (simp; omega) | omega) _ | refine Below.setCell ?_ (by first | (simp; done) | (simp; omega) | omega) _ | refine Below_call ?_ (by assumption) | refine Below.trans ?_ (by assumption))))).mono ?_; rintro _ W2 ⟨rfl, hbc⟩; have HBC := hid hbc; obtain ⟨e0, e1, p0, p1, hlt1⟩ := two_cells ((hbc.block (w.heap.size + 1 + 1) (by omega)).trans HWC.out))
    ((try simp only [Exit.inBlock, Exit.then]); refine bodyPost_ret (v := .agg #[.int .i64 0, .slice none 0 0]) ?_ rfl ?_; (next => simp [results, Try.results136, go_sem, hlt1, e0, e1]))
    rw [HZ.out]
    refine ⟨_, rfl, ⟨none, 0, by simp [sg, dig_zero], ?_⟩, by (repeat (with_reducible first | exact Below.refl _ _ | assumption | refine Below.drewN _ ?_ | refine Below.drew ?_ | refine Below_alloc ?_ _ | refine Below.alloc ?_ (by first | (simp; done) | (simp; omega) | omega) _ | refine Below.setCell ?_ (by first | (simp; done) | (simp; omega) | omega) _ | refine Below_call ?_ (by assumption) | refine Below.trans ?_ (by assumption)))⟩
    exact ⟨none, 0, by simp [dig_zero], by simp [dig_zero], by simp, fun h => by simp [dig_zero] at h, fun _ => rfl⟩
  · have HD := hid (sg_diff HXN.out HYN.out HNE.out hcmp)
    have HCMPL := hid hcmp
    clear hcmp
    go_enter Try.func136, Try.ntmps136
    go_wp2_with (rw [← hW]; go_at_call 150; refine (HCMP.out _ (by (repeat (with_reducible first | exact Below.refl _ _ | assumption | refine Below.drewN _ ?_ | refine Below.drew ?_ | refine Below_alloc ?_ _ | refine Below.alloc ?_ (by first | (simp; done) | (simp; omega) | omega) _ | refine Below.setCell ?_ (by first | (simp; done) | (simp; omega) | omega) _ | refine Below_call ?_ (by assumption) | refine Below.trans ?_ (by assumption))))).mono ?_; rintro _ W2 ⟨rfl, hbc⟩; have HBC := hid hbc; have hzc := hbc.size)
    have HWC2 := hid (show W2.heap[w.heap.size + 1 + 1]? = _ from (HBC.out.block (w.heap.size + 1 + 1) (by omega)).trans HWC.out)
    obtain ⟨hcc, _⟩ := bcell HBC.out
    rw [← hcc w.heap.size _ (by omega)] at a0 a1
    rw [← hcc (w.heap.size + 1) _ (by omega)] at b0 b1
    have hm0 : w.heap.size < W2.heap.size := by omega
    have hm1 : w.heap.size + 1 < W2.heap.size := by omega
    have hm2 : w.heap.size + 1 + 1 < W2.heap.size := by omega
    refine wp_mixC (fun wc => Below (W2.heap.size) W2 wc) 8 [.q [0, 1, 2, 3, 4, 5], .f [6, 7]] [.f [8]] (by kernel_rfl) (by kernel_rfl) ((Below.refl _ _).drew) ?_
    intro Q' hQ'
    (rw [wpMixC]; simp only [pick, List.drop_succ_cons, List.drop_zero, List.head?_cons, Option.toList_some, List.cons_append, List.nil_append])
    (repeat (first | go_big_quiet_skip | (go_big_quiet_want; refine quiet_simple rfl ?_; go_big_quiet_op; go_big_quiet_on) | (go_big_quiet_want; refine quiet_cellB (ty := 3) rfl rfl (by kernel_rfl) (by assumption) (by first | omega | (simp; omega)) ?_; simp only [Act.put, List.setIfInBounds_toArray, List.set_cons_succ, List.set_cons_zero]; go_big_quiet_on) | (go_big_quiet_want; refine quiet_cellB (ty := 49) rfl rfl (by kernel_rfl) (by assumption) (by first | omega | (simp; omega)) ?_; simp only [Act.put, List.setIfInBounds_toArray, List.set_cons_succ, List.set_cons_zero]; go_big_quiet_on)))
    (try refine wpQuiet_nil ?_)
    (rw [wpMixC]; simp only [pick, List.drop_succ_cons, List.drop_zero, List.head?_cons, Option.toList_some, List.cons_append, List.nil_append])
    (rw [wpSteps]; go_wp2_with ((first | (go_at_call 151; refine (base_subDigits x.natAbs y.natAbs _ _ _ (HIa.out _ (by (repeat (with_reducible first | exact Below.refl _ _ | assumption | refine Below.drewN _ ?_ | refine Below.drew ?_ | refine Below_alloc ?_ _ | refine Below.alloc ?_ (by first | (simp; done) | (simp; omega) | omega) _ | refine Below.setCell ?_ (by first | (simp; done) | (simp; omega) | omega) _ | refine Below_call ?_ (by assumption) | refine Below.trans ?_ (by assumption))))) (HIb.out _ (by (repeat (with_reducible first | exact Below.refl _ _ | assumption | refine Below.drewN _ ?_ | refine Below.drew ?_ | refine Below_alloc ?_ _ | refine Below.alloc ?_ (by first | (simp; done) | (simp; omega) | omega) _ | refine Below.setCell ?_ (by first | (simp; done) | (simp; omega) | omega) _ | refine Below_call ?_ (by assumption) | refine Below.trans ?_ (by assumption))))) (Nat.le_of_lt HCMPL.out) (by have := HLX.out.2; omega)).mono ?_; rintro _ w1 ⟨r, rfl, hdx, hb1⟩; obtain ⟨ro, rc, rfl⟩ := hdx.shape; have HDX := hid hdx; have HB1 := hid hb1; have hzw1 := hb1.size; clear hdx) | (go_at_call 140; refine (base_wideOf _ _ _ _ _ (HDX.out.ints.below (by (repeat (with_reducible first | exact Below.refl _ _ | assumption | refine Below.drewN _ ?_ | refine Below.drew ?_ | refine Below_alloc ?_ _ | refine Below.alloc ?_ (by first | (simp; done) | (simp; omega) | omega) _ | refine Below.setCell ?_ (by first | (simp; done) | (simp; omega) | omega) _ | refine Below_call ?_ (by assumption) | refine Below.trans ?_ (by assumption))))) (isD_dig _)).mono ?_; rintro _ w2 ⟨rfl, hb2⟩; have HB2 := hid hb2; obtain ⟨e0, e1, p0, p1, hlt1⟩ := two_cells ((hb2.block (w.heap.size + 1 + 1) (by first | omega | exact hl2 | exact hm2 | exact Nat.lt_of_lt_of_le hl2 hzw1 | exact Nat.lt_of_lt_of_le hm2 hzw1)).trans ((HB1.out.block (w.heap.size + 1 + 1) (by first | omega | exact hl2 | exact hm2 | exact Nat.lt_of_lt_of_le hl2 hzw1 | exact Nat.lt_of_lt_of_le hm2 hzw1)).trans HWC2.out))))); rw [contF]; refine ⟨?_, ?_⟩; (next => (repeat (with_reducible first | exact Below.refl _ _ | assumption | refine Below.drewN _ ?_ | refine Below.drew ?_ | refine Below_alloc ?_ _ | refine Below.alloc ?_ (by first | (simp; done) | (simp; omega) | omega) _ | refine Below.setCell ?_ (by first | (simp; done) | (simp; omega) | omega) _ | refine Below_call ?_ (by assumption) | refine Below.trans ?_ (by assumption)))))
    (rw [wpSteps]; go_wp2_with ((first | (go_at_call 151; refine (base_subDigits x.natAbs y.natAbs _ _ _ (HIa.out _ (by (repeat (with_reducible first | exact Below.refl _ _ | assumption | refine Below.drewN _ ?_ | refine Below.drew ?_ | refine Below_alloc ?_ _ | refine Below.alloc ?_ (by first | (simp; done) | (simp; omega) | omega) _ | refine Below.setCell ?_ (by first | (simp; done) | (simp; omega) | omega) _ | refine Below_call ?_ (by assumption) | refine Below.trans ?_ (by assumption))))) (HIb.out _ (by (repeat (with_reducible first | exact Below.refl _ _ | assumption | refine Below.drewN _ ?_ | refine Below.drew ?_ | refine Below_alloc ?_ _ | refine Below.alloc ?_ (by first | (simp; done) | (simp; omega) | omega) _ | refine Below.setCell ?_ (by first | (simp; done) | (simp; omega) | omega) _ | refine Below_call ?_ (by assumption) | refine Below.trans ?_ (by assumption))))) (Nat.le_of_lt HCMPL.out) (by have := HLX.out.2; omega)).mono ?_; rintro _ w1 ⟨r, rfl, hdx, hb1⟩; obtain ⟨ro, rc, rfl⟩ := hdx.shape; have HDX := hid hdx; have HB1 := hid hb1; have hzw1 := hb1.size; clear hdx) | (go_at_call 140; refine (base_wideOf _ _ _ _ _ (HDX.out.ints.below (by (repeat (with_reducible first | exact Below.refl _ _ | assumption | refine Below.drewN _ ?_ | refine Below.drew ?_ | refine Below_alloc ?_ _ | refine Below.alloc ?_ (by first | (simp; done) | (simp; omega) | omega) _ | refine Below.setCell ?_ (by first | (simp; done) | (simp; omega) | omega) _ | refine Below_call ?_ (by assumption) | refine Below.trans ?_ (by assumption))))) (isD_dig _)).mono ?_; rintro _ w2 ⟨rfl, hb2⟩; have HB2 := hid hb2; obtain ⟨e0, e1, p0, p1, hlt1⟩ := two_cells ((hb2.block (w.heap.size + 1 + 1) (by first | omega | exact hl2 | exact hm2 | exact Nat.lt_of_lt_of_le hl2 hzw1 | exact Nat.lt_of_lt_of_le hm2 hzw1)).trans ((HB1.out.block (w.heap.size + 1 + 1) (by first | omega | exact hl2 | exact hm2 | exact Nat.lt_of_lt_of_le hl2 hzw1 | exact Nat.lt_of_lt_of_le hm2 hzw1)).trans HWC2.out))))); rw [contF]; refine ⟨?_, ?_⟩; (next => (repeat (with_reducible first | exact Below.refl _ _ | assumption | refine Below.drewN _ ?_ | refine Below.drew ?_ | refine Below_alloc ?_ _ | refine Below.alloc ?_ (by first | (simp; done) | (simp; omega) | omega) _ | refine Below.setCell ?_ (by first | (simp; done) | (simp; omega) | omega) _ | refine Below_call ?_ (by assumption) | refine Below.trans ?_ (by assumption)))))
    (rw [wpSteps])
    (rw [wpMixC])
    (rw [wpMix]; simp only [pick, List.drop_succ_cons, List.drop_zero, List.head?_cons, Option.toList_some, List.cons_append, List.nil_append])
    (go_wp2_with ((first | (go_at_call 151; refine (base_subDigits x.natAbs y.natAbs _ _ _ (HIa.out _ (by (repeat (with_reducible first | exact Below.refl _ _ | assumption | refine Below.drewN _ ?_ | refine Below.drew ?_ | refine Below_alloc ?_ _ | refine Below.alloc ?_ (by first | (simp; done) | (simp; omega) | omega) _ | refine Below.setCell ?_ (by first | (simp; done) | (simp; omega) | omega) _ | refine Below_call ?_ (by assumption) | refine Below.trans ?_ (by assumption))))) (HIb.out _ (by (repeat (with_reducible first | exact Below.refl _ _ | assumption | refine Below.drewN _ ?_ | refine Below.drew ?_ | refine Below_alloc ?_ _ | refine Below.alloc ?_ (by first | (simp; done) | (simp; omega) | omega) _ | refine Below.setCell ?_ (by first | (simp; done) | (simp; omega) | omega) _ | refine Below_call ?_ (by assumption) | refine Below.trans ?_ (by assumption))))) (Nat.le_of_lt HCMPL.out) (by have := HLX.out.2; omega)).mono ?_; rintro _ w1 ⟨r, rfl, hdx, hb1⟩; obtain ⟨ro, rc, rfl⟩ := hdx.shape; have HDX := hid hdx; have HB1 := hid hb1; have hzw1 := hb1.size; clear hdx) | (go_at_call 140; refine (base_wideOf _ _ _ _ _ (HDX.out.ints.below (by (repeat (with_reducible first | exact Below.refl _ _ | assumption | refine Below.drewN _ ?_ | refine Below.drew ?_ | refine Below_alloc ?_ _ | refine Below.alloc ?_ (by first | (simp; done) | (simp; omega) | omega) _ | refine Below.setCell ?_ (by first | (simp; done) | (simp; omega) | omega) _ | refine Below_call ?_ (by assumption) | refine Below.trans ?_ (by assumption))))) (isD_dig _)).mono ?_; rintro _ w2 ⟨rfl, hb2⟩; have HB2 := hid hb2; obtain ⟨e0, e1, p0, p1, hlt1⟩ := two_cells ((hb2.block (w.heap.size + 1 + 1) (by first | omega | exact hl2 | exact hm2 | exact Nat.lt_of_lt_of_le hl2 hzw1 | exact Nat.lt_of_lt_of_le hm2 hzw1)).trans ((HB1.out.block (w.heap.size + 1 + 1) (by first | omega | exact hl2 | exact hm2 | exact Nat.lt_of_lt_of_le hl2 hzw1 | exact Nat.lt_of_lt_of_le hm2 hzw1)).trans HWC2.out))))); rw [contF])
    (rw [wpMix])
    (refine hQ' _ _ ?_)
    go_wp2_with fail
    ((try simp only [Exit.inBlock, Exit.then]); refine bodyPost_ret (v := .agg #[.int .i64 (sg0 (dval (dig (x.natAbs - y.natAbs))) sx), .slice ro (tri (dig (x.natAbs - y.natAbs))).length rc]) ?_ rfl ?_; (next => simp [results, Try.results136, go_sem, hlt1, e0, e1]))
    have hd := HD.out
    exact ⟨_, rfl, wide_fin (isD_dig _) (by rw [dval_dig, hd.1]) (fun _ => HSX.out.trans hd.2.symm) HDX.out HB2.out (fun b h => ⟨by have : W2.heap.size ≤ b := h; omega, HNN.out b (by have : W2.heap.size ≤ b := h; omega)⟩) _ _, by (repeat (with_reducible first | exact Below.refl _ _ | assumption | refine Below.drewN _ ?_ | refine Below.drew ?_ | refine Below_alloc ?_ _ | refine Below.alloc ?_ (by first | (simp; done) | (simp; omega) | omega) _ | refine Below.setCell ?_ (by first | (simp; done) | (simp; omega) | omega) _ | refine Below_call ?_ (by assumption) | refine Below.trans ?_ (by assumption)))⟩
  · have HD := hid (sg_diff HYN.out HXN.out (fun h => HNE.out h.symm) hcmp)
    have HCMPL := hid hcmp
    clear hcmp
    go_enter Try.func136, Try.ntmps136
    go_wp2_with (rw [← hW]; go_at_call 150; refine (HCMP.out _ (by (repeat (with_reducible first | exact Below.refl _ _ | assumption | refine Below.drewN _ ?_ | refine Below.drew ?_ | refine Below_alloc ?_ _ | refine Below.alloc ?_ (by first | (simp; done) | (simp; omega) | omega) _ | refine Below.setCell ?_ (by first | (simp; done) | (simp; omega) | omega) _ | refine Below_call ?_ (by assumption) | refine Below.trans ?_ (by assumption))))).mono ?_; rintro _ W2 ⟨rfl, hbc⟩; have HBC := hid hbc; have hzc := hbc.size)
    have HWC2 := hid (show W2.heap[w.heap.size + 1 + 1]? = _ from (HBC.out.block (w.heap.size + 1 + 1) (by omega)).trans HWC.out)
    obtain ⟨hcc, _⟩ := bcell HBC.out
    rw [← hcc w.heap.size _ (by omega)] at a0 a1
    rw [← hcc (w.heap.size + 1) _ (by omega)] at b0 b1
    have hm0 : w.heap.size < W2.heap.size := by omega
    have hm1 : w.heap.size + 1 < W2.heap.size := by omega
    have hm2 : w.heap.size + 1 + 1 < W2.heap.size := by omega
    refine wp_mixC (fun wc => Below (W2.heap.size) W2 wc) 8 [.q [0, 1, 2, 3, 4, 5], .f [6, 7]] [.f [8]] (by kernel_rfl) (by kernel_rfl) ((Below.refl _ _).drew) ?_
    intro Q' hQ'
    (rw [wpMixC]; simp only [pick, List.drop_succ_cons, List.drop_zero, List.head?_cons, Option.toList_some, List.cons_append, List.nil_append])
    (repeat (first | go_big_quiet_skip | (go_big_quiet_want; refine quiet_simple rfl ?_; go_big_quiet_op; go_big_quiet_on) | (go_big_quiet_want; refine quiet_cellB (ty := 3) rfl rfl (by kernel_rfl) (by assumption) (by first | omega | (simp; omega)) ?_; simp only [Act.put, List.setIfInBounds_toArray, List.set_cons_succ, List.set_cons_zero]; go_big_quiet_on) | (go_big_quiet_want; refine quiet_cellB (ty := 49) rfl rfl (by kernel_rfl) (by assumption) (by first | omega | (simp; omega)) ?_; simp only [Act.put, List.setIfInBounds_toArray, List.set_cons_succ, List.set_cons_zero]; go_big_quiet_on)))
    (try refine wpQuiet_nil ?_)
    (rw [wpMixC]; simp only [pick, List.drop_succ_cons, List.drop_zero, List.head?_cons, Option.toList_some, List.cons_append, List.nil_append])
    (rw [wpSteps]; go_wp2_with ((first | (go_at_call 151; refine (base_subDigits y.natAbs x.natAbs _ _ _ (HIb.out _ (by (repeat (with_reducible first | exact Below.refl _ _ | assumption | refine Below.drewN _ ?_ | refine Below.drew ?_ | refine Below_alloc ?_ _ | refine Below.alloc ?_ (by first | (simp; done) | (simp; omega) | omega) _ | refine Below.setCell ?_ (by first | (simp; done) | (simp; omega) | omega) _ | refine Below_call ?_ (by assumption) | refine Below.trans ?_ (by assumption))))) (HIa.out _ (by (repeat (with_reducible first | exact Below.refl _ _ | assumption | refine Below.drewN _ ?_ | refine Below.drew ?_ | refine Below_alloc ?_ _ | refine Below.alloc ?_ (by first | (simp; done) | (simp; omega) | omega) _ | refine Below.setCell ?_ (by first | (simp; done) | (simp; omega) | omega) _ | refine Below_call ?_ (by assumption) | refine Below.trans ?_ (by assumption))))) (Nat.le_of_lt HCMPL.out) (by have := HLY.out.2; omega)).mono ?_; rintro _ w1 ⟨r, rfl, hdx, hb1⟩; obtain ⟨ro, rc, rfl⟩ := hdx.shape; have HDX := hid hdx; have HB1 := hid hb1; have hzw1 := hb1.size; clear hdx) | (go_at_call 140; refine (base_wideOf _ _ _ _ _ (HDX.out.ints.below (by (repeat (with_reducible first | exact Below.refl _ _ | assumption | refine Below.drewN _ ?_ | refine Below.drew ?_ | refine Below_alloc ?_ _ | refine Below.alloc ?_ (by first | (simp; done) | (simp; omega) | omega) _ | refine Below.setCell ?_ (by first | (simp; done) | (simp; omega) | omega) _ | refine Below_call ?_ (by assumption) | refine Below.trans ?_ (by assumption))))) (isD_dig _)).mono ?_; rintro _ w2 ⟨rfl, hb2⟩; have HB2 := hid hb2; obtain ⟨e0, e1, p0, p1, hlt1⟩ := two_cells ((hb2.block (w.heap.size + 1 + 1) (by first | omega | exact hl2 | exact hm2 | exact Nat.lt_of_lt_of_le hl2 hzw1 | exact Nat.lt_of_lt_of_le hm2 hzw1)).trans ((HB1.out.block (w.heap.size + 1 + 1) (by first | omega | exact hl2 | exact hm2 | exact Nat.lt_of_lt_of_le hl2 hzw1 | exact Nat.lt_of_lt_of_le hm2 hzw1)).trans HWC2.out))))); rw [contF]; refine ⟨?_, ?_⟩; (next => (repeat (with_reducible first | exact Below.refl _ _ | assumption | refine Below.drewN _ ?_ | refine Below.drew ?_ | refine Below_alloc ?_ _ | refine Below.alloc ?_ (by first | (simp; done) | (simp; omega) | omega) _ | refine Below.setCell ?_ (by first | (simp; done) | (simp; omega) | omega) _ | refine Below_call ?_ (by assumption) | refine Below.trans ?_ (by assumption)))))
    (rw [wpSteps]; go_wp2_with ((first | (go_at_call 151; refine (base_subDigits y.natAbs x.natAbs _ _ _ (HIb.out _ (by (repeat (with_reducible first | exact Below.refl _ _ | assumption | refine Below.drewN _ ?_ | refine Below.drew ?_ | refine Below_alloc ?_ _ | refine Below.alloc ?_ (by first | (simp; done) | (simp; omega) | omega) _ | refine Below.setCell ?_ (by first | (simp; done) | (simp; omega) | omega) _ | refine Below_call ?_ (by assumption) | refine Below.trans ?_ (by assumption))))) (HIa.out _ (by (repeat (with_reducible first | exact Below.refl _ _ | assumption | refine Below.drewN _ ?_ | refine Below.drew ?_ | refine Below_alloc ?_ _ | refine Below.alloc ?_ (by first | (simp; done) | (simp; omega) | omega) _ | refine Below.setCell ?_ (by first | (simp; done) | (simp; omega) | omega) _ | refine Below_call ?_ (by assumption) | refine Below.trans ?_ (by assumption))))) (Nat.le_of_lt HCMPL.out) (by have := HLY.out.2; omega)).mono ?_; rintro _ w1 ⟨r, rfl, hdx, hb1⟩; obtain ⟨ro, rc, rfl⟩ := hdx.shape; have HDX := hid hdx; have HB1 := hid hb1; have hzw1 := hb1.size; clear hdx) | (go_at_call 140; refine (base_wideOf _ _ _ _ _ (HDX.out.ints.below (by (repeat (with_reducible first | exact Below.refl _ _ | assumption | refine Below.drewN _ ?_ | refine Below.drew ?_ | refine Below_alloc ?_ _ | refine Below.alloc ?_ (by first | (simp; done) | (simp; omega) | omega) _ | refine Below.setCell ?_ (by first | (simp; done) | (simp; omega) | omega) _ | refine Below_call ?_ (by assumption) | refine Below.trans ?_ (by assumption))))) (isD_dig _)).mono ?_; rintro _ w2 ⟨rfl, hb2⟩; have HB2 := hid hb2; obtain ⟨e0, e1, p0, p1, hlt1⟩ := two_cells ((hb2.block (w.heap.size + 1 + 1) (by first | omega | exact hl2 | exact hm2 | exact Nat.lt_of_lt_of_le hl2 hzw1 | exact Nat.lt_of_lt_of_le hm2 hzw1)).trans ((HB1.out.block (w.heap.size + 1 + 1) (by first | omega | exact hl2 | exact hm2 | exact Nat.lt_of_lt_of_le hl2 hzw1 | exact Nat.lt_of_lt_of_le hm2 hzw1)).trans HWC2.out))))); rw [contF]; refine ⟨?_, ?_⟩; (next => (repeat (with_reducible first | exact Below.refl _ _ | assumption | refine Below.drewN _ ?_ | refine Below.drew ?_ | refine Below_alloc ?_ _ | refine Below.alloc ?_ (by first | (simp; done) | (simp; omega) | omega) _ | refine Below.setCell ?_ (by first | (simp; done) | (simp; omega) | omega) _ | refine Below_call ?_ (by assumption) | refine Below.trans ?_ (by assumption)))))
    (rw [wpSteps])
    (rw [wpMixC])
    (rw [wpMix]; simp only [pick, List.drop_succ_cons, List.drop_zero, List.head?_cons, Option.toList_some, List.cons_append, List.nil_append])
    (go_wp2_with ((first | (go_at_call 151; refine (base_subDigits y.natAbs x.natAbs _ _ _ (HIb.out _ (by (repeat (with_reducible first | exact Below.refl _ _ | assumption | refine Below.drewN _ ?_ | refine Below.drew ?_ | refine Below_alloc ?_ _ | refine Below.alloc ?_ (by first | (simp; done) | (simp; omega) | omega) _ | refine Below.setCell ?_ (by first | (simp; done) | (simp; omega) | omega) _ | refine Below_call ?_ (by assumption) | refine Below.trans ?_ (by assumption))))) (HIa.out _ (by (repeat (with_reducible first | exact Below.refl _ _ | assumption | refine Below.drewN _ ?_ | refine Below.drew ?_ | refine Below_alloc ?_ _ | refine Below.alloc ?_ (by first | (simp; done) | (simp; omega) | omega) _ | refine Below.setCell ?_ (by first | (simp; done) | (simp; omega) | omega) _ | refine Below_call ?_ (by assumption) | refine Below.trans ?_ (by assumption))))) (Nat.le_of_lt HCMPL.out) (by have := HLY.out.2; omega)).mono ?_; rintro _ w1 ⟨r, rfl, hdx, hb1⟩; obtain ⟨ro, rc, rfl⟩ := hdx.shape; have HDX := hid hdx; have HB1 := hid hb1; have hzw1 := hb1.size; clear hdx) | (go_at_call 140; refine (base_wideOf _ _ _ _ _ (HDX.out.ints.below (by (repeat (with_reducible first | exact Below.refl _ _ | assumption | refine Below.drewN _ ?_ | refine Below.drew ?_ | refine Below_alloc ?_ _ | refine Below.alloc ?_ (by first | (simp; done) | (simp; omega) | omega) _ | refine Below.setCell ?_ (by first | (simp; done) | (simp; omega) | omega) _ | refine Below_call ?_ (by assumption) | refine Below.trans ?_ (by assumption))))) (isD_dig _)).mono ?_; rintro _ w2 ⟨rfl, hb2⟩; have HB2 := hid hb2; obtain ⟨e0, e1, p0, p1, hlt1⟩ := two_cells ((hb2.block (w.heap.size + 1 + 1) (by first | omega | exact hl2 | exact hm2 | exact Nat.lt_of_lt_of_le hl2 hzw1 | exact Nat.lt_of_lt_of_le hm2 hzw1)).trans ((HB1.out.block (w.heap.size + 1 + 1) (by first | omega | exact hl2 | exact hm2 | exact Nat.lt_of_lt_of_le hl2 hzw1 | exact Nat.lt_of_lt_of_le hm2 hzw1)).trans HWC2.out))))); rw [contF])
    (rw [wpMix])
    (refine hQ' _ _ ?_)
    go_wp2_with fail
    ((try simp only [Exit.inBlock, Exit.then]); refine bodyPost_ret (v := .agg #[.int .i64 (sg0 (dval (dig (y.natAbs - x.natAbs))) sy), .slice ro (tri (dig (y.natAbs - x.natAbs))).length rc]) ?_ rfl ?_; (next => simp [results, Try.results136, go_sem, hlt1, e0, e1]))
    have hd := HD.out
    rw [Int.add_comm]
    exact ⟨_, rfl, wide_fin (isD_dig _) (by rw [dval_dig, hd.1]) (fun _ => HSY.out.trans hd.2.symm) HDX.out HB2.out (fun b h => ⟨by have : W2.heap.size ≤ b := h; omega, HNN.out b (by have : W2.heap.size ≤ b := h; omega)⟩) _ _, by (repeat (with_reducible first | exact Below.refl _ _ | assumption | refine Below.drewN _ ?_ | refine Below.drew ?_ | refine Below_alloc ?_ _ | refine Below.alloc ?_ (by first | (simp; done) | (simp; omega) | omega) _ | refine Below.setCell ?_ (by first | (simp; done) | (simp; omega) | omega) _ | refine Below_call ?_ (by assumption) | refine Below.trans ?_ (by assumption)))⟩

end Go.Proofs.Ytlmdmpjfehpjeaa

/- Wide numbers subtracted, compared. -/
set_option linter.unusedVariables false
set_option linter.unusedSimpArgs false
namespace Go.Proofs.Ytlmdmpjfehpjeaa
open Go.RowKit

theorem WideAt.shape {w : World} {v : Value} {z : Int} {N : Nat → Prop} (h : WideAt w v z N) : ∃ ao n cap, v = .agg #[.int .i64 (sg z), .slice ao n cap] := by
  obtain ⟨ao, cap, rfl, _⟩ := h
  exact ⟨ao, _, cap, rfl⟩

set_option maxRecDepth 100000 in
set_option maxHeartbeats 1000000 in
theorem base_WideSub (x y : Int) (u v : Value) (w : World) (N : Nat → Prop) (hN : ∀ b, w.heap.size ≤ b → N b) (hu : WideAt w u x N) (hv : WideAt w v y N) (hx : (dig x.natAbs).length ≤ 100000) (hy : (dig y.natAbs).length ≤ 100000) :
    Calls Try.prog 154 #[u, v] w (RetWide w (x - y) N) := by
  have HU := hid hu
  have HV := hid hv
  obtain ⟨ao, lx, cap, rfl⟩ := hu.shape
  obtain ⟨bo, ly, cap2, rfl⟩ := hv.shape
  clear hu hv
  have hrx := sg_range x
  have hry := sg_range y
  obtain ⟨sx, hsx⟩ : ∃ sx, sx = sg x := ⟨_, rfl⟩
  obtain ⟨sy, hsy⟩ : ∃ sy, sy = sg y := ⟨_, rfl⟩
  rw [← hsx] at HU hrx ⊢
  rw [← hsy] at HV hry ⊢
  have HXY := hid (And.intro hx hy)
  have HNN := hid hN
  clear hsx hsy hx hy hN
  obtain ⟨W, hW⟩ : ∃ W, W = ((w.alloc (.cells #[.int .i64 sx, .slice ao lx cap] 51)).alloc (.cells #[.int .i64 sy, .slice bo ly cap2] 51)).alloc (.cells #[.int .i64 0, .slice none 0 0] 51) := ⟨_, rfl⟩
  have hzW : W.heap.size = w.heap.size + 1 + 1 + 1 := by rw [hW]; simp
  have hBW : Below w.heap.size w W := by rw [hW]; (repeat (with_reducible first | exact Below.refl _ _ | assumption | refine Below.drewN _ ?_ | refine Below.drew ?_ | refine Below_alloc ?_ _ | refine Below.alloc ?_ (by first | (simp; done) | (simp; omega) | omega) _ | refine Below.setCell ?_ (by first | (simp; done) | (simp; omega) | omega) _ | refine Below_call ?_ (by assumption) | refine Below.trans ?_ (by assumption)))
  obtain ⟨q0, q1, q2⟩ := alloc3 w _ _ _ _ _ _ W hW
  have HWC := hid q2
  obtain ⟨a0, a1, fa0, fa1, hl0⟩ := two_cells q0
  obtain ⟨b0, b1, fb0, fb1, hl1⟩ := two_cells q1
  obtain ⟨c0, c1, f0, f1, hl2⟩ := two_cells q2
  clear q0 q1 q2
  have HAU : Hid (∀ W', Below w.heap.size w W' → WideAt W' (.agg #[.int .i64 sx, .slice ao lx cap]) x (fun b => b ≠ w.heap.size + 1 + 1 ∧ (b < w.heap.size → N b))) := hid (fun W' h => HU.out.mono h (fun b hlt hb => ⟨by omega, fun _ => hb⟩))
  have HAV : Hid (∀ W', Below w.heap.size w W' → WideAt W' (.agg #[.int .i64 (-sy), .slice bo ly cap2]) (-y) (fun b => b ≠ w.heap.size + 1 + 1 ∧ (b < w.heap.size → N b))) := hid (fun W' h => (HV.out.mono h (fun b hlt hb => ⟨by omega, fun _ => hb⟩)).neg)
  have HLL : Hid ((dig x.natAbs).length ≤ 100000 ∧ (dig (-y).natAbs).length ≤ 100000) := hid (by rw [Int.natAbs_neg]; exact HXY.out)
  have HSZ : Hid (∀ W' : World, W.heap.size ≤ W'.heap.size → ∀ b, W'.heap.size ≤ b → b ≠ w.heap.size + 1 + 1 ∧ (b < w.heap.size → N b)) := hid (fun W' h b hb => ⟨by omega, fun h2 => absurd h2 (by omega)⟩)
  go_enter Try.func154, Try.ntmps154
  go_wp2_with fail
  rw [← hW]
  clear hW
  refine wp_mixC (fun wc => Below (W.heap.size) W wc) 4 [.q [0, 1], .f [2, 3]] [.f [4]] (by kernel_rfl) (by kernel_rfl) ((Below.refl _ _).drew) ?_
  intro Q' hQ'
  (rw [wpMixC]; simp only [pick, List.drop_succ_cons, List.drop_zero, List.head?_cons, Option.toList_some, List.cons_append, List.nil_append])
  (repeat (first | go_big_quiet_skip | (go_big_quiet_want; refine quiet_simple rfl ?_; go_big_quiet_op; go_big_quiet_on) | (go_big_quiet_want; refine quiet_agg2B (ty := 51) rfl rfl (by kernel_rfl) (by assumption) (by assumption) (by first | omega | (simp; omega)) ?_; simp only [Act.put, List.setIfInBounds_toArray, List.set_cons_succ, List.set_cons_zero]; go_big_quiet_on)))
  (try refine wpQuiet_nil ?_)
  (rw [wpMixC]; simp only [pick, List.drop_succ_cons, List.drop_zero, List.head?_cons, Option.toList_some, List.cons_append, List.nil_append])
  (rw [wpSteps]; go_wp2_with ((first | (go_at_call 138; refine (base_WideNeg _ _ _ _ _ hry).mono ?_; rintro _ w1 ⟨rfl, hb1⟩; have HB1 := hid hb1; have hzw1 := hb1.size) | (go_at_call 136; refine (base_WideAdd _ _ _ _ _ _ (HSZ.out _ (by first | exact hzw1 | omega)) (HAU.out _ (by (repeat (with_reducible first | exact Below.refl _ _ | assumption | refine Below.drewN _ ?_ | refine Below.drew ?_ | refine Below_alloc ?_ _ | refine Below.alloc ?_ (by first | (simp; done) | (simp; omega) | omega) _ | refine Below.setCell ?_ (by first | (simp; done) | (simp; omega) | omega) _ | refine Below_call ?_ (by assumption) | refine Below.trans ?_ (by assumption))))) (HAV.out _ (by (repeat (with_reducible first | exact Below.refl _ _ | assumption | refine Below.drewN _ ?_ | refine Below.drew ?_ | refine Below_alloc ?_ _ | refine Below.alloc ?_ (by first | (simp; done) | (simp; omega) | omega) _ | refine Below.setCell ?_ (by first | (simp; done) | (simp; omega) | omega) _ | refine Below_call ?_ (by assumption) | refine Below.trans ?_ (by assumption))))) HLL.out.1 HLL.out.2).mono ?_; rintro _ w2 ⟨r, rfl, hwr, hb2⟩; obtain ⟨ro, rn, rc, rfl⟩ := hwr.shape; have HWR := hid hwr; clear hwr; have HB2 := hid hb2; obtain ⟨e0, e1, p0, p1, hlt1⟩ := two_cells ((hb2.block (w.heap.size + 1 + 1) (by first | omega | exact hl2 | exact Nat.lt_of_lt_of_le hl2 hzw1)).trans ((HB1.out.block (w.heap.size + 1 + 1) (by first | omega | exact hl2 | exact Nat.lt_of_lt_of_le hl2 hzw1)).trans HWC.out))))); rw [contF]; refine ⟨?_, ?_⟩; (next => (repeat (with_reducible first | exact Below.refl _ _ | assumption | refine Below.drewN _ ?_ | refine Below.drew ?_ | refine Below_alloc ?_ _ | refine Below.alloc ?_ (by first | (simp; done) | (simp; omega) | omega) _ | refine Below.setCell ?_ (by first | (simp; done) | (simp; omega) | omega) _ | refine Below_call ?_ (by assumption) | refine Below.trans ?_ (by assumption)))))
  (rw [wpSteps]; go_wp2_with ((first | (go_at_call 138; refine (base_WideNeg _ _ _ _ _ hry).mono ?_; rintro _ w1 ⟨rfl, hb1⟩; have HB1 := hid hb1; have hzw1 := hb1.size) | (go_at_call 136; refine (base_WideAdd _ _ _ _ _ _ (HSZ.out _ (by first | exact hzw1 | omega)) (HAU.out _ (by (repeat (with_reducible first | exact Below.refl _ _ | assumption | refine Below.drewN _ ?_ | refine Below.drew ?_ | refine Below_alloc ?_ _ | refine Below.alloc ?_ (by first | (simp; done) | (simp; omega) | omega) _ | refine Below.setCell ?_ (by first | (simp; done) | (simp; omega) | omega) _ | refine Below_call ?_ (by assumption) | refine Below.trans ?_ (by assumption))))) (HAV.out _ (by (repeat (with_reducible first | exact Below.refl _ _ | assumption | refine Below.drewN _ ?_ | refine Below.drew ?_ | refine Below_alloc ?_ _ | refine Below.alloc ?_ (by first | (simp; done) | (simp; omega) | omega) _ | refine Below.setCell ?_ (by first | (simp; done) | (simp; omega) | omega) _ | refine Below_call ?_ (by assumption) | refine Below.trans ?_ (by assumption))))) HLL.out.1 HLL.out.2).mono ?_; rintro _ w2 ⟨r, rfl, hwr, hb2⟩; obtain ⟨ro, rn, rc, rfl⟩ := hwr.shape; have HWR := hid hwr; clear hwr; have HB2 := hid hb2; obtain ⟨e0, e1, p0, p1, hlt1⟩ := two_cells ((hb2.block (w.heap.size + 1 + 1) (by first | omega | exact hl2 | exact Nat.lt_of_lt_of_le hl2 hzw1)).trans ((HB1.out.block (w.heap.size + 1 + 1) (by first | omega | exact hl2 | exact Nat.lt_of_lt_of_le hl2 hzw1)).trans HWC.out))))); rw [contF]; refine ⟨?_, ?_⟩; (next => (repeat (with_reducible first | exact Below.refl _ _ | assumption | refine Below.drewN _ ?_ | refine Below.drew ?_ | refine Below_alloc ?_ _ | refine Below.alloc ?_ (by first | (simp; done) | (simp; omega) | omega) _ | refine Below.setCell ?_ (by first | (simp; done) | (simp; omega) | omega) _ | refine Below_call ?_ (by assumption) | refine Below.trans ?_ (by assumption)))))
  (rw [wpSteps])
  (rw [wpMixC])
  (rw [wpMix]; simp only [pick, List.drop_succ_cons, List.drop_zero, List.head?_cons, Option.toList_some, List.cons_append, List.nil_append])
  (go_wp2_with ((first | (go_at_call 138; refine (base_WideNeg _ _ _ _ _ hry).mono ?_; rintro _ w1 ⟨rfl, hb1⟩; have HB1 := hid hb1; have hzw1 := hb1.size) | (go_at_call 136; refine (base_WideAdd _ _ _ _ _ _ (HSZ.out _ (by first | exact hzw1 | omega)) (HAU.out _ (by (repeat (with_reducible first | exact Below.refl _ _ | assumption | refine Below.drewN _ ?_ | refine Below.drew ?_ | refine Below_alloc ?_ _ | refine Below.alloc ?_ (by first | (simp; done) | (simp; omega) | omega) _ | refine Below.setCell ?_ (by first | (simp; done) | (simp; omega) | omega) _ | refine Below_call ?_ (by assumption) | refine Below.trans ?_ (by assumption))))) (HAV.out _ (by (repeat (with_reducible first | exact Below.refl _ _ | assumption | refine Below.drewN _ ?_ | refine Below.drew ?_ | refine Below_alloc ?_ _ | refine Below.alloc ?_ (by first | (simp; done) | (simp; omega) | omega) _ | refine Below.setCell ?_ (by first | (simp; done) | (simp; omega) | omega) _ | refine Below_call ?_ (by assumption) | refine Below.trans ?_ (by assumption))))) HLL.out.1 HLL.out.2).mono ?_; rintro _ w2 ⟨r, rfl, hwr, hb2⟩; obtain ⟨ro, rn, rc, rfl⟩ := hwr.shape; have HWR := hid hwr; clear hwr; have HB2 := hid hb2; obtain ⟨e0, e1, p0, p1, hlt1⟩ := two_cells ((hb2.block (w.heap.size + 1 + 1) (by first | omega | exact hl2 | exact Nat.lt_of_lt_of_le hl2 hzw1)).trans ((HB1.out.block (w.heap.size + 1 + 1) (by first | omega | exact hl2 | exact Nat.lt_of_lt_of_le hl2 hzw1)).trans HWC.out))))); rw [contF])
  (rw [wpMix])
  (refine hQ' _ _ ?_)
  go_wp2_with fail
  ((try simp only [Exit.inBlock, Exit.then]); refine bodyPost_ret (v := .agg #[.int .i64 (sg (x + -y)), .slice ro rn rc]) ?_ rfl ?_; (next => simp [results, Try.results154, go_sem, hlt1, e0, e1]))
  rw [show x - y = x + -y from by omega]
  exact ⟨_, rfl, HWR.out.store2 (Below.refl _ _) (fun b h => ⟨h.1, by
    rcases Nat.lt_or_ge b w.heap.size with h1 | h1
    · exact h.2 h1
    · exact HNN.out b h1⟩) _ _, by (repeat (with_reducible first | exact Below.refl _ _ | assumption | refine Below.drewN _ ?_ | refine Below.drew ?_ | refine Below_alloc ?_ _ | refine Below.alloc ?_ (by first | (simp; done) | (simp; omega) | omega) _ | refine Below.setCell ?_ (by first | (simp; done) | (simp; omega) | omega) _ | refine Below_call ?_ (by assumption) | refine Below.trans ?_ (by assumption)))⟩

set_option maxRecDepth 100000 in
set_option maxHeartbeats 1000000 in
theorem base_WideCmp (x y : Int) (u v : Value) (w : World) (N : Nat → Prop) (hu : WideAt w u x N) (hv : WideAt w v y N) (hx : (dig x.natAbs).length ≤ 100000) (hy : (dig y.natAbs).length ≤ 100000) :
    Calls Try.prog 143 #[u, v] w fun e w' => e = .returned (.int .i64 (sg (x - y))) ∧ Below w.heap.size w w' := by
  have HU := hid hu
  have HV := hid hv
  obtain ⟨ao, lx, cap, rfl⟩ := hu.shape
  obtain ⟨bo, ly, cap2, rfl⟩ := hv.shape
  clear hu hv
  obtain ⟨sx, hsx⟩ : ∃ sx, sx = sg x := ⟨_, rfl⟩
  obtain ⟨sy, hsy⟩ : ∃ sy, sy = sg y := ⟨_, rfl⟩
  rw [← hsx] at HU ⊢
  rw [← hsy] at HV ⊢
  have HXY := hid (And.intro hx hy)
  clear hsx hsy hx hy
  have HSUB : Hid (∀ W', Below w.heap.size w W' → Calls Try.prog 154 #[.agg #[.int .i64 sx, .slice ao lx cap], .agg #[.int .i64 sy, .slice bo ly cap2]] W' (RetWide W' (x - y) (fun _ => True))) := hid (fun W' h => base_WideSub x y _ _ W' _ (fun _ _ => trivial) (HU.out.mono h (fun _ _ _ => trivial)) (HV.out.mono h (fun _ _ _ => trivial)) HXY.out.1 HXY.out.2)
  have hfd : ∀ (s : Int) (v : Value) (w : World), (Instr.field 51 (.agg #[.int .i64 s, v]) 0).run Try.prog w = .ok (.int .i64 s) w := fun _ _ _ => by kernel_rfl
  go_enter Try.func143, Try.ntmps143
  go_wp2_with (go_at_call 154; refine (HSUB.out _ (by (repeat (with_reducible first | exact Below.refl _ _ | assumption | refine Below.drewN _ ?_ | refine Below.drew ?_ | refine Below_alloc ?_ _ | refine Below.alloc ?_ (by first | (simp; done) | (simp; omega) | omega) _ | refine Below.setCell ?_ (by first | (simp; done) | (simp; omega) | omega) _ | refine Below_call ?_ (by assumption) | refine Below.trans ?_ (by assumption))))).mono ?_; rintro _ w2 ⟨r, rfl, hwr, hb2⟩; obtain ⟨ro, rn, rc, rfl⟩ := hwr.shape; clear hwr)
  go_ret
  exact ⟨rfl, by (repeat (with_reducible first | exact Below.refl _ _ | assumption | refine Below.drewN _ ?_ | refine Below.drew ?_ | refine Below_alloc ?_ _ | refine Below.alloc ?_ (by first | (simp; done) | (simp; omega) | omega) _ | refine Below.setCell ?_ (by first | (simp; done) | (simp; omega) | omega) _ | refine Below_call ?_ (by assumption) | refine Below.trans ?_ (by assumption)))⟩

end Go.Proofs.Ytlmdmpjfehpjeaa

