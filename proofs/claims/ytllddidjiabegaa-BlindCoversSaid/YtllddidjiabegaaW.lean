/- The reference's check of methods, and the errors alone. -/
import Derived.Test.YtllddidjiabegaaV
set_option linter.unusedVariables false
set_option linter.unusedSimpArgs false
namespace Go.Proofs.Ytllddidjiabegaa
open Go.RowKit

theorem cntErr_zero {n : Int} (h : n ≤ 0) : cntErr n = 10 := by
  have : ¬ 0 < n := by omega
  simp [cntErr, unl, firstNZ, this]
theorem cntErr_big {n : Int} (h : 4 < n) : cntErr n = 8 := by
  have h1 : 0 < n := by omega
  have h2 : ¬ n ≤ 4 := by omega
  simp [cntErr, unl, firstNZ, h1, h2]
theorem cntErr_ok {n : Int} (h : 0 < n) (h' : n ≤ 4) : cntErr n = 0 := by simp [cntErr, unl, firstNZ, h, h']
theorem clErr_cnt {l : List Cut} (h : cntErr l.length ≠ 0) : clErr l = cntErr l.length := by simp [clErr, firstNZ, h]
theorem clErr_scan {l : List Cut} (h : cntErr l.length = 0) : clErr l = scan (fun j => cutErr (cutAt l j)) l.length := by
  unfold clErr scan
  simp only [firstNZ, h, if_true]
  congr 1
  apply List.ext_getElem (by simp)
  intro i h1 h2
  have h3 : i < l.length := by simpa using h1
  simp [cutAt_lt h3]

set_option maxRecDepth 100000 in
set_option maxHeartbeats 4000000 in
theorem ref_CheckMethod (m : Meth) (cv : Value) (w : World) (h : ClausesAt w cv m.cs) :
    Calls Try.prog 19 #[methV cv m.p m.fr m.to] w fun e w' => e = .returned (methChk m) ∧ Below w.heap.size w w' := by
  obtain ⟨cs, p, fr, to⟩ := m
  simp only at h ⊢
  obtain ⟨ao, cap, us, rfl, h1, h2, h3⟩ := h.opn
  unfold maxLen at h2
  unfold methV
  by_cases hn0 : cs.length = 0
  · have HM : Hid (methChk ⟨cs, p, fr, to⟩ = .tuple #[.int .i64 0, .int .i64 10]) := hid (by
      have e := cntErr_zero (n := cs.length) (by omega)
      simp only [methChk, methIdx, methErr, e]; simp [firstNZ])
    go_enter Try.func19, Try.ntmps19
    go_wp2_with fail
    go_ret2
    exact ⟨by simp [HM.out], by (repeat (with_reducible first | exact Below.refl _ _ | assumption | refine Below.drewN _ ?_ | refine Below.drew ?_ | refine Below_alloc ?_ _ | refine Below.alloc ?_ (by first | (simp; done) | (simp; omega) | omega) _ | refine Below.setCell ?_ (by first | (simp; done) | (simp; omega) | omega) _ | refine Below_call ?_ (by assumption) | refine Below.trans ?_ (by assumption)))⟩
  by_cases hn4 : 4 < cs.length
  · have HM : Hid (methChk ⟨cs, p, fr, to⟩ = .tuple #[.int .i64 0, .int .i64 8]) := hid (by
      have e := cntErr_big (n := cs.length) (by omega)
      simp only [methChk, methIdx, methErr, e]; simp [firstNZ])
    go_enter Try.func19, Try.ntmps19
    go_wp2_with fail
    go_ret2
    exact ⟨by simp [HM.out], by (repeat (with_reducible first | exact Below.refl _ _ | assumption | refine Below.drewN _ ?_ | refine Below.drew ?_ | refine Below_alloc ?_ _ | refine Below.alloc ?_ (by first | (simp; done) | (simp; omega) | omega) _ | refine Below.setCell ?_ (by first | (simp; done) | (simp; omega) | omega) _ | refine Below_call ?_ (by assumption) | refine Below.trans ?_ (by assumption)))⟩
  have HE : Hid (cntErr cs.length = 0) := hid (cntErr_ok (by omega) (by omega))
  have hn0' : ((cs.length : Int) == 0) = false := by rw [beq_eq_false_iff_ne]; omega
  go_enter Try.func19, Try.ntmps19
  go_wp2_with fail
  obtain ⟨W0, hW0⟩ : ∃ W0, W0 = w.alloc (.cells #[.slice ao cs.length cap, .int .i64 p, .int .i64 fr, .int .i64 to] 24) := ⟨_, rfl⟩
  have r0 : W0.cell? ⟨w.heap.size, 0, none⟩ = some (.slice ao cs.length cap) := by rw [hW0]; simp
  have r1 : W0.cell? ⟨w.heap.size, 1, none⟩ = some (.int .i64 p) := by rw [hW0]; simp
  have r2 : W0.cell? ⟨w.heap.size, 2, none⟩ = some (.int .i64 fr) := by rw [hW0]; simp
  have r3 : W0.cell? ⟨w.heap.size, 3, none⟩ = some (.int .i64 to) := by rw [hW0]; simp
  have hz0 : w.heap.size + 1 ≤ W0.heap.size := by rw [hW0]; simp
  have hBW : Below w.heap.size w W0 := by rw [hW0]; (repeat (with_reducible first | exact Below.refl _ _ | assumption | refine Below.drewN _ ?_ | refine Below.drew ?_ | refine Below_alloc ?_ _ | refine Below.alloc ?_ (by first | (simp; done) | (simp; omega) | omega) _ | refine Below.setCell ?_ (by first | (simp; done) | (simp; omega) | omega) _ | refine Below_call ?_ (by assumption) | refine Below.trans ?_ (by assumption)))
  rw [← hW0]
  clear hW0
  go_loopw [4] (fun i wr => ∃ k : Nat, k ≤ cs.length ∧ i = .int .i64 k ∧ Hid (∀ j, j < k → clErr (clAt cs j) = 0) ∧ Below W0.heap.size W0 wr) (fun i _ => cs.length - (intOf i).toNat)
  case atStart => exact ⟨0, Nat.zero_le _, rfl, hid (fun j hj => by omega), Below.refl _ _⟩
  case round =>
    obtain ⟨k, hk, rfl, HZ, hbel⟩ := hrel
    have hzw := hbel.size
    obtain ⟨hcb, hfb⟩ := bcell hbel
    have s0 := (hcb w.heap.size 0 (by omega)).trans r0
    have s1 := (hcb w.heap.size 1 (by omega)).trans r1
    have s2 := (hcb w.heap.size 2 (by omega)).trans r2
    have s3 := (hcb w.heap.size 3 (by omega)).trans r3
    have hNw : w.heap.size < wr.heap.size := by omega
    by_cases hlt : k < cs.length
    · obtain ⟨b, off, rfl, hb, hc⟩ := h3 k hlt
      obtain ⟨c0, hcu⟩ := hc k hlt
      have hB : Below w.heap.size w wr := hBW.trans (hbel.mono (by omega))
      rw [← hB.cell (p := ⟨b, off + k, none⟩) hb] at c0
      replace hcu := hcu.below hB
      obtain ⟨cl, hcl⟩ : ∃ cl, cl = clAt cs k := ⟨_, rfl⟩
      rw [← hcl] at hcu
      have HCL := hid hcl
      obtain ⟨ao2, cap2, hus, g1, g2, g3⟩ := hcu.opn
      unfold maxLen at g2
      rw [hus] at c0
      have hbw : b < wr.heap.size := by omega
      have HBAD : Hid (∀ e : Int, clErr cl = e → e ≠ 0 → methChk ⟨cs, p, fr, to⟩ = .tuple #[.int .i64 k, .int .i64 e]) := hid (by
        intro e he hne
        have hne' : clErr (clAt cs k) ≠ 0 := by rw [← hcl, he]; exact hne
        have e1 := scan_at (f := fun i => clErr (clAt cs i)) HZ.out hlt hne'
        have e2 := scanI_at (f := fun i => clErr (clAt cs i)) HZ.out hlt hne'
        simp only [methChk, methIdx, methErr, HE.out, e1, e2, if_true]
        rw [← hcl, he]
        simp [firstNZ, hne])
      clear hc h3 hcl h hcu hcb hfb
      by_cases hl0 : cl.length = 0
      · have hb0 := HBAD.out 10 (by rw [clErr_cnt (by rw [cntErr_zero (by omega)]; decide), cntErr_zero (by omega)]) (by decide)
        have HB0 := hid hb0
        clear hb0
        go_wp2_with fail
        go_ret2
        exact ⟨by simp [HB0.out], by (repeat (with_reducible first | exact Below.refl _ _ | assumption | refine Below.drewN _ ?_ | refine Below.drew ?_ | refine Below_alloc ?_ _ | refine Below.alloc ?_ (by first | (simp; done) | (simp; omega) | omega) _ | refine Below.setCell ?_ (by first | (simp; done) | (simp; omega) | omega) _ | refine Below_call ?_ (by assumption) | refine Below.trans ?_ (by assumption)))⟩
      by_cases hl4 : 4 < cl.length
      · have hb0 := HBAD.out 8 (by rw [clErr_cnt (by rw [cntErr_big (by omega)]; decide), cntErr_big (by omega)]) (by decide)
        have HB0 := hid hb0
        clear hb0
        have hl0' : ((cl.length : Int) == 0) = false := by rw [beq_eq_false_iff_ne]; omega
        go_wp2_with fail
        go_ret2
        exact ⟨by simp [HB0.out], by (repeat (with_reducible first | exact Below.refl _ _ | assumption | refine Below.drewN _ ?_ | refine Below.drew ?_ | refine Below_alloc ?_ _ | refine Below.alloc ?_ (by first | (simp; done) | (simp; omega) | omega) _ | refine Below.setCell ?_ (by first | (simp; done) | (simp; omega) | omega) _ | refine Below_call ?_ (by assumption) | refine Below.trans ?_ (by assumption)))⟩
      have hl0' : ((cl.length : Int) == 0) = false := by rw [beq_eq_false_iff_ne]; omega
      have HSC : Hid (clErr cl = scan (fun j => cutErr (cutAt cl j)) cl.length) := hid (clErr_scan (cntErr_ok (by omega) (by omega)))
      go_wp2_with fail
      obtain ⟨wo, rfl⟩ : ∃ wo : World, wo = wr := ⟨_, rfl⟩
      go_loopw [5] (fun i wr => ∃ j : Nat, j ≤ cl.length ∧ i = .int .i64 j ∧ Hid (∀ q, q < j → cutErr (cutAt cl q) = 0) ∧ Below wo.heap.size wo wr) (fun i _ => cl.length - (intOf i).toNat)
      case atStart => exact ⟨0, Nat.zero_le _, rfl, hid (fun j hj => by omega), Below.refl _ _⟩
      case round =>
        obtain ⟨j, hj, rfl, HZ2, hbt⟩ := hrel
        have hzt := hbt.size
        obtain ⟨hcb, hfb⟩ := bcell hbt
        have t0 := (hcb w.heap.size 0 hNw).trans s0
        have t1 := (hcb b (off + k) hbw).trans c0
        have hNw' : w.heap.size < wr.heap.size := by omega
        have hbw' : b < wr.heap.size := by omega
        have hBX : Below w.heap.size w wr := hB.trans (hbt.mono hB.size)
        by_cases hl2 : j < cl.length
        · obtain ⟨b2, off2, rfl, hbb, hcc⟩ := g3 j hl2
          obtain ⟨d0, d1, d2⟩ := hcc j hl2
          rw [← hcb b2 _ hbb] at d0 d1 d2
          have hbb' : b2 < wr.heap.size := by omega
          obtain ⟨x, hx⟩ : ∃ x, x = cutAt cl j := ⟨_, rfl⟩
          rw [← hx] at d0 d1 d2
          have HX := hid hx
          obtain ⟨f, lo, hi⟩ := x
          simp only at d0 d1 d2
          have HBAD2 : Hid (∀ e : Int, cutErr ⟨f, lo, hi⟩ = e → e ≠ 0 → methChk ⟨cs, p, fr, to⟩ = .tuple #[.int .i64 k, .int .i64 e]) := hid (by
            intro e he hne
            refine HBAD.out e ?_ hne
            rw [HSC.out, scan_at (f := fun j => cutErr (cutAt cl j)) HZ2.out hl2 (by rw [← hx, he]; exact hne), ← hx, he])
          have HOK : Hid (cutErr ⟨f, lo, hi⟩ = 0 → ∀ q, q < j + 1 → cutErr (cutAt cl q) = 0) := hid (by
            intro he q hq
            rcases Nat.lt_or_ge q j with h | h
            · exact HZ2.out q h
            · rw [show q = j from by omega, ← hx]; exact he)
          clear hcc g3 hcb hfb hx
          go_wp2_with (first | (go_at_call 44; refine (base_Within _ _ _ _).mono ?_; rintro _ _ ⟨rfl, rfl⟩) | (go_at_call 83; refine (ref_isField _ _).mono ?_; rintro _ _ ⟨rfl, rfl⟩))
          all_goals (try simp only [Bool.not_eq_true', Bool.not_eq_false', Bool.not_eq_true, Bool.not_eq_false] at *)
          all_goals first
            | (have HQ : cutErr ⟨f, lo, hi⟩ = 15 := (by simp [cutErr, firstNZ, unl, *]; done)
               go_ret2; refine ⟨?_, by (repeat (with_reducible first | exact Below.refl _ _ | assumption | refine Below.drewN _ ?_ | refine Below.drew ?_ | refine Below_alloc ?_ _ | refine Below.alloc ?_ (by first | (simp; done) | (simp; omega) | omega) _ | refine Below.setCell ?_ (by first | (simp; done) | (simp; omega) | omega) _ | refine Below_call ?_ (by assumption) | refine Below.trans ?_ (by assumption)))⟩; simp [HBAD2.out 15 HQ (by decide)]; done)
            | (have HQ : cutErr ⟨f, lo, hi⟩ = 2 := (by simp [cutErr, firstNZ, unl, *]; done)
               go_ret2; refine ⟨?_, by (repeat (with_reducible first | exact Below.refl _ _ | assumption | refine Below.drewN _ ?_ | refine Below.drew ?_ | refine Below_alloc ?_ _ | refine Below.alloc ?_ (by first | (simp; done) | (simp; omega) | omega) _ | refine Below.setCell ?_ (by first | (simp; done) | (simp; omega) | omega) _ | refine Below_call ?_ (by assumption) | refine Below.trans ?_ (by assumption)))⟩; simp [HBAD2.out 2 HQ (by decide)]; done)
            | (have hlh : ¬ lo ≤ hi := (by omega)
               have HQ : cutErr ⟨f, lo, hi⟩ = 9 := (by simp [cutErr, firstNZ, unl, *]; done)
               go_ret2; refine ⟨?_, by (repeat (with_reducible first | exact Below.refl _ _ | assumption | refine Below.drewN _ ?_ | refine Below.drew ?_ | refine Below_alloc ?_ _ | refine Below.alloc ?_ (by first | (simp; done) | (simp; omega) | omega) _ | refine Below.setCell ?_ (by first | (simp; done) | (simp; omega) | omega) _ | refine Below_call ?_ (by assumption) | refine Below.trans ?_ (by assumption)))⟩; simp [HBAD2.out 9 HQ (by decide)]; done)
            | skip
          go_roundw
          case rel => exact ⟨j + 1, by omega, by go_num, hid (HOK.out (by simp [cutErr, firstNZ, unl, *])), by (repeat (with_reducible first | exact Below.refl _ _ | assumption | refine Below.drewN _ ?_ | refine Below.drew ?_ | refine Below_alloc ?_ _ | refine Below.alloc ?_ (by first | (simp; done) | (simp; omega) | omega) _ | refine Below.setCell ?_ (by first | (simp; done) | (simp; omega) | omega) _ | refine Below_call ?_ (by assumption) | refine Below.trans ?_ (by assumption)))⟩
          case measure => simp [intOf]; omega
        · have hjl : j = cl.length := by omega
          subst hjl
          go_wp2_with fail
          go_roundw
          case rel =>
            refine ⟨k + 1, by omega, by go_num, hid (fun q hq => ?_), hbel.trans (hbt.mono hzw)⟩
            rcases Nat.lt_or_ge q k with h | h
            · exact HZ.out q h
            · rw [show q = k from by omega, ← HCL.out, HSC.out, scan_end (f := fun j => cutErr (cutAt cl j)) fun j hj => HZ2.out j hj]
          case measure => simp [intOf]; omega
    · have e1 := scan_end (f := fun i => clErr (clAt cs i)) (n := cs.length) fun j hj => HZ.out j (by omega)
      have e2 := scanI_end (f := fun i => clErr (clAt cs i)) (n := cs.length) fun j hj => HZ.out j (by omega)
      have HM : Hid (methChk ⟨cs, p, fr, to⟩ = .tuple #[.int .i64 0, .int .i64 (winErr p fr to)]) := hid (by
        simp only [methChk, methIdx, methErr, HE.out, e1, e2, if_true]
        simp only [firstNZ, if_true]
        congr 4
        split
        · rename_i h; rw [h]
        · rfl)
      clear e1 e2 hcb hfb h3 h
      go_wp2_with (go_at_call 44; refine (base_Within _ _ _ _).mono ?_; rintro _ _ ⟨rfl, rfl⟩)
      all_goals (try simp only [Bool.not_eq_true', Bool.not_eq_false', Bool.not_eq_true, Bool.not_eq_false] at *)
      all_goals go_ret2
      all_goals refine ⟨?_, by (repeat (with_reducible first | exact Below.refl _ _ | assumption | refine Below.drewN _ ?_ | refine Below.drew ?_ | refine Below_alloc ?_ _ | refine Below.alloc ?_ (by first | (simp; done) | (simp; omega) | omega) _ | refine Below.setCell ?_ (by first | (simp; done) | (simp; omega) | omega) _ | refine Below_call ?_ (by assumption) | refine Below.trans ?_ (by assumption)))⟩
      all_goals rw [HM.out]
      all_goals first
        | (simp [winErr, winB, unl, firstNZ, *]; done)
        | (simp [winErr, winB, unl, firstNZ, *]; omega)

end Go.Proofs.Ytllddidjiabegaa
