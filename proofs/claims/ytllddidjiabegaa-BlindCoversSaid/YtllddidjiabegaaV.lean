/- The checks of methods. -/
import Derived.Test.YtllddidjiabegaaU
set_option linter.unusedVariables false
set_option linter.unusedSimpArgs false
namespace Go.Proofs.Ytllddidjiabegaa
open Go.RowKit

theorem firstNZ_snoc (l : List Int) (x : Int) : firstNZ (l ++ [x]) = firstNZ [firstNZ l, x] := by
  induction l with
  | nil => simp [firstNZ]
  | cons a l ih =>
    simp only [List.cons_append, firstNZ]
    split
    · rw [ih]; simp only [firstNZ]
    · rename_i h; simp [h]
def clUp (l : List Cut) (j : Nat) : Int := firstNZ (cntErr l.length :: (l.take j).map cutErr)
theorem clUp_succ {l : List Cut} {j : Nat} (h : j < l.length) : clUp l (j + 1) = firstNZ [clUp l j, cutErr (cutAt l j)] := by
  unfold clUp
  rw [cutAt_take h, List.map_append, ← List.cons_append]
  exact firstNZ_snoc _ _
theorem clUp_end (l : List Cut) : clUp l l.length = clErr l := by unfold clUp clErr; rw [List.take_length]
theorem clUp_zero (l : List Cut) : clUp l 0 = cntErr l.length := by
  unfold clUp; simp only [List.take_zero, List.map_nil, firstNZ]; split
  · rename_i h; exact h.symm
  · rfl

/-- the place of the first error, 0 if there is none. -/
def scanI (f : Nat → Int) (n : Nat) : Int := (((List.range n).find? (fun i => f i != 0)).getD 0 : Nat)
theorem scanI_end {f : Nat → Int} {n : Nat} (h : ∀ j, j < n → f j = 0) : scanI f n = 0 := by
  unfold scanI
  rw [List.find?_eq_none.2]
  · rfl
  · intro x hx; rw [h x (List.mem_range.1 hx)]; simp
theorem scanI_at {f : Nat → Int} {n k : Nat} (h : ∀ j, j < k → f j = 0) (hk : k < n) (hne : f k ≠ 0) : scanI f n = k := by
  unfold scanI
  obtain ⟨m, rfl⟩ : ∃ m, n = k + (m + 1) := ⟨n - k - 1, by omega⟩
  rw [List.range_add, List.find?_append, List.find?_eq_none.2, List.range_succ_eq_map]
  · simp [hne]
  · intro x hx; rw [h x (List.mem_range.1 hx)]; simp

def winB (p fr to : Int) : Bool := inB p 1 100000 && inB fr 0 p && inB to 0 p
def winErr (p fr to : Int) : Int := firstNZ [unl (winB p fr to) 2, unl (decide (fr ≤ to)) 9]
def methErr (m : Meth) : Int := firstNZ [cntErr m.cs.length, scan (fun i => clErr (clAt m.cs i)) m.cs.length, winErr m.p m.fr m.to]
def methIdx (m : Meth) : Int := if cntErr m.cs.length = 0 then scanI (fun i => clErr (clAt m.cs i)) m.cs.length else 0
def methChk (m : Meth) : Value := .tuple #[.int .i64 (methIdx m), .int .i64 (methErr m)]

set_option maxRecDepth 100000 in
set_option maxHeartbeats 2000000 in
theorem blind_CheckMethod (m : Meth) (cv : Value) (w : World) (h : ClausesAt w cv m.cs) :
    Calls Try.prog 14 #[methV cv m.p m.fr m.to] w fun e w' => e = .returned (methChk m) ∧ Below w.heap.size w w' := by
  obtain ⟨cs, p, fr, to⟩ := m
  simp only at h ⊢
  obtain ⟨ao, cap, us, rfl, h1, h2, h3⟩ := h.opn
  unfold maxLen at h2
  unfold methV
  by_cases he : cntErr cs.length = 0
  · have HE := hid he
    have he' : (cntErr cs.length != 0) = false := by simpa using he
    clear he
    go_enter Try.func14, Try.ntmps14
    go_wp2_with (go_at_call 74; refine (blind_countErr _ _).mono ?_; rintro _ w1 ⟨rfl, hb1⟩; obtain ⟨hc1, hf1⟩ := bcell hb1; have hz1 := hb1.size; (try simp only [World.size_alloc, World.heap_drewN] at hz1); have hk1_0 : w.heap.size < w1.heap.size := (by omega); have q1_0_0 := hc1 (w.heap.size) 0 (by first | assumption | (simp; done) | (simp; omega)); (try simp at q1_0_0); have p1_0_0 := hf1 (w.heap.size) 0 (by first | assumption | (simp; done) | (simp; omega)); (try simp at p1_0_0); have q1_0_1 := hc1 (w.heap.size) 1 (by first | assumption | (simp; done) | (simp; omega)); (try simp at q1_0_1); have p1_0_1 := hf1 (w.heap.size) 1 (by first | assumption | (simp; done) | (simp; omega)); (try simp at p1_0_1); have q1_0_2 := hc1 (w.heap.size) 2 (by first | assumption | (simp; done) | (simp; omega)); (try simp at q1_0_2); have p1_0_2 := hf1 (w.heap.size) 2 (by first | assumption | (simp; done) | (simp; omega)); (try simp at p1_0_2); have q1_0_3 := hc1 (w.heap.size) 3 (by first | assumption | (simp; done) | (simp; omega)); (try simp at q1_0_3); have p1_0_3 := hf1 (w.heap.size) 3 (by first | assumption | (simp; done) | (simp; omega)); (try simp at p1_0_3))
    have hB1 : Below w.heap.size w w1 := by (repeat (with_reducible first | exact Below.refl _ _ | assumption | refine Below.drewN _ ?_ | refine Below.drew ?_ | refine Below_alloc ?_ _ | refine Below.alloc ?_ (by first | (simp; done) | (simp; omega) | omega) _ | refine Below.setCell ?_ (by first | (simp; done) | (simp; omega) | omega) _ | refine Below_call ?_ (by assumption) | refine Below.trans ?_ (by assumption)))
    have hz01 := hB1.size
    clear hc1 hf1 hb1
    go_loopw [21] (fun i wr => ∃ k : Nat, k ≤ cs.length ∧ i = .int .i64 k ∧ Hid (∀ j, j < k → clErr (clAt cs j) = 0) ∧ Below w1.heap.size w1 wr) (fun i _ => cs.length - (intOf i).toNat)
    case atStart => exact ⟨0, Nat.zero_le _, rfl, hid (fun j hj => by omega), Below.refl _ _⟩
    case round =>
      obtain ⟨k, hk, rfl, HZ, hbel⟩ := hrel
      have hzw := hbel.size
      by_cases hlt : k < cs.length
      · obtain ⟨b, off, rfl, hb, hc⟩ := h3 k hlt
        obtain ⟨c0, hcu⟩ := hc k hlt
        have hB : Below w.heap.size w wr := hB1.trans (hbel.mono hz01)
        rw [← hB.cell (p := ⟨b, off + k, none⟩) hb] at c0
        replace hcu := hcu.below hB
        obtain ⟨cl, hcl⟩ : ∃ cl, cl = clAt cs k := ⟨_, rfl⟩
        rw [← hcl] at hcu
        have HCL := hid hcl
        obtain ⟨ao2, cap2, hus, g1, g2, g3⟩ := hcu.opn
        unfold maxLen at g2
        rw [hus] at c0
        have hbw : b < wr.heap.size := by omega
        clear hc h3 hcl h hcu
        have HU0 := hid (clUp_zero cl)
        have HUE := hid (clUp_end cl)
        go_wp2_with (go_at_call 74; refine (blind_countErr _ _).mono ?_; rintro _ w2 ⟨rfl, hb2⟩; obtain ⟨hc2, hf2⟩ := bcell hb2; have hz2 := hb2.size; (try simp only [World.size_alloc, World.heap_drewN] at hz2))
        rw [← HU0.out]
        have hB2 : Below w1.heap.size w1 w2 := hbel.trans (hb2.mono hzw)
        have hB2' : Below wr.heap.size wr w2 := hb2
        clear hc2 hf2 hb2
        obtain ⟨wo, rfl⟩ : ∃ wo : World, wo = wr := ⟨_, rfl⟩
        go_loopw [7, 31] (fun e i wr => ∃ j : Nat, j ≤ cl.length ∧ e = .int .i64 (clUp cl j) ∧ i = .int .i64 j ∧ Below w2.heap.size w2 wr) (fun _ i _ => cl.length - (intOf i).toNat)
        case atStart => exact ⟨0, Nat.zero_le _, rfl, rfl, Below.refl _ _⟩
        case round =>
          obtain ⟨j, hj, rfl, rfl, hbt⟩ := hrel
          have hzt := hbt.size
          by_cases hl2 : j < cl.length
          · obtain ⟨b2, off2, rfl, hbb, hcc⟩ := g3 j hl2
            obtain ⟨d0, d1, d2⟩ := hcc j hl2
            have hB3 : Below wo.heap.size wo wr := hB2'.trans (hbt.mono hB2'.size)
            obtain ⟨hcb, hfb⟩ := bcell hB3
            rw [← hcb b2 _ hbb] at d0 d1 d2
            have HUS := hid (clUp_succ hl2)
            obtain ⟨x, hx⟩ : ∃ x, x = cutAt cl j := ⟨_, rfl⟩
            rw [← hx] at d0 d1 d2 HUS
            obtain ⟨f, lo, hi⟩ := x
            simp only at d0 d1 d2
            clear hcc g3 hcb hfb hx hB3
            go_wp2_with (first | (go_at_call 76; refine (blind_cutErr f lo hi _).mono ?_; rintro _ w4 ⟨rfl, hb4⟩; obtain ⟨hc4, hf4⟩ := bcell hb4; have hz4 := hb4.size; (try simp only [World.size_alloc, World.heap_drewN] at hz4)) | (go_at_call 75; refine (blind_first [clUp cl j, cutErr ⟨f, lo, hi⟩] _ _ (intsAt_new _ _ _ _ _ rfl (by simp) (by simp))).mono ?_; rintro _ _ ⟨rfl, rfl⟩))
            go_roundw
            case rel => exact ⟨j + 1, by omega, by rw [HUS.out], by go_num, by (repeat (with_reducible first | exact Below.refl _ _ | assumption | refine Below.drewN _ ?_ | refine Below.drew ?_ | refine Below_alloc ?_ _ | refine Below.alloc ?_ (by first | (simp; done) | (simp; omega) | omega) _ | refine Below.setCell ?_ (by first | (simp; done) | (simp; omega) | omega) _ | refine Below_call ?_ (by assumption) | refine Below.trans ?_ (by assumption)))⟩
            case measure => simp [intOf]; omega
          · have hjl : j = cl.length := by omega
            subst hjl
            rw [HUE.out]
            have hB4 : Below w1.heap.size w1 wr := hB2.trans (hbt.mono hB2.size)
            cases ht : (clErr cl != 0)
            · have HT := hid ht
              go_wp2_with fail
              go_roundw
              case rel =>
                refine ⟨k + 1, by omega, by go_num, hid (fun j hj => ?_), hB4⟩
                rcases Nat.lt_or_ge j k with h | h
                · exact HZ.out j h
                · rw [show j = k from by omega, ← HCL.out]; simpa using HT.out
              case measure => simp [intOf]; omega
            · have HT := hid ht
              go_wp2_with fail
              go_ret2
              have hne : clErr (clAt cs k) ≠ 0 := by rw [← HCL.out]; simpa using HT.out
              have e1 := scan_at (f := fun i => clErr (clAt cs i)) HZ.out hlt hne
              have e2 := scanI_at (f := fun i => clErr (clAt cs i)) HZ.out hlt hne
              refine ⟨?_, hB1.trans (hB4.mono hz01)⟩
              simp only [methChk, methIdx, methErr, HE.out, e1, e2, if_true]
              simp [firstNZ, HCL.out, hne]
      · obtain ⟨hcb, hfb⟩ := bcell hbel
        have hB : Below w.heap.size w wr := hB1.trans (hbel.mono hz01)
        have r0 := (hcb w.heap.size 0 hk1_0).trans q1_0_0
        have r1 := (hcb w.heap.size 1 hk1_0).trans q1_0_1
        have r2 := (hcb w.heap.size 2 hk1_0).trans q1_0_2
        have r3 := (hcb w.heap.size 3 hk1_0).trans q1_0_3
        have hNw : w.heap.size < wr.heap.size := by omega
        have e1 := scan_end (f := fun i => clErr (clAt cs i)) (n := cs.length) fun j hj => HZ.out j (by omega)
        have e2 := scanI_end (f := fun i => clErr (clAt cs i)) (n := cs.length) fun j hj => HZ.out j (by omega)
        have HM : Hid (methChk ⟨cs, p, fr, to⟩ = .tuple #[.int .i64 0, .int .i64 (winErr p fr to)]) := hid (by
          simp only [methChk, methIdx, methErr, HE.out, e1, e2, if_true]
          simp only [firstNZ, if_true]
          congr 4
          split
          · rename_i h; rw [h]
          · rfl)
        have HW : Hid (winErr p fr to = firstNZ [unl (winB p fr to) 2, unl (decide (fr ≤ to)) 9]) := hid rfl
        clear e1 e2 hcb hfb h3 h
        go_wp2_with (go_at_call 77; refine (blind_within _ _ _ _).mono ?_; rintro _ _ ⟨rfl, rfl⟩)
        all_goals (try simp only [Bool.not_eq_true', Bool.not_eq_false', Bool.not_eq_true, Bool.not_eq_false] at *)
        all_goals
          ((refine wp_three [] [0, 1, 2, 3, 4, 5, 6, 7] 8 (by kernel_rfl) (by kernel_rfl) ?_); (intro _ _); (simp only [pick, List.drop_succ_cons, List.drop_zero, List.head?_cons, Option.toList_some, List.cons_append, List.nil_append]); (repeat (first | (go_big_quiet_step ((go_at_call 78; exact quiet_same (blind_unless _ _ _) ⟨_, rfl⟩))) | (quiet_step ((go_at_call 78; exact quiet_same (blind_unless _ _ _) ⟨_, rfl⟩))))); (try refine wpQuiet_nil ?_); (repeat (first | (go_big_quiet_step ((go_at_call 78; exact quiet_same (blind_unless _ _ _) ⟨_, rfl⟩))) | (quiet_step ((go_at_call 78; exact quiet_same (blind_unless _ _ _) ⟨_, rfl⟩))))); (try refine wpQuiet_nil ?_); (intro nq))
          go_wp2_with (first | (go_at_call 75; refine (blind_first [unl false 2, unl (decide (fr ≤ to)) 9] _ _ (intsAt_new _ _ _ _ _ rfl (by simp) (by simp))).mono ?_; rintro _ _ ⟨rfl, rfl⟩) | (go_at_call 75; refine (blind_first [unl (inB to 0 p) 2, unl (decide (fr ≤ to)) 9] _ _ (intsAt_new _ _ _ _ _ rfl (by simp) (by simp))).mono ?_; rintro _ _ ⟨rfl, rfl⟩))
          go_ret2
          refine ⟨?_, by (repeat (with_reducible first | exact Below.refl _ _ | assumption | refine Below.drewN _ ?_ | refine Below.drew ?_ | refine Below_alloc ?_ _ | refine Below.alloc ?_ (by first | (simp; done) | (simp; omega) | omega) _ | refine Below.setCell ?_ (by first | (simp; done) | (simp; omega) | omega) _ | refine Below_call ?_ (by assumption) | refine Below.trans ?_ (by assumption)))⟩
          rw [HM.out, HW.out]
          simp [winB, *]
  · have he' : (cntErr cs.length != 0) = true := by simpa using he
    have HE := hid he
    clear he
    go_enter Try.func14, Try.ntmps14
    go_wp2_with (go_at_call 74; refine (blind_countErr _ _).mono ?_; rintro _ w1 ⟨rfl, hb1⟩; obtain ⟨hc1, hf1⟩ := bcell hb1; have hz1 := hb1.size; (try simp only [World.size_alloc, World.heap_drewN] at hz1))
    go_ret2
    refine ⟨?_, by (repeat (with_reducible first | exact Below.refl _ _ | assumption | refine Below.drewN _ ?_ | refine Below.drew ?_ | refine Below_alloc ?_ _ | refine Below.alloc ?_ (by first | (simp; done) | (simp; omega) | omega) _ | refine Below.setCell ?_ (by first | (simp; done) | (simp; omega) | omega) _ | refine Below_call ?_ (by assumption) | refine Below.trans ?_ (by assumption)))⟩
    simp [methChk, methIdx, methErr, HE.out, firstNZ]

end Go.Proofs.Ytllddidjiabegaa
