/- Methods of the reference: small ones, cuts that pass, clauses that select, windows. -/
import Derived.Test.YtllddidjiabegaaX6
set_option linter.unusedVariables false
set_option linter.unusedSimpArgs false
namespace Go.Proofs.Ytllddidjiabegaa
open Go.RowKit

def smallB (cs : List (List Cut)) : Bool := decide (cs.length ≤ 6) && cs.all (fun l => decide (l.length ≤ 6))
theorem smallB_ok {cs : List (List Cut)} (h : smallB cs = true) : cs.length ≤ 6 ∧ ∀ i, i < cs.length → (clAt cs i).length ≤ 6 := by
  simp only [smallB, Bool.and_eq_true, decide_eq_true_eq, List.all_eq_true] at h
  exact ⟨h.1, fun i hi => by rw [clAt_lt hi]; exact h.2 _ (List.getElem_mem hi)⟩

set_option maxRecDepth 100000 in
set_option maxHeartbeats 1000000 in
theorem law_Small (cs : List (List Cut)) (cv : Value) (p fr to : Int) (w : World) (h : ClausesAt w cv cs) :
    Calls Try.prog 13 #[.agg #[cv, .int .i64 p, .int .i64 fr, .int .i64 to]] w fun e w' => e = .returned (.bool (smallB cs)) ∧ Below w.heap.size w w' := by
  obtain ⟨ao, cap, us, rfl, h1, h2, h3⟩ := h.opn
  unfold maxLen at h2
  by_cases hn : 6 < cs.length
  · have HS : Hid (smallB cs = false) := hid (by simp [smallB]; omega)
    go_enter Try.func13, Try.ntmps13
    go_wp2_with fail
    go_ret
    exact ⟨by rw [HS.out]; rfl, by (repeat (with_reducible first | exact Below.refl _ _ | assumption | refine Below.drewN _ ?_ | refine Below.drew ?_ | refine Below_alloc ?_ _ | refine Below.alloc ?_ (by first | (simp; done) | (simp; omega) | omega) _ | refine Below.setCell ?_ (by first | (simp; done) | (simp; omega) | omega) _ | refine Below_call ?_ (by assumption) | refine Below.trans ?_ (by assumption)))⟩
  go_enter Try.func13, Try.ntmps13
  go_wp2_with fail
  obtain ⟨W0, hW0⟩ : ∃ W0, W0 = w.alloc (.cells #[.slice ao cs.length cap, .int .i64 p, .int .i64 fr, .int .i64 to] 24) := ⟨_, rfl⟩
  have r0 : W0.cell? ⟨w.heap.size, 0, none⟩ = some (.slice ao cs.length cap) := by rw [hW0]; simp
  have hz0 : w.heap.size + 1 ≤ W0.heap.size := by rw [hW0]; simp
  have hBW : Below w.heap.size w W0 := by rw [hW0]; (repeat (with_reducible first | exact Below.refl _ _ | assumption | refine Below.drewN _ ?_ | refine Below.drew ?_ | refine Below_alloc ?_ _ | refine Below.alloc ?_ (by first | (simp; done) | (simp; omega) | omega) _ | refine Below.setCell ?_ (by first | (simp; done) | (simp; omega) | omega) _ | refine Below_call ?_ (by assumption) | refine Below.trans ?_ (by assumption)))
  rw [← hW0]
  clear hW0
  go_loop [3] (fun i => ∃ k : Nat, k ≤ cs.length ∧ i = .int .i64 k ∧ Hid (∀ j, j < k → (clAt cs j).length ≤ 6)) (fun i => cs.length - (intOf i).toNat)
  case atStart => exact ⟨0, Nat.zero_le _, rfl, hid (fun j hj => by omega)⟩
  case round =>
    obtain ⟨k, hk, rfl, HZ⟩ := hrel
    by_cases hlt : k < cs.length
    · obtain ⟨b, off, rfl, hb, hc⟩ := h3 k hlt
      obtain ⟨c0, hcu⟩ := hc k hlt
      rw [← hBW.cell (p := ⟨b, off + k, none⟩) hb] at c0
      obtain ⟨ao2, cap2, hus, g1, g2, g3⟩ := hcu.opn
      rw [hus] at c0
      obtain ⟨cl, hcl⟩ : ∃ cl, cl = clAt cs k := ⟨_, rfl⟩
      rw [← hcl] at c0 g1
      have HCL := hid hcl
      unfold maxLen at g2
      clear hc h3 hcl h hcu g3 hus
      by_cases hl : 6 < cl.length
      · have HS : Hid (smallB cs = false) := hid (by
          cases hs : smallB cs
          · rfl
          · have := (smallB_ok hs).2 k hlt
            rw [← HCL.out] at this; omega)
        go_wp2_with fail
        go_ret
        exact ⟨by rw [HS.out]; rfl, hBW⟩
      · go_wp2_with fail
        go_round
        case rel =>
          refine ⟨k + 1, by omega, by go_num, hid (fun j hj => ?_)⟩
          rcases Nat.lt_or_ge j k with h | h
          · exact HZ.out j h
          · rw [show j = k from by omega, ← HCL.out]; omega
        case measure => simp [intOf]; omega
    · have HS : Hid (smallB cs = true) := hid (by
        simp only [smallB, Bool.and_eq_true, decide_eq_true_eq, List.all_eq_true]
        refine ⟨by omega, fun l hl => ?_⟩
        obtain ⟨j, hj, rfl⟩ := List.mem_iff_getElem.1 hl
        have := HZ.out j (by omega)
        rwa [clAt_lt hj] at this)
      go_wp2_with fail
      go_ret
      exact ⟨by rw [HS.out]; rfl, hBW⟩

set_option maxRecDepth 100000 in
set_option maxHeartbeats 1000000 in
theorem ref_Passes (x : Ev) (c : Cut) (w : World) (hok : okC c) :
    Calls Try.prog 129 #[.agg #[.int .i64 c.f, .int .i64 c.lo, .int .i64 c.hi], .agg #[.int .i64 x.t, .int .i64 x.en, .int .i64 x.ze, .int .i64 x.hi]] w fun e w' => e = .returned (.bool (!failC x c)) ∧ Below w.heap.size w w' := by
  obtain ⟨t, en, ze, hi⟩ := x
  obtain ⟨f, lo, hh⟩ := c
  have HF : Hid ((!failC ⟨t, en, ze, hi⟩ ⟨f, lo, hh⟩) = inB (fld ⟨t, en, ze, hi⟩ f) lo hh) := hid (by simp [failC])
  obtain ⟨hf0, hf2⟩ := hok
  simp only at hf0 hf2 ⊢
  rcases (by omega : f = 0 ∨ f = 1 ∨ f = 2) with rfl | rfl | rfl
  all_goals
    go_enter Try.func129, Try.ntmps129
    go_wp2_with fail
    go_quiet ((go_at_call 44; exact quiet_same (base_Within _ _ _ _) ⟨_, rfl⟩))
    go_wp2
    go_ret
    exact ⟨by rw [HF.out]; rfl, by (repeat (with_reducible first | exact Below.refl _ _ | assumption | refine Below.drewN _ ?_ | refine Below.drew ?_ | refine Below_alloc ?_ _ | refine Below.alloc ?_ (by first | (simp; done) | (simp; omega) | omega) _ | refine Below.setCell ?_ (by first | (simp; done) | (simp; omega) | omega) _ | refine Below_call ?_ (by assumption) | refine Below.trans ?_ (by assumption)))⟩

set_option maxRecDepth 100000 in
theorem ref_IsInside (cv : Value) (p fr to t en ze hi : Int) (w : World) (hp : 1 ≤ p) (ht : 0 ≤ t) (hto : 0 ≤ to) (hto2 : to ≤ 100000) :
    Calls Try.prog 86 #[.agg #[cv, .int .i64 p, .int .i64 fr, .int .i64 to], .agg #[.int .i64 t, .int .i64 en, .int .i64 ze, .int .i64 hi]] w fun e w' => e = .returned (.bool (insB t p fr to)) ∧ Below w.heap.size w w' := by
  have HI : Hid (insB t p fr to = inB (t % p) fr (to - 1)) := hid rfl
  have hmod : t.tmod p = t % p := by rw [Int.tmod_eq_emod_of_nonneg ht]
  have hsub : IntKind.i64.wrap (to - 1) = to - 1 := IntWalk.i64_in _ (by omega)
  go_enter Try.func86, Try.ntmps86
  go_wp2_with fail
  ((refine wp_three [] [0, 1, 2, 3, 4, 5, 6, 7, 8, 9, 10] 11 (by kernel_rfl) (by kernel_rfl) ?_); (intro _ _); (simp only [pick, List.drop_succ_cons, List.drop_zero, List.head?_cons, Option.toList_some, List.cons_append, List.nil_append]); (repeat (first | (go_big_quiet_step ((go_at_call 44; exact quiet_same (base_Within _ _ _ _) ⟨_, rfl⟩))) | (quiet_step ((go_at_call 44; exact quiet_same (base_Within _ _ _ _) ⟨_, rfl⟩))))); (try refine wpQuiet_nil ?_); (repeat (first | (go_big_quiet_step ((go_at_call 44; exact quiet_same (base_Within _ _ _ _) ⟨_, rfl⟩))) | (quiet_step ((go_at_call 44; exact quiet_same (base_Within _ _ _ _) ⟨_, rfl⟩))))); (try refine wpQuiet_nil ?_); (intro nq))
  go_wp2
  go_ret
  exact ⟨ret_bool (by rw [HI.out]; try rfl), by (repeat (with_reducible first | exact Below.refl _ _ | assumption | refine Below.drewN _ ?_ | refine Below.drew ?_ | refine Below_alloc ?_ _ | refine Below.alloc ?_ (by first | (simp; done) | (simp; omega) | omega) _ | refine Below.setCell ?_ (by first | (simp; done) | (simp; omega) | omega) _ | refine Below_call ?_ (by assumption) | refine Below.trans ?_ (by assumption)))⟩

end Go.Proofs.Ytllddidjiabegaa
