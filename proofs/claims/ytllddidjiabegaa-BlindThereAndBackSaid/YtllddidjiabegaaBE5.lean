/- Events compared. -/
import Derived.Test.YtllddidjiabegaaBE4
set_option linter.unusedVariables false
set_option linter.unusedSimpArgs false
namespace Go.Proofs.Ytllddidjiabegaa
open Go.RowKit

theorem evAt_ext {l m : List Ev} (h : l.length = m.length) (he : ∀ i, i < l.length → evAt l i = evAt m i) : l = m := by
  apply List.ext_getElem h
  intro i h1 h2
  have := he i h1
  rwa [evAt_lt h1, evAt_lt h2] at this

set_option maxRecDepth 100000 in
set_option maxHeartbeats 2000000 in
theorem ref_SameEvents (l m : List Ev) (v u : Value) (w : World) (h : EventsAt w v l) (h' : EventsAt w u m) :
    Calls Try.prog 58 #[v, u] w fun e w' => e = .returned (.bool (decide (l = m))) ∧ Below w.heap.size w w' := by
  obtain ⟨ao, cap, rfl, h1, h2, h3⟩ := h.opn
  obtain ⟨ao2, cap2, rfl, g1, g2, g3⟩ := h'.opn
  unfold maxLen at h2 g2
  by_cases hl : l.length = m.length
  case neg =>
    have HD : Hid (decide (l = m) = false) := hid (by rw [decide_eq_false_iff_not]; rintro rfl; exact hl rfl)
    have hne : ((l.length : Int) != (m.length : Int)) = true := by rw [bne_iff_ne]; omega
    go_enter Try.func58, Try.ntmps58
    go_wp2_with fail
    go_ret
    exact ⟨by rw [HD.out]; rfl, Below.refl _ _⟩
  have HL := hid hl
  rw [← hl] at g1 g3 ⊢
  clear hl
  go_enter Try.func58, Try.ntmps58
  go_wp2_with fail
  go_loopw [5] (fun i wr => ∃ k : Nat, k ≤ l.length ∧ i = .int .i64 k ∧ Hid (∀ j, j < k → evAt l j = evAt m j) ∧ Below w.heap.size w wr) (fun i _ => l.length - (intOf i).toNat)
  case atStart => exact ⟨0, Nat.zero_le _, rfl, hid (fun j hj => by omega), Below.refl _ _⟩
  case round =>
    obtain ⟨k, hk, rfl, HZ, hbel⟩ := hrel
    have hzw := hbel.size
    by_cases hlt : k < l.length
    · obtain ⟨b, off, rfl, hb, hc⟩ := h3 k hlt
      obtain ⟨c0, c1, c2, c3⟩ := hc k hlt
      obtain ⟨b2, off2, rfl, hb2, hd⟩ := g3 k hlt
      obtain ⟨d0, d1, d2, d3⟩ := hd k hlt
      obtain ⟨hcb, hfb⟩ := bcell hbel
      rw [← hcb b _ hb] at c0 c1 c2 c3
      rw [← hcb b2 _ hb2] at d0 d1 d2 d3
      have hbw : b < wr.heap.size := by omega
      have hbw2 : b2 < wr.heap.size := by omega
      by_cases he : evAt l k = evAt m k
      · have HE := hid he
        rw [← he] at d0 d1 d2 d3
        obtain ⟨x, hx⟩ : ∃ x, x = evAt l k := ⟨_, rfl⟩
        rw [← hx] at c0 c1 c2 c3 d0 d1 d2 d3
        obtain ⟨t, en, ze, hi⟩ := x
        simp only at c0 c1 c2 c3 d0 d1 d2 d3
        clear hc h3 hd g3 hcb hfb hx h h' he
        go_wp2_with fail
        refine wp_mixC (fun wc => Below (wr.heap.size) wr wc) 9 [.q [0, 1, 2, 3, 4, 5, 6, 7, 8]] [] (by kernel_rfl) (by kernel_rfl) ((Below.refl _ _).drew) ?_
        intro Q' hQ'
        (rw [wpMixC]; simp only [pick, List.drop_succ_cons, List.drop_zero, List.head?_cons, Option.toList_some, List.cons_append, List.nil_append])
        (repeat (first | go_big_quiet_skip | (go_big_quiet_want; refine quiet_simple rfl ?_; go_big_quiet_op; go_big_quiet_on) | (go_big_quiet_want; refine quiet_agg4B (ty := 89) rfl rfl (by kernel_rfl) (by assumption) (by assumption) (by assumption) (by assumption) (by first | omega | (simp; omega)) ?_; simp only [Act.put, List.setIfInBounds_toArray, List.set_cons_succ, List.set_cons_zero]; go_big_quiet_on)))
        (try refine wpQuiet_nil ?_)
        (rw [wpMixC])
        (rw [wpMix])
        (refine hQ' _ _ ?_)
        go_wp2_with fail
        go_roundw
        case rel =>
          refine ⟨k + 1, by omega, by go_num, hid (fun j hj => ?_), by (repeat (with_reducible first | exact Below.refl _ _ | assumption | refine Below.drewN _ ?_ | refine Below.drew ?_ | refine Below_alloc ?_ _ | refine Below.alloc ?_ (by first | (simp; done) | (simp; omega) | omega) _ | refine Below.setCell ?_ (by first | (simp; done) | (simp; omega) | omega) _ | refine Below_call ?_ (by assumption) | refine Below.trans ?_ (by assumption)))⟩
          rcases Nat.lt_or_ge j k with h | h
          · exact HZ.out j h
          · rw [show j = k from by omega]; exact HE.out
        case measure => simp [intOf]; omega
      · have HD : Hid (decide (l = m) = false) := hid (by rw [decide_eq_false_iff_not]; rintro rfl; exact he rfl)
        obtain ⟨x, hx⟩ : ∃ x, x = evAt l k := ⟨_, rfl⟩
        obtain ⟨y, hy⟩ : ∃ y, y = evAt m k := ⟨_, rfl⟩
        rw [← hx] at c0 c1 c2 c3 he
        rw [← hy] at d0 d1 d2 d3 he
        obtain ⟨t, en, ze, hi⟩ := x
        obtain ⟨t', en', ze', hi'⟩ := y
        simp only at c0 c1 c2 c3 d0 d1 d2 d3
        have HNE : Hid (¬ (t = t' ∧ en = en' ∧ ze = ze' ∧ hi = hi')) := hid (by rintro ⟨rfl, rfl, rfl, rfl⟩; exact he rfl)
        clear hc h3 hd g3 hcb hfb hx hy h h' he
        have hparts : (t == t') = false ∨ (t = t' ∧ (en == en') = false) ∨ (t = t' ∧ en = en' ∧ (ze == ze') = false) ∨ (t = t' ∧ en = en' ∧ ze = ze' ∧ (hi == hi') = false) := by
          have h1 := HNE.out
          simp only [beq_eq_false_iff_ne]
          omega
        rcases hparts with hq | ⟨rfl, hq⟩ | ⟨rfl, rfl, hq⟩ | ⟨rfl, rfl, rfl, hq⟩
        all_goals
          go_wp2_with fail
          refine wp_mixC (fun wc => Below (wr.heap.size) wr wc) 9 [.q [0, 1, 2, 3, 4, 5, 6, 7, 8]] [] (by kernel_rfl) (by kernel_rfl) ((Below.refl _ _).drew) ?_
          intro Q' hQ'
          (rw [wpMixC]; simp only [pick, List.drop_succ_cons, List.drop_zero, List.head?_cons, Option.toList_some, List.cons_append, List.nil_append])
          (repeat (first | go_big_quiet_skip | (go_big_quiet_want; refine quiet_simple rfl ?_; go_big_quiet_op; go_big_quiet_on) | (go_big_quiet_want; refine quiet_agg4B (ty := 89) rfl rfl (by kernel_rfl) (by assumption) (by assumption) (by assumption) (by assumption) (by first | omega | (simp; omega)) ?_; simp only [Act.put, List.setIfInBounds_toArray, List.set_cons_succ, List.set_cons_zero]; go_big_quiet_on)))
          (try refine wpQuiet_nil ?_)
          (rw [wpMixC])
          (rw [wpMix])
          (refine hQ' _ _ ?_)
          go_wp2_with fail
          go_ret
          exact ⟨by rw [HD.out]; rfl, by (repeat (with_reducible first | exact Below.refl _ _ | assumption | refine Below.drewN _ ?_ | refine Below.drew ?_ | refine Below_alloc ?_ _ | refine Below.alloc ?_ (by first | (simp; done) | (simp; omega) | omega) _ | refine Below.setCell ?_ (by first | (simp; done) | (simp; omega) | omega) _ | refine Below_call ?_ (by assumption) | refine Below.trans ?_ (by assumption)))⟩
    · have HD : Hid (decide (l = m) = true) := hid (by rw [decide_eq_true_iff]; exact evAt_ext HL.out fun i hi => HZ.out i (by omega))
      go_wp2_with fail
      go_ret
      exact ⟨by rw [HD.out]; rfl, hbel⟩

end Go.Proofs.Ytllddidjiabegaa
