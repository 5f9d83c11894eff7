/- The checks of events. -/
import Derived.Test.YtllddidjiabegaaBE0
set_option linter.unusedVariables false
set_option linter.unusedSimpArgs false
namespace Go.Proofs.Ytllddidjiabegaa
open Go.RowKit

set_option maxRecDepth 100000 in
set_option maxHeartbeats 2000000 in
theorem ref_CheckEvents (l : List Ev) (v : Value) (w : World) (h : EventsAt w v l) :
    Calls Try.prog 67 #[v] w fun e w' => e = .returned (.tuple #[.int .i64 (evsIdx l), .int .i64 (evsErr l)]) ∧ Below w.heap.size w w' := by
  obtain ⟨ao, cap, rfl, h1, h2, h3⟩ := h.opn
  unfold maxLen at h2
  by_cases hbig : 12 < l.length
  · have HR : Hid (evsIdx l = 0 ∧ evsErr l = 8) := hid (by simp [evsIdx, evsErr, hbig])
    go_enter Try.func67, Try.ntmps67
    go_wp2_with fail
    go_ret2
    exact ⟨by rw [HR.out.1, HR.out.2]; rfl, Below.refl _ _⟩
  have HBIG := hid hbig
  go_enter Try.func67, Try.ntmps67
  go_wp2_with fail
  go_loopw [4] (fun i wr => ∃ k : Nat, k ≤ l.length ∧ i = .int .i64 k ∧ Hid (∀ j, j < k → plErr l j = 0) ∧ Below w.heap.size w wr) (fun i _ => l.length - (intOf i).toNat)
  case atStart => exact ⟨0, Nat.zero_le _, rfl, hid (fun j hj => by omega), Below.refl _ _⟩
  case round =>
    obtain ⟨k, hk, rfl, HZ, hbel⟩ := hrel
    have hzw := hbel.size
    by_cases hlt : k < l.length
    · obtain ⟨b, off, rfl, hb, hc⟩ := h3 k hlt
      obtain ⟨c0, c1, c2, c3⟩ := hc k hlt
      obtain ⟨hcb, hfb⟩ := bcell hbel
      rw [← hcb b _ hb] at c0 c1 c2 c3
      have hbw : b < wr.heap.size := by omega
      have HPL : Hid (plErr l k = firstNZ [evErr (evAt l k), unl (decide (k = 0) || decide ((evAt l (k - 1)).t ≤ (evAt l k).t)) 9]) := hid rfl
      have HBAD : Hid (∀ e, plErr l k = e → e ≠ 0 → evsIdx l = k ∧ evsErr l = e) := hid (by
        intro e he hne
        have hne' : plErr l k ≠ 0 := by rw [he]; exact hne
        unfold evsIdx evsErr
        rw [if_neg hbig, if_neg hbig, scan_at HZ.out hlt hne', scanI_at HZ.out hlt hne', he]
        exact ⟨rfl, rfl⟩)
      have HOK : Hid (plErr l k = 0 → ∀ j, j < k + 1 → plErr l j = 0) := hid (by
        intro he j hj
        rcases Nat.lt_or_ge j k with h | h
        · exact HZ.out j h
        · rw [show j = k from by omega]; exact he)
      have d0' := fun hk : 0 < k => (hc (k - 1) (by omega)).1
      obtain ⟨x, hx⟩ : ∃ x, x = evAt l k := ⟨_, rfl⟩
      obtain ⟨t0, ht0⟩ : ∃ t0, t0 = (evAt l (k - 1)).t := ⟨_, rfl⟩
      rw [← ht0] at d0' HPL
      rw [← hx] at c0 c1 c2 c3 HPL
      obtain ⟨t, en, ze, hi⟩ := x
      simp only at c0 c1 c2 c3 HPL
      clear hc h3 hx h ht0
      cases ht : (evErr ⟨t, en, ze, hi⟩ != 0)
      case true =>
        have HT := hid ht
        clear d0' hcb hfb
        go_wp2_with (go_at_call 84; refine (ref_eventErr t en ze hi _).mono ?_; rintro _ w1 ⟨rfl, hb1⟩; obtain ⟨hc1, hf1⟩ := bcell hb1; have hz1 := hb1.size; (try simp only [World.size_alloc, World.heap_drewN] at hz1))
        go_ret2
        have hne : evErr ⟨t, en, ze, hi⟩ ≠ 0 := by simpa using HT.out
        have e1 : plErr l k = evErr ⟨t, en, ze, hi⟩ := by rw [HPL.out]; simp [firstNZ, hne]
        obtain ⟨e2, e3⟩ := HBAD.out _ e1 hne
        exact ⟨by rw [e2, e3]; rfl, by (repeat (with_reducible first | exact Below.refl _ _ | assumption | refine Below.drewN _ ?_ | refine Below.drew ?_ | refine Below_alloc ?_ _ | refine Below.alloc ?_ (by first | (simp; done) | (simp; omega) | omega) _ | refine Below.setCell ?_ (by first | (simp; done) | (simp; omega) | omega) _ | refine Below_call ?_ (by assumption) | refine Below.trans ?_ (by assumption)))⟩
      case false =>
        have HT := hid ht
        by_cases hk0 : k = 0
        · have HK0 := hid hk0
          have hgt : decide ((0 : Int) < (k : Int)) = false := by rw [decide_eq_false_iff_not]; omega
          have hgn : decide (0 < k) = false := by rw [decide_eq_false_iff_not]; omega
          clear d0' hcb hfb hk0
          go_wp2_with (go_at_call 84; refine (ref_eventErr t en ze hi _).mono ?_; rintro _ w1 ⟨rfl, hb1⟩; obtain ⟨hc1, hf1⟩ := bcell hb1; have hz1 := hb1.size; (try simp only [World.size_alloc, World.heap_drewN] at hz1))
          refine wp_mixC (fun wc => Below (w1.heap.size) w1 wc) 16 [.q [0, 1, 2, 3, 4, 5, 6, 7, 8, 9, 10, 11, 12, 13, 14, 15]] [] (by kernel_rfl) (by kernel_rfl) ((Below.refl _ _).drew) ?_
          intro Q' hQ'
          (rw [wpMixC]; simp only [pick, List.drop_succ_cons, List.drop_zero, List.head?_cons, Option.toList_some, List.cons_append, List.nil_append])
          (repeat (first | go_big_quiet_skip | (go_big_quiet_want; refine quiet_simple rfl ?_; go_big_quiet_op; go_big_quiet_on) | (go_big_quiet_want; refine quiet_cellB (ty := 3) rfl rfl (by kernel_rfl) (by assumption) (by first | omega | (simp; omega)) ?_; simp only [Act.put, List.setIfInBounds_toArray, List.set_cons_succ, List.set_cons_zero]; go_big_quiet_on)))
          (try refine wpQuiet_nil ?_)
          (rw [wpMixC])
          (rw [wpMix])
          (refine hQ' _ _ ?_)
          go_wp2_with fail
          go_roundw
          case rel => exact ⟨k + 1, by omega, by go_num, hid (HOK.out (by rw [HPL.out]; have := HT.out; simp at this; simp [firstNZ, unl, HK0.out, this])), by (repeat (with_reducible first | exact Below.refl _ _ | assumption | refine Below.drewN _ ?_ | refine Below.drew ?_ | refine Below_alloc ?_ _ | refine Below.alloc ?_ (by first | (simp; done) | (simp; omega) | omega) _ | refine Below.setCell ?_ (by first | (simp; done) | (simp; omega) | omega) _ | refine Below_call ?_ (by assumption) | refine Below.trans ?_ (by assumption)))⟩
          case measure => simp [intOf]; omega
        · have hkp : 0 < k := by omega
          have d0 := (hcb b _ hb).trans (d0' hkp)
          have hgt : decide ((0 : Int) < (k : Int)) = true := by simpa using hkp
          have hsub : IntKind.i64.wrap ((k : Int) - 1) = (k : Int) - 1 := IntWalk.i64_in _ (by omega)
          have htn : ((k : Int) - 1).toNat = k - 1 := by omega
          have hnn : (0 : Int) ≤ (k : Int) - 1 := by omega
          have hlt2 : (k : Int) - 1 < l.length := by omega
          clear d0' hcb hfb
          cases hle : decide (t < t0)
          · have HLE := hid hle
            go_wp2_with (go_at_call 84; refine (ref_eventErr t en ze hi _).mono ?_; rintro _ w1 ⟨rfl, hb1⟩; obtain ⟨hc1, hf1⟩ := bcell hb1; have hz1 := hb1.size; (try simp only [World.size_alloc, World.heap_drewN] at hz1))
            have d1 := (hc1 b _ hbw).trans d0
            have e0 := (hc1 b _ hbw).trans c0
            have hbw1 : b < w1.heap.size := by omega
            refine wp_mixC (fun wc => Below (w1.heap.size) w1 wc) 16 [.q [0, 1, 2, 3, 4, 5, 6, 7, 8, 9, 10, 11, 12, 13, 14, 15]] [] (by kernel_rfl) (by kernel_rfl) ((Below.refl _ _).drew) ?_
            intro Q' hQ'
            (rw [wpMixC]; simp only [pick, List.drop_succ_cons, List.drop_zero, List.head?_cons, Option.toList_some, List.cons_append, List.nil_append])
            (repeat (first | go_big_quiet_skip | (go_big_quiet_want; refine quiet_simple rfl ?_; go_big_quiet_op; go_big_quiet_on) | (go_big_quiet_want; refine quiet_cellB (ty := 3) rfl rfl (by kernel_rfl) (by assumption) (by first | omega | (simp; omega)) ?_; simp only [Act.put, List.setIfInBounds_toArray, List.set_cons_succ, List.set_cons_zero]; go_big_quiet_on)))
            (try refine wpQuiet_nil ?_)
            (rw [wpMixC])
            (rw [wpMix])
            (refine hQ' _ _ ?_)
            go_wp2_with fail
            go_roundw
            case rel => exact ⟨k + 1, by omega, by go_num, hid (HOK.out (by rw [HPL.out]; have h1 := HT.out; have h2 := HLE.out; simp at h1 h2; simp [firstNZ, unl, h1, h2])), by (repeat (with_reducible first | exact Below.refl _ _ | assumption | refine Below.drewN _ ?_ | refine Below.drew ?_ | refine Below_alloc ?_ _ | refine Below.alloc ?_ (by first | (simp; done) | (simp; omega) | omega) _ | refine Below.setCell ?_ (by first | (simp; done) | (simp; omega) | omega) _ | refine Below_call ?_ (by assumption) | refine Below.trans ?_ (by assumption)))⟩
            case measure => simp [intOf]; omega
          · have HLE := hid hle
            go_wp2_with (go_at_call 84; refine (ref_eventErr t en ze hi _).mono ?_; rintro _ w1 ⟨rfl, hb1⟩; obtain ⟨hc1, hf1⟩ := bcell hb1; have hz1 := hb1.size; (try simp only [World.size_alloc, World.heap_drewN] at hz1))
            have d1 := (hc1 b _ hbw).trans d0
            have e0 := (hc1 b _ hbw).trans c0
            have hbw1 : b < w1.heap.size := by omega
            refine wp_mixC (fun wc => Below (w1.heap.size) w1 wc) 16 [.q [0, 1, 2, 3, 4, 5, 6, 7, 8, 9, 10, 11, 12, 13, 14, 15]] [] (by kernel_rfl) (by kernel_rfl) ((Below.refl _ _).drew) ?_
            intro Q' hQ'
            (rw [wpMixC]; simp only [pick, List.drop_succ_cons, List.drop_zero, List.head?_cons, Option.toList_some, List.cons_append, List.nil_append])
            (repeat (first | go_big_quiet_skip | (go_big_quiet_want; refine quiet_simple rfl ?_; go_big_quiet_op; go_big_quiet_on) | (go_big_quiet_want; refine quiet_cellB (ty := 3) rfl rfl (by kernel_rfl) (by assumption) (by first | omega | (simp; omega)) ?_; simp only [Act.put, List.setIfInBounds_toArray, List.set_cons_succ, List.set_cons_zero]; go_big_quiet_on)))
            (try refine wpQuiet_nil ?_)
            (rw [wpMixC])
            (rw [wpMix])
            (refine hQ' _ _ ?_)
            go_wp2_with fail
            go_ret2
            have e1 : plErr l k = 9 := by rw [HPL.out]; have h1 := HT.out; have h2 := HLE.out; simp at h1 h2; simp [firstNZ, unl, h1, hk0]; omega
            obtain ⟨e2, e3⟩ := HBAD.out _ e1 (by decide)
            exact ⟨by rw [e2, e3]; rfl, by (repeat (with_reducible first | exact Below.refl _ _ | assumption | refine Below.drewN _ ?_ | refine Below.drew ?_ | refine Below_alloc ?_ _ | refine Below.alloc ?_ (by first | (simp; done) | (simp; omega) | omega) _ | refine Below.setCell ?_ (by first | (simp; done) | (simp; omega) | omega) _ | refine Below_call ?_ (by assumption) | refine Below.trans ?_ (by assumption)))⟩
    · have hkl : k = l.length := by omega
      have e1 := scan_end (f := plErr l) (n := l.length) fun j hj => HZ.out j (by omega)
      have e2 := scanI_end (f := plErr l) (n := l.length) fun j hj => HZ.out j (by omega)
      have HR : Hid (evsIdx l = 0 ∧ evsErr l = 0) := hid (by unfold evsIdx evsErr; rw [if_neg hbig, if_neg hbig, e1, e2]; exact ⟨rfl, rfl⟩)
      clear e1 e2
      go_wp2_with fail
      go_ret2
      exact ⟨by rw [HR.out.1, HR.out.2]; rfl, hbel⟩

end Go.Proofs.Ytllddidjiabegaa
