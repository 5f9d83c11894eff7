/- Events unscrambled by the reference, and compared. -/
import Derived.Test.YtllddidjiabegaaBE3
set_option linter.unusedVariables false
set_option linter.unusedSimpArgs false
namespace Go.Proofs.Ytllddidjiabegaa
open Go.RowKit

theorem OwnEv.shape {w : World} {base : Nat} {v : Value} {l : List Ev} (h : OwnEv w base v l) (h0 : 0 < l.length) :
    ∃ g cap, v = .slice (some ⟨g, 0, none⟩) l.length cap ∧ base ≤ g ∧ g < w.heap.size ∧ l.length ≤ cap ∧ cap ≤ maxLen ∧
      (∀ i, i < l.length → w.cell? ⟨g, i * 4, none⟩ = some (.int .i64 (evAt l i).t)) ∧ ∀ i, w.frozen? ⟨g, i, none⟩ = false := by
  obtain ⟨h1, h2⟩ := h
  rcases h2 with ⟨_, h3⟩ | ⟨g, cap, cur, rfl, hb, hg, hn, hm, hs, ht⟩
  · omega
  · refine ⟨g, cap, rfl, hb, (Array.getElem?_eq_some_iff.1 hg).1, hn, hm, fun i hi => ?_, fun i => frozen_of_row w g i cur _ hg⟩
    rw [cell_of_row w g _ cur _ (0, 0) hg]
    have hq : i * 4 < l.length * 4 := by omega
    have e1 : (cur.toList.take (l.length * 4))[i * 4]? = some ((evAt l i).cell 0) := by
      rw [ht, flat_get hq]
      rw [Nat.mul_div_cancel _ (by omega), Nat.mul_mod_left]
    rw [List.getElem?_take, if_pos hq] at e1
    simpa [Ev.cell] using e1

set_option maxRecDepth 100000 in
set_option maxHeartbeats 2000000 in
theorem ref_Unscrambled (l : List Ev) (v : Value) (m : Nat) (w : World) (h : EventsAt w v l) (h12 : l.length ≤ 12) (hm : m ≤ 479001600) :
    Calls Try.prog 69 #[v, .int .i64 m] w (RetEvents w (uns l m)) := by
  have HPC : Hid (∀ W, Calls Try.prog 63 #[.int .i64 l.length, .int .i64 m] W (RetInts W (perm l.length m))) := hid (fun W => ref_Permutation l.length m W h12 hm)
  have HPR : Hid (∀ i, i < l.length → ∃ j : Nat, nth (perm l.length m) i = j ∧ j < l.length) := hid (fun i hi => perm_range hi)
  have HCP : Hid (∀ W, Below w.heap.size w W → Calls Try.prog 17 #[v] W (RetOwn W l)) := hid (fun W hW => ref_CopyEventsO l v W (h.below hW) (by omega))
  have hpl := perm_len l.length m
  have HSC : Hid (uns l m = unsUp l (perm l.length m) l.length) := hid rfl
  obtain ⟨P, hP⟩ : ∃ P, P = perm l.length m := ⟨_, rfl⟩
  rw [← hP] at HPC HPR hpl HSC
  have HPL := hid hpl
  clear hP hpl
  obtain ⟨ao, cap, rfl, h1, h2, h3⟩ := h.opn
  unfold maxLen at h2
  go_enter Try.func69, Try.ntmps69
  go_wp2_with (go_at_call 63; refine (HPC.out _).mono ?_; rintro _ w1 ⟨pv, rfl, hp, hb1⟩; obtain ⟨ao2, cap2, rfl, p1, p2, p3⟩ := hp.opn; clear hp)
  unfold maxLen at p2
  have hz1 := hb1.size
  rw [HPL.out] at p1 p3
  rw [HPL.out]
  refine (HCP.out _ hb1).mono ?_
  rintro _ w2 ⟨ov, rfl, hown0, hb2⟩
  have hz2 := hb2.size
  go_wp2_with fail
  go_loopw [7] (fun i wr => ∃ k : Nat, k ≤ l.length ∧ i = .int .i64 k ∧ OwnEv wr w1.heap.size ov (unsUp l P k) ∧ Below w1.heap.size w1 wr) (fun i _ => l.length - (intOf i).toNat)
  case atStart => exact ⟨0, Nat.zero_le _, rfl, hown0, hb2⟩
  case round =>
    obtain ⟨k, hk, rfl, hown, hbel⟩ := hrel
    have hzw := hbel.size
    have hB : Below w.heap.size w wr := hb1.trans (hbel.mono hz1)
    by_cases hlt : k < l.length
    · obtain ⟨b, off, rfl, hb, hc⟩ := h3 k hlt
      have c0 := (hc k hlt).1
      obtain ⟨j, hj, hjl⟩ := HPR.out k hlt
      obtain ⟨bp, op, rfl, hbp, hcp⟩ := p3 k hlt
      have q0 := hcp k hlt
      rw [hj] at q0
      obtain ⟨hcb, hfb⟩ := bcell hB
      rw [← hcb b _ hb] at c0
      have q1 := (hbel.cell (p := ⟨bp, op + k, none⟩) hbp).trans q0
      have hul := unsUp_len l P k
      obtain ⟨g, cap3, rfl, hbg, hgs, g1, g2, g3, g4⟩ := hown.shape (by omega)
      have hold := g3 j (by omega)
      have hfr := g4 (j * 4)
      have hset := hown.setT (i := j) (by omega) (evAt l k).t
      have HUS : Hid (unsUp l P (k + 1) = (unsUp l P k).set j ((evAt (unsUp l P k) j).at (evAt l k).t)) := hid (by rw [unsUp, hj]; rfl)
      rw [← HUS.out] at hset
      obtain ⟨tk, htk⟩ : ∃ tk, tk = (evAt l k).t := ⟨_, rfl⟩
      rw [← htk] at c0 hset
      have HSET := hid hset
      rw [hul] at g1
      have hjl' : (j : Int) < l.length := by omega
      have hbw : b < wr.heap.size := by have := hB.size; omega
      have hbpw : bp < wr.heap.size := by omega
      have HUL := hid hul
      unfold maxLen at g2
      clear hc h3 hcb hfb htk h hj q0 hcp p3 hown hown0 hul g3 g4 hset HUS hb2
      rw [HUL.out]
      go_wp2_with fail
      refine wp_mixC (fun wc => Below (wr.heap.size) wr wc) 10 [.q [0, 1, 2, 3, 4, 5, 6, 7, 8, 9]] [.q [10, 11], .f [12]] (by kernel_rfl) (by kernel_rfl) ((Below.refl _ _).drew) ?_
      intro Q' hQ'
      (rw [wpMixC]; simp only [pick, List.drop_succ_cons, List.drop_zero, List.head?_cons, Option.toList_some, List.cons_append, List.nil_append])
      (repeat (first | go_big_quiet_skip | (go_big_quiet_want; refine quiet_simple rfl ?_; go_big_quiet_op; go_big_quiet_on) | (go_big_quiet_want; refine quiet_cellB (ty := 3) rfl rfl (by kernel_rfl) (by assumption) (by first | omega | (simp; omega)) ?_; simp only [Act.put, List.setIfInBounds_toArray, List.set_cons_succ, List.set_cons_zero]; go_big_quiet_on)))
      (try refine wpQuiet_nil ?_)
      (rw [wpMixC])
      (rw [wpMix]; simp only [pick, List.drop_succ_cons, List.drop_zero, List.head?_cons, Option.toList_some, List.cons_append, List.nil_append])
      (repeat (first | (go_big_quiet_step (fail)) | (quiet_step (fail))))
      (try refine wpQuiet_nil ?_)
      (rw [wpMix]; simp only [pick, List.drop_succ_cons, List.drop_zero, List.head?_cons, Option.toList_some, List.cons_append, List.nil_append])
      (go_wp2_with (fail); rw [contF])
      (rw [wpMix])
      (refine hQ' _ _ ?_)
      go_wp2_with fail
      go_roundw
      case rel =>
        rw [HUL.out] at HSET
        exact ⟨k + 1, by omega, by go_num, HSET.out.below (Below.drew (Below.refl _ _)), by (repeat (with_reducible first | exact Below.refl _ _ | assumption | refine Below.drewN _ ?_ | refine Below.drew ?_ | refine Below_alloc ?_ _ | refine Below.alloc ?_ (by first | (simp; done) | (simp; omega) | omega) _ | refine Below.setCell ?_ (by first | (simp; done) | (simp; omega) | omega) _ | refine Below_call ?_ (by assumption) | refine Below.trans ?_ (by assumption)))⟩
      case measure => simp [intOf]; omega
    · have hkl : k = l.length := by omega
      go_wp2_with fail
      go_ret
      refine ⟨_, rfl, ?_, hB⟩
      rw [HSC.out, ← hkl]
      exact OwnEv.at hown

end Go.Proofs.Ytllddidjiabegaa
