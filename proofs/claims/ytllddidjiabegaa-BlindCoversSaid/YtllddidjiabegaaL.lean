/- Contracts of the reference's limits and coverages. -/
import Derived.Test.YtllddidjiabegaaK
set_option linter.unusedVariables false
set_option linter.unusedSimpArgs false
namespace Go.Proofs.Ytllddidjiabegaa
open Go.RowKit

def limRefV (T h r : Int) : Value := .tuple #[.agg #[.int .i64 (limLo T h r 11), .int .i64 (limHi T h r 11)], .bool (decide (0 ≤ limHi T h r 11))]

/-- a block of two cells. -/
theorem two_cells {w : World} {g : Nat} {x y : Value} {t : TypeId} (h : w.heap[g]? = some (.cells #[x, y] t (0, 0))) :
    w.cell? ⟨g, 0, none⟩ = some x ∧ w.cell? ⟨g, 1, none⟩ = some y ∧ w.frozen? ⟨g, 0, none⟩ = false ∧ w.frozen? ⟨g, 1, none⟩ = false ∧ g < w.heap.size := by
  refine ⟨?_, ?_, frozen_of_row w g 0 _ t h, frozen_of_row w g 1 _ t h, (Array.getElem?_eq_some_iff.1 h).1⟩
  · rw [cell_of_row w g 0 _ t (0, 0) h]; rfl
  · rw [cell_of_row w g 1 _ t (0, 0) h]; rfl
theorem two_set {w : World} {g : Nat} {x y x' y' : Value} {t : TypeId} (h : w.heap[g]? = some (.cells #[x, y] t (0, 0))) :
    ((w.setCell ⟨g, 0, none⟩ x').setCell ⟨g, 1, none⟩ y').heap[g]? = some (.cells #[x', y'] t (0, 0)) := by
  have h1 := heap_setCell_same w g 0 _ t x' h
  exact heap_setCell_same _ g 1 _ t y' h1

set_option maxRecDepth 100000 in
set_option maxHeartbeats 1000000 in
theorem ref_Limits (t r : Nat) (h : Int) (w : World) (h1 : t ≤ 12) (h5 : r ≤ 999) :
    Calls Try.prog 54 #[.int .i64 t, .int .i64 h, .int .i64 r] w fun e w' => e = .returned (limRefV t h r) ∧ Below w.heap.size w w' := by
  go_enter Try.func54, Try.ntmps54
  go_wp2_with fail
  obtain ⟨W0, hW0⟩ : ∃ W0, W0 = (w.alloc (.cells #[.int .i64 0, .int .i64 0] 74)).alloc (.cells #[.int .i64 11, .int .i64 (-1)] 74) := ⟨_, rfl⟩
  have r0 : W0.cell? ⟨w.heap.size, 0, none⟩ = some (.int .i64 0) := by rw [hW0]; simp
  have r1 : W0.cell? ⟨w.heap.size, 1, none⟩ = some (.int .i64 0) := by rw [hW0]; simp
  have f0 : W0.frozen? ⟨w.heap.size, 0, none⟩ = false := by rw [hW0]; simp
  have f1 : W0.frozen? ⟨w.heap.size, 1, none⟩ = false := by rw [hW0]; simp
  have hz0 : w.heap.size + 2 ≤ W0.heap.size := by rw [hW0]; simp
  have hBW : Below w.heap.size w W0 := by rw [hW0]; (repeat (with_reducible first | exact Below.refl _ _ | assumption | refine Below.drewN _ ?_ | refine Below.drew ?_ | refine Below_alloc ?_ _ | refine Below.alloc ?_ (by first | (simp; done) | (simp; omega) | omega) _ | refine Below.setCell ?_ (by first | (simp; done) | (simp; omega) | omega) _ | refine Below_call ?_ (by assumption) | refine Below.trans ?_ (by assumption)))
  have ho0 : W0.heap[w.heap.size + 1]? = some (.cells #[.int .i64 11, .int .i64 (-1)] 74 (0, 0)) := by rw [hW0]; exact heap_alloc2_new _ _ _
  rw [← hW0]
  clear hW0
  go_loopw [9] (fun i wr => ∃ n : Nat, n ≤ 11 ∧ i = .int .i64 n ∧ wr.heap[w.heap.size + 1]? = some (.cells #[.int .i64 (limLo t h r n), .int .i64 (limHi t h r n)] 74 (0, 0)) ∧ Below (w.heap.size + 1) W0 wr) (fun i _ => 11 - (intOf i).toNat)
  case atStart => exact ⟨0, by omega, rfl, ho0, Below.refl _ _⟩
  case round =>
    obtain ⟨n, hn, rfl, hout, hbel⟩ := hrel
    obtain ⟨o0, o1, x0, x1, hoz⟩ := two_cells hout
    have hc := fun o => hbel.cell (p := ⟨w.heap.size, o, none⟩) (show w.heap.size < w.heap.size + 1 by omega)
    have hf := fun o => hbel.frozen (p := ⟨w.heap.size, o, none⟩) (show w.heap.size < w.heap.size + 1 by omega)
    have e0 := (hc 0).trans r0
    have e1 := (hc 1).trans r1
    have g0 := (hf 0).trans f0
    have g1 := (hf 1).trans f1
    have hs0 : w.heap.size < wr.heap.size := by omega
    have hbB : Below w.heap.size w wr := hBW.trans (hbel.mono (by omega))
    clear hc hf r0 r1 f0 f1 ho0
    by_cases hlt : n < 11
    · have HOUT := hid hout
      have HBEL := hid hbel
      clear hout hbel
      cases hp : inBandB t h r n
      · have HPn := hid hp
        have hp' : inB h (bandLoI t n r) (bandHiI t n r) = false := hp
        clear hp
        go_wp2_with (first | (go_at_call 52; refine (ref_Band t n r _ (by omega) (by omega) (by omega)).mono ?_; rintro _ w1 ⟨rfl, hb1⟩; obtain ⟨hc1, hf1⟩ := bcell hb1; have hz1 := hb1.size; (try simp only [World.size_alloc, World.heap_drewN] at hz1); have hk1_0 : w.heap.size < w1.heap.size := (by omega); have hk1_1 : w.heap.size + 1 < w1.heap.size := (by omega)) | (go_at_call 44; refine (base_Within _ _ _ _).mono ?_; rintro _ _ ⟨rfl, rfl⟩))
        go_roundw
        case rel =>
          refine ⟨n + 1, by omega, by go_num, ?_, ?_⟩
          · rw [limLo, limHi, if_neg (by rw [HPn.out]; simp), if_neg (by rw [HPn.out]; simp)]
            rw [Below.heap_alloc _ _ _ (by omega), hb1.block _ (by omega)]
            exact HOUT.out
          · exact (HBEL.out.trans (hb1.mono (by omega))).alloc (by omega) _
        case measure => simp [intOf]; omega
      · have HPn := hid hp
        have hp' : inB h (bandLoI t n r) (bandHiI t n r) = true := hp
        clear hp
        have HMIN := hid (show limLo t h r (n + 1) = min (limLo t h r n) n by rw [limLo, if_pos HPn.out])
        go_wp2_with (first | (go_at_call 52; refine (ref_Band t n r _ (by omega) (by omega) (by omega)).mono ?_; rintro _ w1 ⟨rfl, hb1⟩; obtain ⟨hc1, hf1⟩ := bcell hb1; have hz1 := hb1.size; (try simp only [World.size_alloc, World.heap_drewN] at hz1); have hk1_0 : w.heap.size < w1.heap.size := (by omega); have hk1_1 : w.heap.size + 1 < w1.heap.size := (by omega); have q1_1_0 := hc1 (w.heap.size + 1) 0 (by first | assumption | (simp; done) | (simp; omega)); (try simp at q1_1_0); have p1_1_0 := hf1 (w.heap.size + 1) 0 (by first | assumption | (simp; done) | (simp; omega)); (try simp at p1_1_0); have q1_1_1 := hc1 (w.heap.size + 1) 1 (by first | assumption | (simp; done) | (simp; omega)); (try simp at q1_1_1); have p1_1_1 := hf1 (w.heap.size + 1) 1 (by first | assumption | (simp; done) | (simp; omega)); (try simp at p1_1_1)) | (go_at_call 44; refine (base_Within _ _ _ _).mono ?_; rintro _ _ ⟨rfl, rfl⟩))
        all_goals
          go_roundw
          case rel =>
            refine ⟨n + 1, by omega, by go_num, ?_, ?_⟩
            · have hq : w1.heap[w.heap.size + 1]? = some (.cells #[.int .i64 (limLo t h r n), .int .i64 (limHi t h r n)] 74 (0, 0)) := by
                rw [hb1.block _ (by omega)]; exact HOUT.out
              rw [HMIN.out, limHi, if_pos HPn.out, show min (limLo t h r n) n = (if (n : Int) < limLo t h r n then (n : Int) else limLo t h r n) from by omega]
              rw [Below.heap_alloc _ _ _ (by simp; omega)]
              exact two_set hq
            · exact ((((HBEL.out.trans (hb1.mono (by omega))).setCell (Nat.le_refl _) _).setCell (Nat.le_refl _) _).alloc (by simp; omega) _)
          case measure => simp [intOf]; omega
    · have hn11 : n = 11 := by omega
      subst hn11
      go_wp2_with fail
      go_region
      all_goals go_wp2
      all_goals ((try simp only [Exit.inBlock, Exit.then]); refine bodyPost_ret (v := .tuple #[.agg #[.int .i64 (limLo t h r 11), .int .i64 (limHi t h r 11)], .bool (decide (0 ≤ limHi t h r 11))]) ?_ rfl ?_; (next => simp [results, Try.results54, go_sem, hs0, e0, e1]); refine ⟨?_, ?_⟩; (next => rfl); (next => (repeat (with_reducible first | exact Below.refl _ _ | assumption | refine Below.drewN _ ?_ | refine Below.drew ?_ | refine Below_alloc ?_ _ | refine Below.alloc ?_ (by first | (simp; done) | (simp; omega) | omega) _ | refine Below.setCell ?_ (by first | (simp; done) | (simp; omega) | omega) _ | refine Below_call ?_ (by assumption) | refine Below.trans ?_ (by assumption)))))

set_option maxRecDepth 100000 in
set_option maxHeartbeats 1000000 in
theorem ref_Coverage (t s r : Nat) (w : World) (h1 : t ≤ 12) (h2 : s ≤ 10) (h5 : r ≤ 999) :
    Calls Try.prog 53 #[.int .i64 t, .int .i64 s, .int .i64 r] w fun e w' => e = .returned (.int .i64 (cov t s r (t + 1))) ∧ Below w.heap.size w w' := by
  go_enter Try.func53, Try.ntmps53
  go_wp2_with (go_at_call 107; refine (ref_Exactly _ _ _ h1 h2).mono ?_; rintro _ w1 ⟨v, rfl, hints, hb1⟩)
  obtain ⟨ao, cap, rfl, hh1, hh2, h3⟩ := hints.opn
  rw [exRow_len] at hh1 h3
  rw [exRow_len]
  unfold maxLen at hh2
  have HI := hid hints
  clear hints
  go_loopw [8, 9] (fun o i wr => ∃ n : Nat, n ≤ t + 1 ∧ o = .int .i64 (cov t s r n) ∧ i = .int .i64 n ∧ Below w1.heap.size w1 wr) (fun _ i _ => t + 1 - (intOf i).toNat)
  case atStart => exact ⟨0, by omega, rfl, rfl, Below.refl _ _⟩
  case round =>
    obtain ⟨n, hn, rfl, rfl, hbel⟩ := hrel
    have hz := hbel.size
    by_cases hlt : n < t + 1
    · obtain ⟨b, off, rfl, hb, hc⟩ := h3 0 (by omega)
      have c0 := hc n (by omega)
      rw [exRow_nth (by omega)] at c0
      have c1 : wr.cell? ⟨b, off + n, none⟩ = some (.int .i64 (ex s (10 - s) t n : Nat)) := (hbel.cell (p := ⟨b, off + n, none⟩) hb).trans c0
      have hbz : b < wr.heap.size := by omega
      have hcb := cov_le (T := t) (S := s) r (n := n) (by omega) (by omega) (by omega) (by simp; omega)
      have hcb1 := cov_le (T := t) (S := s) r (n := n + 1) (by omega) (by omega) (by omega) (by simp; omega)
      have HX : Hid (exI t n s = (ex s (10 - s) t n : Nat)) := hid (by simp [exI])
      clear h3 hc c0
      have hle := limHi_le t n r 11
      cases hd : decide (0 ≤ limHi t n r 11)
      · have HD := hid hd
        have HC : Hid (cov t s r (n + 1) = cov t s r n) := hid (by
          have : limHi t n r 11 = -1 := by simp at hd; omega
          simp [cov, covB, this])
        have HV : Hid (limRefV t n r = .tuple #[.agg #[.int .i64 (limLo t n r 11), .int .i64 (limHi t n r 11)], .bool false]) := hid (by simp only [limRefV, hd])
        clear hcb1 hd
        go_wp2_with (first | (go_at_call 54; refine ((by rw [← HV.out]; exact ref_Limits _ _ _ _ (by omega) (by omega) : Calls Try.prog 54 #[.int .i64 t, .int .i64 n, .int .i64 r] _ fun e w' => e = .returned (.tuple #[.agg #[.int .i64 (limLo t n r 11), .int .i64 (limHi t n r 11)], .bool false]) ∧ Below _ _ w')).mono ?_; rintro _ w2 ⟨rfl, hb2⟩; obtain ⟨hc2, hf2⟩ := bcell hb2; have hz2 := hb2.size; (try simp only [World.size_alloc, World.heap_drewN] at hz2); have hk2_0 : b < w2.heap.size := (by omega)))
        go_roundw
        case rel => exact ⟨n + 1, by omega, by rw [HC.out], by go_num, by (repeat (with_reducible first | exact Below.refl _ _ | assumption | refine Below.drewN _ ?_ | refine Below.drew ?_ | refine Below_alloc ?_ _ | refine Below.alloc ?_ (by first | (simp; done) | (simp; omega) | omega) _ | refine Below.setCell ?_ (by first | (simp; done) | (simp; omega) | omega) _ | refine Below_call ?_ (by assumption) | refine Below.trans ?_ (by assumption)))⟩
        case measure => simp [intOf]; omega
      · have HD := hid hd
        have HV : Hid (limRefV t n r = .tuple #[.agg #[.int .i64 (limLo t n r 11), .int .i64 (limHi t n r 11)], .bool true]) := hid (by simp only [limRefV, hd])
        have hd2 : limHi t n r 11 ≠ -1 := by simp at hd; omega
        cases hi : inB s (limLo t n r 11) (limHi t n r 11)
        · have HC : Hid (cov t s r (n + 1) = cov t s r n) := hid (by simp [cov, covB, hi])
          clear hcb1 hd hd2
          go_wp2_with (first | (go_at_call 54; refine ((by rw [← HV.out]; exact ref_Limits _ _ _ _ (by omega) (by omega) : Calls Try.prog 54 #[.int .i64 t, .int .i64 n, .int .i64 r] _ fun e w' => e = .returned (.tuple #[.agg #[.int .i64 (limLo t n r 11), .int .i64 (limHi t n r 11)], .bool true]) ∧ Below _ _ w')).mono ?_; rintro _ w2 ⟨rfl, hb2⟩; obtain ⟨hc2, hf2⟩ := bcell hb2; have hz2 := hb2.size; (try simp only [World.size_alloc, World.heap_drewN] at hz2); have hk2_0 : b < w2.heap.size := (by omega)) | (go_at_call 44; refine (base_Within _ _ _ _).mono ?_; rintro _ _ ⟨rfl, rfl⟩))
          go_roundw
          case rel => exact ⟨n + 1, by omega, by rw [HC.out], by go_num, by (repeat (with_reducible first | exact Below.refl _ _ | assumption | refine Below.drewN _ ?_ | refine Below.drew ?_ | refine Below_alloc ?_ _ | refine Below.alloc ?_ (by first | (simp; done) | (simp; omega) | omega) _ | refine Below.setCell ?_ (by first | (simp; done) | (simp; omega) | omega) _ | refine Below_call ?_ (by assumption) | refine Below.trans ?_ (by assumption)))⟩
          case measure => simp [intOf]; omega
        · have HC : Hid (cov t s r (n + 1) = cov t s r n + (ex s (10 - s) t n : Nat)) := hid (by rw [← HX.out]; simp [cov, covB, hi, hd2])
          have hcb2 : 0 ≤ cov t s r n + (ex s (10 - s) t n : Nat) ∧ cov t s r n + (ex s (10 - s) t n : Nat) ≤ 1000000000000 := by rw [← HC.out]; exact hcb1
          clear hcb1 hd hd2
          go_wp2_with (first | (go_at_call 54; refine ((by rw [← HV.out]; exact ref_Limits _ _ _ _ (by omega) (by omega) : Calls Try.prog 54 #[.int .i64 t, .int .i64 n, .int .i64 r] _ fun e w' => e = .returned (.tuple #[.agg #[.int .i64 (limLo t n r 11), .int .i64 (limHi t n r 11)], .bool true]) ∧ Below _ _ w')).mono ?_; rintro _ w2 ⟨rfl, hb2⟩; obtain ⟨hc2, hf2⟩ := bcell hb2; have hz2 := hb2.size; (try simp only [World.size_alloc, World.heap_drewN] at hz2); have hk2_0 : b < w2.heap.size := (by omega)) | (go_at_call 44; refine (base_Within _ _ _ _).mono ?_; rintro _ _ ⟨rfl, rfl⟩))
          go_roundw
          case rel => exact ⟨n + 1, by omega, by rw [HC.out], by go_num, by (repeat (with_reducible first | exact Below.refl _ _ | assumption | refine Below.drewN _ ?_ | refine Below.drew ?_ | refine Below_alloc ?_ _ | refine Below.alloc ?_ (by first | (simp; done) | (simp; omega) | omega) _ | refine Below.setCell ?_ (by first | (simp; done) | (simp; omega) | omega) _ | refine Below_call ?_ (by assumption) | refine Below.trans ?_ (by assumption)))⟩
          case measure => simp [intOf]; omega
    · have hnt : n = t + 1 := by omega
      subst hnt
      go_wp2_with fail
      go_ret
      exact ⟨rfl, hb1.trans (hbel.mono hb1.size)⟩

end Go.Proofs.Ytllddidjiabegaa
