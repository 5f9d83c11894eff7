/- The law of coverages, walked. -/
import Derived.Test.YtllddidjiabegaaCV0
import Derived.Test.YtllddidjiabegaaZ3
import Derived.Deep.DeepCutAuto
set_option linter.unusedVariables false
set_option linter.unusedSimpArgs false
namespace Go.Proofs.Ytllddidjiabegaa
open Go.RowKit

set_option maxRecDepth 100000 in
set_option maxHeartbeats 8000000 in
theorem law_Covers_ok (t s rr : Nat) (w : World) (ht1 : 1 ≤ t) (ht : t ≤ 12) (hs : s ≤ 10) (hr : rr ≤ 999) :
    Calls Try.prog 6 #[.int .i64 t, .int .i64 s, .int .i64 rr] w fun e w' => e = .returned (.bool true) ∧ Below w.heap.size w w' := by
  have e1 : trErr t = 0 := by simp [trErr, unl, inB_true.2 (show (1 : Int) ≤ t ∧ (t : Int) ≤ 12 by omega)]
  have e2 : tenErr s = 0 := by simp [tenErr, unl, inB_true.2 (show (0 : Int) ≤ s ∧ (s : Int) ≤ 10 by omega)]
  have e3 : rskErr rr = 0 := by simp [rskErr, unl, inB_true.2 (show (0 : Int) ≤ rr ∧ (rr : Int) ≤ 999 by omega)]
  have RA := fun W => ref_CountErr t W
  have RB := fun W => ref_ShareErr s W
  have RC := fun W => ref_RiskErr rr W
  rw [e1] at RA
  rw [e2] at RB
  rw [e3] at RC
  have HRA := hid RA
  have HRB := hid RB
  have HRC := hid RC
  have hcl := cov_low (t := t) hs hr
  have hch := cov_high (t := t) (rr := rr) hs
  have hA12 := ten_le ht
  have HCV : Hid (∀ W, Calls Try.prog 43 #[.int .i64 t, .int .i64 s, .int .i64 rr] W fun e w' => e = .returned (.tuple #[.int .i64 (cov t s rr (t + 1)), .int .i64 0]) ∧ Below W.heap.size W w') := hid (fun W => by
    have := blind_CoverageOf t s rr W
    unfold covV covE at this
    rw [show firstNZ [trErr t, tenErr s, rskErr rr] = 0 from by simp [firstNZ, e1, e2, e3], if_pos rfl] at this
    simpa using this)
  have HWY : Hid (∀ W k, k ≤ t → Calls Try.prog 46 #[.int .i64 t, .int .i64 (k : Nat), .int .i64 s] W fun e w' => e = .returned (.tuple #[.int .i64 (waysN s t k : Nat), .int .i64 0]) ∧ Below W.heap.size W w') := hid (fun W k hk => by
    have := blind_WaysOf t k s W
    unfold waysV at this
    have e4 : hitErr t k = 0 := by simp [hitErr, unl, inB_true.2 (show (0 : Int) ≤ (k : Int) ∧ (k : Int) ≤ t by omega)]
    rw [show firstNZ [trErr t, hitErr t k, tenErr s] = 0 from by simp [firstNZ, e1, e2, e4], if_pos rfl] at this
    simpa [waysI] using this)
  have HLM : Hid (∀ W k, k ≤ t → (limHi t (k : Nat) rr 11 = -1 ∧ Calls Try.prog 47 #[.int .i64 t, .int .i64 (k : Nat), .int .i64 rr] W fun e w' => e = .returned (.tuple #[.agg #[.int .i64 0, .int .i64 0], .int .i64 12]) ∧ Below W.heap.size W w') ∨
      (limHi t (k : Nat) rr 11 ≠ -1 ∧ Calls Try.prog 47 #[.int .i64 t, .int .i64 (k : Nat), .int .i64 rr] W fun e w' => e = .returned (.tuple #[.agg #[.int .i64 (limLo t (k : Nat) rr 11), .int .i64 (limHi t (k : Nat) rr 11)], .int .i64 0]) ∧ Below W.heap.size W w')) := hid (fun W k hk => by
    have := blind_LimitsFor t k rr W
    unfold limForV limErr limE at this
    have e4 : hitErr t k = 0 := by simp [hitErr, unl, inB_true.2 (show (0 : Int) ≤ (k : Int) ∧ (k : Int) ≤ t by omega)]
    rw [show firstNZ [trErr t, hitErr t k, rskErr rr] = 0 from by simp [firstNZ, e1, e3, e4]] at this
    simp only [if_true] at this
    by_cases hh : limHi t (k : Nat) rr 11 = -1
    · left
      rw [if_pos hh, if_neg (by decide)] at this
      exact ⟨hh, this⟩
    · right
      rw [if_neg hh, if_pos rfl] at this
      exact ⟨hh, this⟩)
  obtain ⟨A, hA⟩ : ∃ A, A = 10 ^ t := ⟨_, rfl⟩
  have HAL : Hid (∀ W, Calls Try.prog 45 #[.int .i64 t] W fun e w' => e = .returned (.int .i64 (A : Nat)) ∧ W = w') := hid (fun W => by have := ref_All t W ht; rwa [← hA] at this)
  obtain ⟨C, hC⟩ : ∃ C, C = cov t s rr (t + 1) := ⟨_, rfl⟩
  rw [← hA] at hcl hch hA12
  rw [← hC] at hcl hch HCV
  have HCC := hid hC
  have HAA := hid hA
  have hin0 : inB C 0 (A : Nat) = true := inB_true.2 hch
  have hm1 : IntKind.i64.wrap (1000 * C) = 1000 * C := IntWalk.i64_in _ (by omega)
  obtain ⟨Q, hQ⟩ : ∃ Q, Q = (1000 - (rr : Int)) * (A : Nat) := ⟨_, rfl⟩
  have hq : 0 ≤ Q ∧ Q ≤ 1000000000000000 := by
    rw [hQ]
    exact ⟨Int.mul_nonneg (by omega) (by omega), by have h1 := Int.mul_le_mul (show 1000 - (rr : Int) ≤ 1000 by omega) (show ((A : Nat) : Int) ≤ 1000000000000 by omega) (by omega) (by omega); omega⟩
  have hm2 : IntKind.i64.wrap ((1000 - (rr : Int)) * (A : Nat)) = Q := by rw [← hQ]; exact IntWalk.i64_in _ (by omega)
  rw [← hQ] at hcl
  clear e1 e2 e3 RA RB RC hQ hA hC
  go_enter Try.func6, Try.ntmps6
  go_wp2_with (first | (go_at_call 11; refine (law_awake _).mono ?_; rintro _ w1 ⟨rfl, hb1⟩) | (go_at_call 40; refine (HRA.out _).mono ?_; rintro _ _ ⟨rfl, rfl⟩) | (go_at_call 41; refine (HRB.out _).mono ?_; rintro _ _ ⟨rfl, rfl⟩) | (go_at_call 42; refine (HRC.out _).mono ?_; rintro _ _ ⟨rfl, rfl⟩) | (go_at_call 43; refine (HCV.out _).mono ?_; rintro _ w2 ⟨rfl, hb2⟩) | (go_at_call 45; refine (HAL.out _).mono ?_; rintro _ _ ⟨rfl, rfl⟩) | (go_at_call 44; refine (base_Within _ _ _ _).mono ?_; rintro _ _ ⟨rfl, rfl⟩))
  -- the loop
  have HY1 : Hid (∀ W k, k + 1 ≤ t → Calls Try.prog 46 #[.int .i64 t, .int .i64 ((k : Int) + 1), .int .i64 s] W fun e w' => e = .returned (.tuple #[.int .i64 (waysN s t (k + 1) : Nat), .int .i64 0]) ∧ Below W.heap.size W w') := hid (fun W k hk => HWY.out W (k + 1) hk)
  have hblk : (w2.alloc (.cells #[.int .i64 0, .int .i64 0] 74)).heap[w2.heap.size]? = some (.cells #[.int .i64 0, .int .i64 0] 74 (0, 0)) := heap_alloc_new _ _
  have hB2 : Below w.heap.size w w2 := by (repeat (with_reducible first | exact Below.refl _ _ | assumption | refine Below.drewN _ ?_ | refine Below.drew ?_ | refine Below_alloc ?_ _ | refine Below.alloc ?_ (by first | (simp; done) | (simp; omega) | omega) _ | refine Below.setCell ?_ (by first | (simp; done) | (simp; omega) | omega) _ | refine Below_call ?_ (by assumption) | refine Below.trans ?_ (by assumption)))
  have hz2 := hB2.size
  clear hb1 hb2 hcl hin0 hm1 hm2 hq
  go_loopw [9, 11] (fun lf i wr => ∃ (k : Nat) (lo hi : Int), k ≤ t + 1 ∧ lf = .int .i64 (C - cov t s rr k) ∧ i = .int .i64 k ∧ wr.heap[w2.heap.size]? = some (.cells #[.int .i64 lo, .int .i64 hi] 74 (0, 0)) ∧ Below w2.heap.size w2 wr ∧ w2.heap.size < wr.heap.size ∧ Hid (∀ j : Nat, k ≤ j → j ≤ t → limHi t j rr 11 ≠ -1 → lo ≤ limLo t j rr 11 ∧ hi ≤ limHi t j rr 11)) (fun _ i _ => t + 1 - (intOf i).toNat)
  case atStart => exact ⟨0, 0, 0, by omega, by simp [cov], rfl, hblk, by (repeat (with_reducible first | exact Below.refl _ _ | assumption | refine Below.drewN _ ?_ | refine Below.drew ?_ | refine Below_alloc ?_ _ | refine Below.alloc ?_ (by first | (simp; done) | (simp; omega) | omega) _ | refine Below.setCell ?_ (by first | (simp; done) | (simp; omega) | omega) _ | refine Below_call ?_ (by assumption) | refine Below.trans ?_ (by assumption))), by simp, hid (fun j _ _ hf => by
    obtain ⟨a, b, _, _, _, h1, h2, _⟩ := (lim_spec t j rr 11 (Nat.le_refl _)).2.1 hf
    rw [h1, h2]; omega)⟩
  case round =>
    obtain ⟨k, lo, hi, hk, rfl, rfl, hcell, hbel, hsz, HLAST⟩ := hrel
    have hB : Below w.heap.size w wr := hB2.trans (hbel.mono hz2)
    have hcvk := cov_up (t := t) (s := s) (rr := rr) hk
    have hcv0 : 0 ≤ cov t s rr k := by have := cov_up (t := t) (s := s) (rr := rr) (Nat.zero_le k); simpa [cov] using this
    rw [← HCC.out] at hcvk
    obtain ⟨K, hK⟩ : ∃ K, K = cov t s rr k := ⟨_, rfl⟩
    rw [← hK] at hcvk hcv0 ⊢
    have HK := hid hK
    clear hK
    by_cases hkt : k ≤ t
    · have HST : Hid (cov t s rr (k + 1) = K + (if covB t s rr k = true then ((ex s (10 - s) t k : Nat) : Int) else 0)) := hid (by rw [cov_step, HK.out])
      have HEX : Hid (waysN s t k = ex s (10 - s) t k + waysN s t (k + 1)) := hid (waysN_step hkt)
      have hMA := waysN_le (s := s) (t := t) (h := k) hs
      have hFM := waysN_anti (s := s) (t := t) (Nat.le_succ k)
      obtain ⟨M, hM⟩ : ∃ M, M = waysN s t k := ⟨_, rfl⟩
      obtain ⟨F, hF⟩ : ∃ F, F = waysN s t (k + 1) := ⟨_, rfl⟩
      have hWk := fun W => HWY.out W k hkt
      rw [← hM] at hMA hFM hWk HEX
      have hFM : F ≤ M := by rw [hF]; exact hFM
      rw [← hF] at HEX
      rw [← HAA.out] at hMA
      have HWk := hid hWk
      have HF1 : Hid (k + 1 ≤ t → ∀ W, Calls Try.prog 46 #[.int .i64 t, .int .i64 ((k : Int) + 1), .int .i64 s] W fun e w' => e = .returned (.tuple #[.int .i64 (F : Nat), .int .i64 0]) ∧ Below W.heap.size W w') := hid (fun h W => by rw [hF]; exact HY1.out W k h)
      have HF0 : Hid (k = t → F = 0) := hid (fun e => by rw [hF, e]; exact waysN_big (by omega))
      have hinF : inB (F : Int) 0 (M : Int) = true := inB_true.2 (by omega)
      have HLAST2 : Hid (limHi t k rr 11 ≠ -1 → lo ≤ limLo t k rr 11 ∧ hi ≤ limHi t k rr 11) := hid (HLAST.out k (Nat.le_refl _) hkt)
      clear hM hF hWk HY1
      rcases HLM.out w k hkt with ⟨hno, _⟩ | ⟨hfd, _⟩
      · have HL : Hid (∀ W, Calls Try.prog 47 #[.int .i64 t, .int .i64 (k : Nat), .int .i64 rr] W fun e w' => e = .returned (.tuple #[.agg #[.int .i64 0, .int .i64 0], .int .i64 12]) ∧ Below W.heap.size W w') := hid (fun W => (HLM.out W k hkt).elim (fun h => h.2) (fun h => absurd hno h.1))
        have HNC : Hid (covB t s rr k = false) := hid (by simp [covB, hno])
        clear HLM hno
        by_cases hlt : k < t
        · go_wp2_with fail
          refine (HWk.out _).mono ?_
          rintro _ w4 ⟨rfl, hb4⟩
          go_wp2_with fail
          refine (HF1.out (by omega) _).mono ?_
          rintro _ w5 ⟨rfl, hb5⟩
          go_wp2_with (first | (go_at_call 45; refine (HAL.out _).mono ?_; rintro _ _ ⟨rfl, rfl⟩) | (go_at_call 44; refine (base_Within _ _ _ _).mono ?_; rintro _ _ ⟨rfl, rfl⟩))
          refine (HL.out _).mono ?_
          rintro _ w6 ⟨rfl, hb6⟩
          have hB6 : Below wr.heap.size wr w6 := by (repeat (with_reducible first | exact Below.refl _ _ | assumption | refine Below.drewN _ ?_ | refine Below.drew ?_ | refine Below_alloc ?_ _ | refine Below.alloc ?_ (by first | (simp; done) | (simp; omega) | omega) _ | refine Below.setCell ?_ (by first | (simp; done) | (simp; omega) | omega) _ | refine Below_call ?_ (by assumption) | refine Below.trans ?_ (by assumption)))
          have hcell6 := (hB6.block _ hsz).trans hcell
          have hz6 := hB6.size
          clear hb4 hb6 hb5
          go_wp2_with fail
          go_roundw
          case rel =>
            refine ⟨k + 1, lo, hi, by omega, by rw [HST.out, HNC.out]; simp, by go_num, ?_, ?_, ?_, hid (fun j hj hj2 hf => HLAST.out j (by omega) hj2 hf)⟩
            · rw [Below.heap_alloc _ _ _ (by omega)]; exact hcell6
            · exact (hbel.trans (hB6.mono (by omega))).alloc (by omega) _
            · simp; omega
          case measure => simp [intOf]; omega
        · have hF0 := HF0.out (by omega)
          go_wp2_with fail
          refine (HWk.out _).mono ?_
          rintro _ w4 ⟨rfl, hb4⟩
          go_wp2_with (first | (go_at_call 45; refine (HAL.out _).mono ?_; rintro _ _ ⟨rfl, rfl⟩) | (go_at_call 44; refine (base_Within _ _ _ _).mono ?_; rintro _ _ ⟨rfl, rfl⟩))
          refine (HL.out _).mono ?_
          rintro _ w6 ⟨rfl, hb6⟩
          have hB6 : Below wr.heap.size wr w6 := by (repeat (with_reducible first | exact Below.refl _ _ | assumption | refine Below.drewN _ ?_ | refine Below.drew ?_ | refine Below_alloc ?_ _ | refine Below.alloc ?_ (by first | (simp; done) | (simp; omega) | omega) _ | refine Below.setCell ?_ (by first | (simp; done) | (simp; omega) | omega) _ | refine Below_call ?_ (by assumption) | refine Below.trans ?_ (by assumption)))
          have hcell6 := (hB6.block _ hsz).trans hcell
          have hz6 := hB6.size
          clear hb4 hb6
          go_wp2_with fail
          go_roundw
          case rel =>
            refine ⟨k + 1, lo, hi, by omega, by rw [HST.out, HNC.out]; simp, by go_num, ?_, ?_, ?_, hid (fun j hj hj2 hf => HLAST.out j (by omega) hj2 hf)⟩
            · rw [Below.heap_alloc _ _ _ (by omega)]; exact hcell6
            · exact (hbel.trans (hB6.mono (by omega))).alloc (by omega) _
            · simp; omega
          case measure => simp [intOf]; omega
      · obtain ⟨a, b, ha, hb, hab, ea, eb, _, _⟩ := (lim_spec t (k : Nat) rr 11 (Nat.le_refl _)).2.1 hfd
        have HFD := hid hfd
        have HL : Hid (∀ W, Calls Try.prog 47 #[.int .i64 t, .int .i64 (k : Nat), .int .i64 rr] W fun e w' => e = .returned (.tuple #[.agg #[.int .i64 (a : Nat), .int .i64 (b : Nat)], .int .i64 0]) ∧ Below W.heap.size W w') := hid (fun W => by
          have := (HLM.out W k hkt).elim (fun h => absurd h.1 hfd) (fun h => h.2)
          rwa [ea, eb] at this)
        have HAB : Hid (limLo t (k : Nat) rr 11 = a ∧ limHi t (k : Nat) rr 11 = b) := hid ⟨ea, eb⟩
        have hla : lo ≤ a ∧ hi ≤ b := by have := HLAST2.out hfd; rwa [ea, eb] at this
        obtain ⟨hla1, hla2⟩ := hla
        have hinA : inB (a : Int) 0 (b : Int) = true := inB_true.2 (by omega)
        have HCV : Hid (covB t s rr k = inB s a b) := hid (by simp only [covB, ea, eb]; have : ((b : Int) != -1) = true := (by rw [bne_iff_ne]; omega); rw [this]; rfl)
        clear HLM hfd ea eb
        by_cases hlt : k < t
        · cases hcb : inB (s : Int) (a : Int) (b : Int)
          · have HCB : Hid (covB t s rr k = false) := hid (by rw [HCV.out, hcb])
            go_wp2_with fail
            refine (HWk.out _).mono ?_
            rintro _ w4 ⟨rfl, hb4⟩
            go_wp2_with fail
            refine (HF1.out (by omega) _).mono ?_
            rintro _ w5 ⟨rfl, hb5⟩
            go_wp2_with (first | (go_at_call 45; refine (HAL.out _).mono ?_; rintro _ _ ⟨rfl, rfl⟩) | (go_at_call 44; refine (base_Within _ _ _ _).mono ?_; rintro _ _ ⟨rfl, rfl⟩))
            refine (HL.out _).mono ?_
            rintro _ w6 ⟨rfl, hb6⟩
            have hB6 : Below wr.heap.size wr w6 := by (repeat (with_reducible first | exact Below.refl _ _ | assumption | refine Below.drewN _ ?_ | refine Below.drew ?_ | refine Below_alloc ?_ _ | refine Below.alloc ?_ (by first | (simp; done) | (simp; omega) | omega) _ | refine Below.setCell ?_ (by first | (simp; done) | (simp; omega) | omega) _ | refine Below_call ?_ (by assumption) | refine Below.trans ?_ (by assumption)))
            have hcell6 := (hB6.block _ hsz).trans hcell
            have hz6 := hB6.size
            clear hb4 hb6 hb5
            obtain ⟨W7, hW7⟩ : ∃ W7, W7 = w6.alloc (.cells #[.int .i64 (a : Nat), .int .i64 (b : Nat)] 74) := ⟨_, rfl⟩
            have x0 : W7.cell? ⟨w6.heap.size, 0, none⟩ = some (.int .i64 (a : Nat)) := by rw [hW7]; simp
            have x1 : W7.cell? ⟨w6.heap.size, 1, none⟩ = some (.int .i64 (b : Nat)) := by rw [hW7]; simp
            have hcell7 : W7.heap[w2.heap.size]? = some (.cells #[.int .i64 lo, .int .i64 hi] 74 (0, 0)) := by rw [hW7, Below.heap_alloc _ _ _ (by omega)]; exact hcell6
            obtain ⟨y0, y1, yf0, yf1, hy⟩ := two_cells hcell7
            have HC7 := hid hcell7
            have hB7 : Below wr.heap.size wr W7 := by rw [hW7]; (repeat (with_reducible first | exact Below.refl _ _ | assumption | refine Below.drewN _ ?_ | refine Below.drew ?_ | refine Below_alloc ?_ _ | refine Below.alloc ?_ (by first | (simp; done) | (simp; omega) | omega) _ | refine Below.setCell ?_ (by first | (simp; done) | (simp; omega) | omega) _ | refine Below_call ?_ (by assumption) | refine Below.trans ?_ (by assumption)))
            have hz7 : w6.heap.size < W7.heap.size := by rw [hW7]; simp
            have hne : w6.heap.size ≠ w2.heap.size := by omega
            have HW7 := hid hW7
            clear hW7 hcell7 hcell hcell6
            go_upto_region 24 with fail
            rw [← HW7.out]
            go_wp2_with (go_at_call 44; refine (base_Within _ _ _ _).mono ?_; rintro _ _ ⟨rfl, rfl⟩)
            go_roundw
            case rel =>
              refine ⟨k + 1, a, b, by omega, by rw [HST.out, HCB.out]; simp, by go_num, ?_, ?_, ?_, hid (fun j hj hj2 hf => ?_)⟩
              · exact two_set HC7.out
              · exact ((hbel.trans (hB7.mono (by omega))).setCell (Nat.le_refl _) _).setCell (Nat.le_refl _) _
              · simp; omega
              · have := lim_mono (t := t) (rr := rr) (h := (k : Nat)) (h' := (j : Nat)) (by omega) (by omega) HFD.out hf
                rw [HAB.out.1, HAB.out.2] at this; exact this
            case measure => simp [intOf]; omega
          · have HCB : Hid (covB t s rr k = true) := hid (by rw [HCV.out, hcb])
            go_wp2_with fail
            refine (HWk.out _).mono ?_
            rintro _ w4 ⟨rfl, hb4⟩
            go_wp2_with fail
            refine (HF1.out (by omega) _).mono ?_
            rintro _ w5 ⟨rfl, hb5⟩
            go_wp2_with (first | (go_at_call 45; refine (HAL.out _).mono ?_; rintro _ _ ⟨rfl, rfl⟩) | (go_at_call 44; refine (base_Within _ _ _ _).mono ?_; rintro _ _ ⟨rfl, rfl⟩))
            refine (HL.out _).mono ?_
            rintro _ w6 ⟨rfl, hb6⟩
            have hB6 : Below wr.heap.size wr w6 := by (repeat (with_reducible first | exact Below.refl _ _ | assumption | refine Below.drewN _ ?_ | refine Below.drew ?_ | refine Below_alloc ?_ _ | refine Below.alloc ?_ (by first | (simp; done) | (simp; omega) | omega) _ | refine Below.setCell ?_ (by first | (simp; done) | (simp; omega) | omega) _ | refine Below_call ?_ (by assumption) | refine Below.trans ?_ (by assumption)))
            have hcell6 := (hB6.block _ hsz).trans hcell
            have hz6 := hB6.size
            clear hb4 hb6 hb5
            obtain ⟨W7, hW7⟩ : ∃ W7, W7 = w6.alloc (.cells #[.int .i64 (a : Nat), .int .i64 (b : Nat)] 74) := ⟨_, rfl⟩
            have x0 : W7.cell? ⟨w6.heap.size, 0, none⟩ = some (.int .i64 (a : Nat)) := by rw [hW7]; simp
            have x1 : W7.cell? ⟨w6.heap.size, 1, none⟩ = some (.int .i64 (b : Nat)) := by rw [hW7]; simp
            have hcell7 : W7.heap[w2.heap.size]? = some (.cells #[.int .i64 lo, .int .i64 hi] 74 (0, 0)) := by rw [hW7, Below.heap_alloc _ _ _ (by omega)]; exact hcell6
            obtain ⟨y0, y1, yf0, yf1, hy⟩ := two_cells hcell7
            have HC7 := hid hcell7
            have hB7 : Below wr.heap.size wr W7 := by rw [hW7]; (repeat (with_reducible first | exact Below.refl _ _ | assumption | refine Below.drewN _ ?_ | refine Below.drew ?_ | refine Below_alloc ?_ _ | refine Below.alloc ?_ (by first | (simp; done) | (simp; omega) | omega) _ | refine Below.setCell ?_ (by first | (simp; done) | (simp; omega) | omega) _ | refine Below_call ?_ (by assumption) | refine Below.trans ?_ (by assumption)))
            have hz7 : w6.heap.size < W7.heap.size := by rw [hW7]; simp
            have hne : w6.heap.size ≠ w2.heap.size := by omega
            have HW7 := hid hW7
            clear hW7 hcell7 hcell hcell6
            go_upto_region 24 with fail
            rw [← HW7.out]
            go_wp2_with (go_at_call 44; refine (base_Within _ _ _ _).mono ?_; rintro _ _ ⟨rfl, rfl⟩)
            go_roundw
            case rel =>
              refine ⟨k + 1, a, b, by omega, by rw [HST.out, HCB.out]; have := HEX.out; simp; omega, by go_num, ?_, ?_, ?_, hid (fun j hj hj2 hf => ?_)⟩
              · exact two_set HC7.out
              · exact ((hbel.trans (hB7.mono (by omega))).setCell (Nat.le_refl _) _).setCell (Nat.le_refl _) _
              · simp; omega
              · have := lim_mono (t := t) (rr := rr) (h := (k : Nat)) (h' := (j : Nat)) (by omega) (by omega) HFD.out hf
                rw [HAB.out.1, HAB.out.2] at this; exact this
            case measure => simp [intOf]; omega
        · have hF0 := HF0.out (by omega)
          cases hcb : inB (s : Int) (a : Int) (b : Int)
          · have HCB : Hid (covB t s rr k = false) := hid (by rw [HCV.out, hcb])
            go_wp2_with fail
            refine (HWk.out _).mono ?_
            rintro _ w4 ⟨rfl, hb4⟩
            go_wp2_with (first | (go_at_call 45; refine (HAL.out _).mono ?_; rintro _ _ ⟨rfl, rfl⟩) | (go_at_call 44; refine (base_Within _ _ _ _).mono ?_; rintro _ _ ⟨rfl, rfl⟩))
            refine (HL.out _).mono ?_
            rintro _ w6 ⟨rfl, hb6⟩
            have hB6 : Below wr.heap.size wr w6 := by (repeat (with_reducible first | exact Below.refl _ _ | assumption | refine Below.drewN _ ?_ | refine Below.drew ?_ | refine Below_alloc ?_ _ | refine Below.alloc ?_ (by first | (simp; done) | (simp; omega) | omega) _ | refine Below.setCell ?_ (by first | (simp; done) | (simp; omega) | omega) _ | refine Below_call ?_ (by assumption) | refine Below.trans ?_ (by assumption)))
            have hcell6 := (hB6.block _ hsz).trans hcell
            have hz6 := hB6.size
            clear hb4 hb6
            obtain ⟨W7, hW7⟩ : ∃ W7, W7 = w6.alloc (.cells #[.int .i64 (a : Nat), .int .i64 (b : Nat)] 74) := ⟨_, rfl⟩
            have x0 : W7.cell? ⟨w6.heap.size, 0, none⟩ = some (.int .i64 (a : Nat)) := by rw [hW7]; simp
            have x1 : W7.cell? ⟨w6.heap.size, 1, none⟩ = some (.int .i64 (b : Nat)) := by rw [hW7]; simp
            have hcell7 : W7.heap[w2.heap.size]? = some (.cells #[.int .i64 lo, .int .i64 hi] 74 (0, 0)) := by rw [hW7, Below.heap_alloc _ _ _ (by omega)]; exact hcell6
            obtain ⟨y0, y1, yf0, yf1, hy⟩ := two_cells hcell7
            have HC7 := hid hcell7
            have hB7 : Below wr.heap.size wr W7 := by rw [hW7]; (repeat (with_reducible first | exact Below.refl _ _ | assumption | refine Below.drewN _ ?_ | refine Below.drew ?_ | refine Below_alloc ?_ _ | refine Below.alloc ?_ (by first | (simp; done) | (simp; omega) | omega) _ | refine Below.setCell ?_ (by first | (simp; done) | (simp; omega) | omega) _ | refine Below_call ?_ (by assumption) | refine Below.trans ?_ (by assumption)))
            have hz7 : w6.heap.size < W7.heap.size := by rw [hW7]; simp
            have hne : w6.heap.size ≠ w2.heap.size := by omega
            have HW7 := hid hW7
            clear hW7 hcell7 hcell hcell6
            go_upto_region 24 with fail
            rw [← HW7.out]
            go_wp2_with (go_at_call 44; refine (base_Within _ _ _ _).mono ?_; rintro _ _ ⟨rfl, rfl⟩)
            go_roundw
            case rel =>
              refine ⟨k + 1, a, b, by omega, by rw [HST.out, HCB.out]; simp, by go_num, ?_, ?_, ?_, hid (fun j hj hj2 hf => ?_)⟩
              · exact two_set HC7.out
              · exact ((hbel.trans (hB7.mono (by omega))).setCell (Nat.le_refl _) _).setCell (Nat.le_refl _) _
              · simp; omega
              · have := lim_mono (t := t) (rr := rr) (h := (k : Nat)) (h' := (j : Nat)) (by omega) (by omega) HFD.out hf
                rw [HAB.out.1, HAB.out.2] at this; exact this
            case measure => simp [intOf]; omega
          · have HCB : Hid (covB t s rr k = true) := hid (by rw [HCV.out, hcb])
            go_wp2_with fail
            refine (HWk.out _).mono ?_
            rintro _ w4 ⟨rfl, hb4⟩
            go_wp2_with (first | (go_at_call 45; refine (HAL.out _).mono ?_; rintro _ _ ⟨rfl, rfl⟩) | (go_at_call 44; refine (base_Within _ _ _ _).mono ?_; rintro _ _ ⟨rfl, rfl⟩))
            refine (HL.out _).mono ?_
            rintro _ w6 ⟨rfl, hb6⟩
            have hB6 : Below wr.heap.size wr w6 := by (repeat (with_reducible first | exact Below.refl _ _ | assumption | refine Below.drewN _ ?_ | refine Below.drew ?_ | refine Below_alloc ?_ _ | refine Below.alloc ?_ (by first | (simp; done) | (simp; omega) | omega) _ | refine Below.setCell ?_ (by first | (simp; done) | (simp; omega) | omega) _ | refine Below_call ?_ (by assumption) | refine Below.trans ?_ (by assumption)))
            have hcell6 := (hB6.block _ hsz).trans hcell
            have hz6 := hB6.size
            clear hb4 hb6
            obtain ⟨W7, hW7⟩ : ∃ W7, W7 = w6.alloc (.cells #[.int .i64 (a : Nat), .int .i64 (b : Nat)] 74) := ⟨_, rfl⟩
            have x0 : W7.cell? ⟨w6.heap.size, 0, none⟩ = some (.int .i64 (a : Nat)) := by rw [hW7]; simp
            have x1 : W7.cell? ⟨w6.heap.size, 1, none⟩ = some (.int .i64 (b : Nat)) := by rw [hW7]; simp
            have hcell7 : W7.heap[w2.heap.size]? = some (.cells #[.int .i64 lo, .int .i64 hi] 74 (0, 0)) := by rw [hW7, Below.heap_alloc _ _ _ (by omega)]; exact hcell6
            obtain ⟨y0, y1, yf0, yf1, hy⟩ := two_cells hcell7
            have HC7 := hid hcell7
            have hB7 : Below wr.heap.size wr W7 := by rw [hW7]; (repeat (with_reducible first | exact Below.refl _ _ | assumption | refine Below.drewN _ ?_ | refine Below.drew ?_ | refine Below_alloc ?_ _ | refine Below.alloc ?_ (by first | (simp; done) | (simp; omega) | omega) _ | refine Below.setCell ?_ (by first | (simp; done) | (simp; omega) | omega) _ | refine Below_call ?_ (by assumption) | refine Below.trans ?_ (by assumption)))
            have hz7 : w6.heap.size < W7.heap.size := by rw [hW7]; simp
            have hne : w6.heap.size ≠ w2.heap.size := by omega
            have HW7 := hid hW7
            clear hW7 hcell7 hcell hcell6
            go_upto_region 24 with fail
            rw [← HW7.out]
            go_wp2_with (go_at_call 44; refine (base_Within _ _ _ _).mono ?_; rintro _ _ ⟨rfl, rfl⟩)
            go_roundw
            case rel =>
              refine ⟨k + 1, a, b, by omega, by rw [HST.out, HCB.out]; have := HEX.out; simp; omega, by go_num, ?_, ?_, ?_, hid (fun j hj hj2 hf => ?_)⟩
              · exact two_set HC7.out
              · exact ((hbel.trans (hB7.mono (by omega))).setCell (Nat.le_refl _) _).setCell (Nat.le_refl _) _
              · simp; omega
              · have := lim_mono (t := t) (rr := rr) (h := (k : Nat)) (h' := (j : Nat)) (by omega) (by omega) HFD.out hf
                rw [HAB.out.1, HAB.out.2] at this; exact this
            case measure => simp [intOf]; omega
    · have hkl : k = t + 1 := by omega
      have hz : C - K = 0 := by rw [HCC.out, HK.out, hkl]; omega
      have hzt : (C - K == 0) = true := by rw [beq_iff_eq]; exact hz
      go_wp2_with fail
      go_ret
      exact ⟨by first | rfl | simp [hz], hB⟩

end Go.Proofs.Ytllddidjiabegaa
