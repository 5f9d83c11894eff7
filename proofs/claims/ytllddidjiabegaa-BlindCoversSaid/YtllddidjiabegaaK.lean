/- Contracts of the reference's ways, bands, limits and coverages. -/
import Derived.Test.YtllddidjiabegaaJ
set_option linter.unusedVariables false
set_option linter.unusedSimpArgs false
namespace Go.Proofs.Ytllddidjiabegaa
open Go.RowKit

set_option maxRecDepth 100000 in
theorem ref_Ways (t s : Nat) (h : Nat) (w : World) (ht : t ≤ 12) (hs : s ≤ 10) (hh : h ≤ t + 1) :
    Calls Try.prog 51 #[.int .i64 t, .int .i64 h, .int .i64 s] w fun e w' => e = .returned (.int .i64 (waysN s t h : Nat)) ∧ Below w.heap.size w w' := by
  go_enter Try.func51, Try.ntmps51
  go_wp2_with (go_at_call 107; refine (ref_Exactly _ _ _ ht hs).mono ?_; rintro _ w1 ⟨v, rfl, hints, hb1⟩)
  obtain ⟨ao, cap, rfl, h1, h2, h3⟩ := hints.opn
  rw [exRow_len] at h1 h3
  have HLEN := hid (exRow_len s (10 - s) t)
  rw [exRow_len]
  unfold maxLen at h2
  clear hints
  go_loop [8, 9] (fun o i => ∃ j : Nat, j ≤ t + 1 - h ∧ o = .int .i64 (sumFrom (ex s (10 - s) t) h j : Nat) ∧ i = .int .i64 ((h : Int) + (j : Int))) (fun _ i => ((t : Int) + 1 - intOf i).toNat)
  case atStart => exact ⟨0, by omega, rfl, by simp⟩
  case round =>
    obtain ⟨j, hj, rfl, rfl⟩ := hrel
    by_cases hlt : h + j ≤ t
    · obtain ⟨b, off, rfl, hb, hc⟩ := h3 0 (by omega)
      have c0 := hc (h + j) (by omega)
      rw [exRow_nth (by omega)] at c0
      have a1 : sumFrom (ex s (10 - s) t) h (j + 1) ≤ sumFrom (ex s (10 - s) t) h (t + 1 - h) := sumFrom_le (by omega)
      have a2 := waysN_le (s := s) (t := t) (h := h) (by omega)
      have a3 := ten_le (t := t) (by omega)
      have HW : Hid (sumFrom (ex s (10 - s) t) h (j + 1) = sumFrom (ex s (10 - s) t) h j + ex s (10 - s) t (h + j)) := hid rfl
      have a4 : sumFrom (ex s (10 - s) t) h j + ex s (10 - s) t (h + j) ≤ 1000000000000 := by
        unfold waysN at a2; rw [← HW.out]; omega
      have e1 : ((h : Int) + (j : Int)).toNat = h + j := by omega
      clear a1 a2 a3 hc h3
      go_wp2_with fail
      go_round
      case rel => exact ⟨j + 1, by omega, by rw [HW.out]; go_num, by go_num⟩
      case measure => simp [intOf]; omega
    · go_wp2_with fail
      go_ret
      exact ⟨ret_int (by simp only [waysN]; rw [show j = t + 1 - h from by omega]), hb1⟩

set_option maxRecDepth 100000 in
set_option maxHeartbeats 1000000 in
theorem ref_Band (t s r : Nat) (w : World) (h1 : t ≤ 12) (h3 : s ≤ 10) (h5 : r ≤ 999) :
    Calls Try.prog 52 #[.int .i64 t, .int .i64 s, .int .i64 r] w fun e w' => e = .returned (.agg #[.int .i64 (bandLoI t s r), .int .i64 (bandHiI t s r)]) ∧ Below w.heap.size w w' := by
  have hten := ten_le (t := t) (by omega)
  have hpos : 0 < 10 ^ t := Nat.pow_pos (by decide)
  obtain ⟨A, hA⟩ : ∃ A : Nat, A = 10 ^ t := ⟨_, rfl⟩
  have HALL : ∀ W : World, Calls Try.prog 45 #[.int .i64 t] W fun e w' => e = .returned (.int .i64 (A : Nat)) ∧ W = w' := fun W => by rw [hA]; exact ref_All t W h1
  have HAL := hid HALL
  rw [← hA] at hten hpos
  have HA := hid hA
  have hrA : r * A ≤ 999 * 1000000000000 := Nat.mul_le_mul (by omega) hten
  have hrA' : (r : Int) * (A : Int) ≤ 999000000000000 := by have h4 := Int.ofNat_le.2 hrA; rw [Int.natCast_mul] at h4; omega
  have hrA0 : 0 ≤ (r : Int) * (A : Int) := Int.mul_nonneg (by omega) (by omega)
  clear hA hrA HALL
  have HL : Hid (∀ a, loP t s r a = true ↔ 2000 * ((A : Int) - (waysN s t (a + 1) : Nat)) ≤ (r : Int) * A) := hid (fun a => by
    have h6 := waysN_le (s := s) (t := t) (h := a + 1) (by omega)
    rw [← HA.out] at h6
    simp only [loP, decide_eq_true_eq, ← HA.out]
    exact le_int1 _ _ _ h6)
  have HH : Hid (∀ b, hiP t s r b = true ↔ 2000 * (waysN s t b : Nat) ≤ (r : Int) * A) := hid (fun b => by
    simp only [hiP, decide_eq_true_eq, ← HA.out]
    exact le_int2 _ _ _)
  have HBH : Hid (∀ x : Nat, waysN s t x ≤ A) := hid (fun x => by
    have h6 := waysN_le (s := s) (t := t) (h := x) (by omega)
    rw [← HA.out] at h6; exact h6)
  have HE1 : Hid (loP t s r t = false) := hid (loP_end (by omega))
  have HE2 : Hid (hiP t s r 0 = false) := hid (hiP_end (by omega) (by omega))
  go_enter Try.func52, Try.ntmps52
  go_wp2_with fail
  obtain ⟨W0, hW0⟩ : ∃ W0, W0 = w.alloc (.cells #[.int .i64 0, .int .i64 0] 74) := ⟨_, rfl⟩
  have r0 : W0.cell? ⟨w.heap.size, 0, none⟩ = some (.int .i64 0) := by rw [hW0]; simp
  have r1 : W0.cell? ⟨w.heap.size, 1, none⟩ = some (.int .i64 0) := by rw [hW0]; simp
  have f0 : W0.frozen? ⟨w.heap.size, 0, none⟩ = false := by rw [hW0]; simp
  have f1 : W0.frozen? ⟨w.heap.size, 1, none⟩ = false := by rw [hW0]; simp
  have hz0 : w.heap.size + 1 ≤ W0.heap.size := by rw [hW0]; simp
  have hBW : Below w.heap.size w W0 := by rw [hW0]; (repeat (with_reducible first | exact Below.refl _ _ | assumption | refine Below.drewN _ ?_ | refine Below.drew ?_ | refine Below_alloc ?_ _ | refine Below.alloc ?_ (by first | (simp; done) | (simp; omega) | omega) _ | refine Below.setCell ?_ (by first | (simp; done) | (simp; omega) | omega) _ | refine Below_call ?_ (by assumption) | refine Below.trans ?_ (by assumption)))
  rw [← hW0]
  clear hW0
  go_loopw [7] (fun x wr => ∃ a : Nat, a ≤ t ∧ x = .int .i64 a ∧ Hid (∀ j, j < a → loP t s r j = true) ∧ Below W0.heap.size W0 wr) (fun x _ => t - (intOf x).toNat)
  case atStart => exact ⟨0, by omega, rfl, hid (fun j hj => by omega), Below.refl _ _⟩
  case round =>
    obtain ⟨a, ha, rfl, hall, hbel⟩ := hrel
    have hway := HBH.out (a + 1)
    have hzz := hbel.size
    cases hp : loP t s r a
    · have hno : ¬ 2000 * ((A : Int) - (waysN s t (a + 1) : Nat)) ≤ (r : Int) * A := fun h => by rw [(HL.out a).2 h] at hp; cases hp
      have HPa := hid hp
      clear hp
      go_wp2_with (first | (go_at_call 45; refine (HAL.out _).mono ?_; rintro _ _ ⟨rfl, rfl⟩) | (go_at_call 51; refine (ref_Ways t s (a + 1) _ (by omega) (by omega) (by omega)).mono ?_; rintro _ w1 ⟨rfl, hb1⟩; obtain ⟨hc1, hf1⟩ := bcell hb1; have hz1 := hb1.size; (try simp only [World.size_alloc, World.heap_drewN] at hz1)))
      have HLO : Hid (bandLo t s r = a) := hid (upTo_eq _ _ _ (Nat.zero_le _) (by omega) (fun j _ hj => hall.out j hj) HPa.out)
      have hbel1 : Below W0.heap.size W0 w1 := hbel.trans (hb1.mono hzz)
      clear hno hway hall hbel hb1 hc1 hf1
      go_loopw [8] (fun x wr2 => ∃ b : Nat, b ≤ t ∧ x = .int .i64 b ∧ Hid (∀ j, b < j → j ≤ t → hiP t s r j = true) ∧ Below W0.heap.size W0 wr2) (fun x _ => (intOf x).toNat)
      case atStart => exact ⟨t, by omega, rfl, hid (fun j hj hj2 => by omega), hbel1⟩
      case round =>
        obtain ⟨b, hb, rfl, hall2, hbel⟩ := hrel
        have hway := HBH.out b
        obtain ⟨hc, hf⟩ := bcell hbel
        have hz := hbel.size
        have e0 := (hc w.heap.size 0 (by omega)).trans r0
        have e1 := (hc w.heap.size 1 (by omega)).trans r1
        have g0 := (hf w.heap.size 0 (by omega)).trans f0
        have g1 := (hf w.heap.size 1 (by omega)).trans f1
        have hs0 : w.heap.size < wr.heap.size := by omega
        clear hc hf
        cases hp : hiP t s r b
        · have hno : ¬ 2000 * (waysN s t b : Nat) ≤ (r : Int) * A := fun h => by rw [(HH.out b).2 h] at hp; cases hp
          have HPb := hid hp
          clear hp
          go_wp2_with (first | (go_at_call 45; refine (HAL.out _).mono ?_; rintro _ _ ⟨rfl, rfl⟩) | (go_at_call 51; refine (ref_Ways t s b _ (by omega) (by omega) (by omega)).mono ?_; rintro _ w2 ⟨rfl, hb2⟩; obtain ⟨hc2, hf2⟩ := bcell hb2; have hz2 := hb2.size; (try simp only [World.size_alloc, World.heap_drewN] at hz2); have hk2_0 : w.heap.size < w2.heap.size := (by omega)))
          have HHI : Hid (bandHi t s r = b) := hid (downTo_eq _ _ hb (fun j h1 h2 => hall2.out j h1 h2) (Or.inr HPb.out))
          ((try simp only [Exit.inBlock, Exit.then]); refine bodyPost_ret (v := .agg #[.int .i64 a, .int .i64 b]) ?_ rfl ?_; (next => simp [results, Try.results52, go_sem, hc2, hk2_0, hs0, e0, e1]); refine ⟨?_, ?_⟩; (next => simp only [bandLoI, bandHiI, Int.toNat_natCast]; rw [HLO.out, HHI.out]); (next => (repeat (with_reducible first | exact Below.refl _ _ | assumption | refine Below.drewN _ ?_ | refine Below.drew ?_ | refine Below_alloc ?_ _ | refine Below.alloc ?_ (by first | (simp; done) | (simp; omega) | omega) _ | refine Below.setCell ?_ (by first | (simp; done) | (simp; omega) | omega) _ | refine Below_call ?_ (by assumption) | refine Below.trans ?_ (by assumption)))))
        · have hyes := (HH.out b).1 hp
          have hb0 : 0 < b := Nat.pos_of_ne_zero (fun h => by rw [h, HE2.out] at hp; cases hp)
          have HPb := hid hp
          clear hp
          go_wp2_with (first | (go_at_call 45; refine (HAL.out _).mono ?_; rintro _ _ ⟨rfl, rfl⟩) | (go_at_call 51; refine (ref_Ways t s b _ (by omega) (by omega) (by omega)).mono ?_; rintro _ w2 ⟨rfl, hb2⟩; obtain ⟨hc2, hf2⟩ := bcell hb2; have hz2 := hb2.size; (try simp only [World.size_alloc, World.heap_drewN] at hz2); have hk2_0 : w.heap.size < w2.heap.size := (by omega)))
          go_roundw
          case rel =>
            refine ⟨b - 1, by omega, by rw [show ((b : Int) - 1) = ((b - 1 : Nat) : Int) from by omega], hid (fun j h1 h2 => ?_), by (repeat (with_reducible first | exact Below.refl _ _ | assumption | refine Below.drewN _ ?_ | refine Below.drew ?_ | refine Below_alloc ?_ _ | refine Below.alloc ?_ (by first | (simp; done) | (simp; omega) | omega) _ | refine Below.setCell ?_ (by first | (simp; done) | (simp; omega) | omega) _ | refine Below_call ?_ (by assumption) | refine Below.trans ?_ (by assumption)))⟩
            by_cases e : j = b
            · rw [e]; exact HPb.out
            · exact hall2.out j (by omega) h2
          case measure => simp [intOf]; omega
    · have hyes := (HL.out a).1 hp
      have hat : a < t := Nat.lt_of_le_of_ne ha (fun h => by rw [h, HE1.out] at hp; cases hp)
      have HPa := hid hp
      clear hp
      go_wp2_with (first | (go_at_call 45; refine (HAL.out _).mono ?_; rintro _ _ ⟨rfl, rfl⟩) | (go_at_call 51; refine (ref_Ways t s (a + 1) _ (by omega) (by omega) (by omega)).mono ?_; rintro _ w1 ⟨rfl, hb1⟩; obtain ⟨hc1, hf1⟩ := bcell hb1; have hz1 := hb1.size; (try simp only [World.size_alloc, World.heap_drewN] at hz1)))
      go_roundw
      case rel =>
        refine ⟨a + 1, by omega, by go_num, hid (fun j h1 => ?_), by (repeat (with_reducible first | exact Below.refl _ _ | assumption | refine Below.drewN _ ?_ | refine Below.drew ?_ | refine Below_alloc ?_ _ | refine Below.alloc ?_ (by first | (simp; done) | (simp; omega) | omega) _ | refine Below.setCell ?_ (by first | (simp; done) | (simp; omega) | omega) _ | refine Below_call ?_ (by assumption) | refine Below.trans ?_ (by assumption)))⟩
        by_cases e : j = a
        · rw [e]; exact HPa.out
        · exact hall.out j (by omega)
      case measure => simp [intOf]; omega

end Go.Proofs.Ytllddidjiabegaa
