/- The law there and back, walked. -/
import Derived.Test.YtllddidjiabegaaBT0
import Derived.Test.YtllddidjiabegaaBE7
set_option linter.unusedVariables false
set_option linter.unusedSimpArgs false
namespace Go.Proofs.Ytllddidjiabegaa
open Go.RowKit

theorem oft_take {l : List Ev} {t : Int} {k : Nat} (h : k < l.length) : oft (l.take (k + 1)) t = oft (l.take k) t + (if (evAt l k).t = t then 1 else 0) := by
  rw [evAt_take h]
  unfold oft
  rw [List.countP_append]
  by_cases e : (evAt l k).t = t <;> simp [e]
theorem oft_le {l : List Ev} {t : Int} : oft l t ≤ l.length := List.countP_le_length

set_option maxRecDepth 100000 in
theorem law_often (l : List Ev) (v : Value) (t : Int) (w : World) (h : EventsAt w v l) (hl : l.length ≤ 100) :
    Calls Try.prog 59 #[v, .int .i64 t] w fun e w' => e = .returned (.int .i64 (oft l t : Nat)) ∧ Below w.heap.size w w' := by
  obtain ⟨ao, cap, rfl, h1, h2, h3⟩ := h.opn
  unfold maxLen at h2
  go_enter Try.func59, Try.ntmps59
  go_wp2_with fail
  go_loop [5, 6] (fun n i => ∃ k : Nat, k ≤ l.length ∧ n = .int .i64 (oft (l.take k) t : Nat) ∧ i = .int .i64 k) (fun _ i => l.length - (intOf i).toNat)
  case atStart => exact ⟨0, Nat.zero_le _, rfl, rfl⟩
  case round =>
    obtain ⟨k, hk, rfl, rfl⟩ := hrel
    by_cases hlt : k < l.length
    · obtain ⟨b, off, rfl, hb, hc⟩ := h3 k hlt
      have c0 := (hc k hlt).1
      have HAT := hid (oft_take (t := t) hlt)
      have hcnt : oft (l.take k) t ≤ 100 := Nat.le_trans oft_le (by simp; omega)
      obtain ⟨y, hy⟩ : ∃ y, y = (evAt l k).t := ⟨_, rfl⟩
      rw [← hy] at c0 HAT
      clear hc h3 hy h
      cases ht : (y == t)
      · have HT := hid ht
        go_wp2_with fail
        go_round
        case rel => exact ⟨k + 1, by omega, by rw [HAT.out, if_neg (by simpa using HT.out)]; rfl, by go_num⟩
        case measure => simp [intOf]; omega
      · have HT := hid ht
        go_wp2_with fail
        go_round
        case rel => exact ⟨k + 1, by omega, by rw [HAT.out, if_pos (by simpa using HT.out)]; go_num, by go_num⟩
        case measure => simp [intOf]; omega
    · have hkl : k = l.length := by omega
      go_wp2_with fail
      go_ret
      exact ⟨ret_int (by first | rfl | rw [hkl, List.take_length]), Below.refl _ _⟩

set_option maxRecDepth 100000 in
set_option maxHeartbeats 8000000 in
theorem law_ThereAndBack (l : List Ev) (v : Value) (key : Int) (w : World) (hl : EventsAt w v l) :
    Calls Try.prog 8 #[v, .int .i64 key] w fun e w' => e = .returned (.bool true) ∧ Below w.heap.size w w' := by
  have HFew : Hid (∀ W, Below w.heap.size w W → Calls Try.prog 12 #[v] W fun e w' => e = .returned (.bool (decide ((l.length : Int) ≤ 14))) ∧ W = w') := hid (fun W hW => law_few l v W (hl.below hW))
  by_cases hf : (l.length : Int) ≤ 14
  case neg =>
    have hfd : decide ((l.length : Int) ≤ 14) = false := by simpa using hf
    rw [hfd] at HFew
    clear hl
    go_enter Try.func8, Try.ntmps8
    go_wp2_with (first | (go_at_call 11; refine (law_awake _).mono ?_; rintro _ w1 ⟨rfl, hb1⟩) | (go_at_call 12; refine (HFew.out _ (by (repeat (with_reducible first | exact Below.refl _ _ | assumption | refine Below.drewN _ ?_ | refine Below.drew ?_ | refine Below_alloc ?_ _ | refine Below.alloc ?_ (by first | (simp; done) | (simp; omega) | omega) _ | refine Below.setCell ?_ (by first | (simp; done) | (simp; omega) | omega) _ | refine Below_call ?_ (by assumption) | refine Below.trans ?_ (by assumption))))).mono ?_; rintro _ _ ⟨rfl, rfl⟩))
    go_ret
    exact ⟨rfl, by (repeat (with_reducible first | exact Below.refl _ _ | assumption | refine Below.drewN _ ?_ | refine Below.drew ?_ | refine Below_alloc ?_ _ | refine Below.alloc ?_ (by first | (simp; done) | (simp; omega) | omega) _ | refine Below.setCell ?_ (by first | (simp; done) | (simp; omega) | omega) _ | refine Below_call ?_ (by assumption) | refine Below.trans ?_ (by assumption)))⟩
  have hfd : decide ((l.length : Int) ≤ 14) = true := by simpa using hf
  rw [hfd] at HFew
  have HAE : Hid (∀ W, Below w.heap.size w W → Calls Try.prog 20 #[v] W fun e w' => e = .returned (.int .i64 (anyErr l)) ∧ Below W.heap.size W w') := hid (fun W hW => ref_AnyErr l v W (hl.below hW))
  by_cases hA : anyErr l = 0
  case neg =>
    have hA' : (anyErr l != 0) = true := by simpa using hA
    clear hl hA
    go_enter Try.func8, Try.ntmps8
    go_wp2_with (first | (go_at_call 11; refine (law_awake _).mono ?_; rintro _ w1 ⟨rfl, hb1⟩) | (go_at_call 12; refine (HFew.out _ (by (repeat (with_reducible first | exact Below.refl _ _ | assumption | refine Below.drewN _ ?_ | refine Below.drew ?_ | refine Below_alloc ?_ _ | refine Below.alloc ?_ (by first | (simp; done) | (simp; omega) | omega) _ | refine Below.setCell ?_ (by first | (simp; done) | (simp; omega) | omega) _ | refine Below_call ?_ (by assumption) | refine Below.trans ?_ (by assumption))))).mono ?_; rintro _ _ ⟨rfl, rfl⟩) | (go_at_call 20; refine (HAE.out _ (by (repeat (with_reducible first | exact Below.refl _ _ | assumption | refine Below.drewN _ ?_ | refine Below.drew ?_ | refine Below_alloc ?_ _ | refine Below.alloc ?_ (by first | (simp; done) | (simp; omega) | omega) _ | refine Below.setCell ?_ (by first | (simp; done) | (simp; omega) | omega) _ | refine Below_call ?_ (by assumption) | refine Below.trans ?_ (by assumption))))).mono ?_; rintro _ w2 ⟨rfl, hb2⟩))
    go_ret
    exact ⟨rfl, by (repeat (with_reducible first | exact Below.refl _ _ | assumption | refine Below.drewN _ ?_ | refine Below.drew ?_ | refine Below_alloc ?_ _ | refine Below.alloc ?_ (by first | (simp; done) | (simp; omega) | omega) _ | refine Below.setCell ?_ (by first | (simp; done) | (simp; omega) | omega) _ | refine Below_call ?_ (by assumption) | refine Below.trans ?_ (by assumption)))⟩
  have hok := anyErr_ok hA
  have h12 := hok.1
  rw [hA] at HAE
  by_cases hK : keyErrS l.length key = 0
  case neg =>
    have HKE : Hid (∀ W, Calls Try.prog 55 #[.int .i64 l.length, .int .i64 key] W fun e w' => e = .returned (.int .i64 (keyErrS l.length key)) ∧ W = w') := hid (fun W => ref_KeyErr l.length key W (by omega))
    have hK' : (keyErrS l.length key != 0) = true := by simpa using hK
    obtain ⟨ao0, cap0, rfl, -, -, -⟩ := hl.opn
    clear hl hA hok h12 hK
    go_enter Try.func8, Try.ntmps8
    go_wp2_with (first | (go_at_call 11; refine (law_awake _).mono ?_; rintro _ w1 ⟨rfl, hb1⟩) | (go_at_call 12; refine (HFew.out _ (by (repeat (with_reducible first | exact Below.refl _ _ | assumption | refine Below.drewN _ ?_ | refine Below.drew ?_ | refine Below_alloc ?_ _ | refine Below.alloc ?_ (by first | (simp; done) | (simp; omega) | omega) _ | refine Below.setCell ?_ (by first | (simp; done) | (simp; omega) | omega) _ | refine Below_call ?_ (by assumption) | refine Below.trans ?_ (by assumption))))).mono ?_; rintro _ _ ⟨rfl, rfl⟩) | (go_at_call 20; refine (HAE.out _ (by (repeat (with_reducible first | exact Below.refl _ _ | assumption | refine Below.drewN _ ?_ | refine Below.drew ?_ | refine Below_alloc ?_ _ | refine Below.alloc ?_ (by first | (simp; done) | (simp; omega) | omega) _ | refine Below.setCell ?_ (by first | (simp; done) | (simp; omega) | omega) _ | refine Below_call ?_ (by assumption) | refine Below.trans ?_ (by assumption))))).mono ?_; rintro _ w2 ⟨rfl, hb2⟩) | (go_at_call 55; refine (HKE.out _).mono ?_; rintro _ _ ⟨rfl, rfl⟩))
    go_ret
    exact ⟨rfl, by (repeat (with_reducible first | exact Below.refl _ _ | assumption | refine Below.drewN _ ?_ | refine Below.drew ?_ | refine Below_alloc ?_ _ | refine Below.alloc ?_ (by first | (simp; done) | (simp; omega) | omega) _ | refine Below.setCell ?_ (by first | (simp; done) | (simp; omega) | omega) _ | refine Below_call ?_ (by assumption) | refine Below.trans ?_ (by assumption)))⟩
  obtain ⟨m, rfl, hmf⟩ := keyErrS_ok h12 hK
  have HKE : Hid (∀ W, Calls Try.prog 55 #[.int .i64 l.length, .int .i64 m] W fun e w' => e = .returned (.int .i64 0) ∧ W = w') := hid (fun W => by have := ref_KeyErr l.length m W (by omega); rwa [hK] at this)
  have HCE : Hid (∀ W, Below w.heap.size w W → Calls Try.prog 17 #[v] W (RetEvents W l)) := hid (fun W hW => ref_CopyEvents l v W (hl.below hW) (by omega))
  have HCX : Hid (∀ W x k, EventsAt W x k → k.length = l.length → Calls Try.prog 17 #[x] W (RetEvents W k)) := hid (fun W x k hx hk => ref_CopyEvents k x W hx (by omega))
  have hmz : ∀ k : List Ev, k.length = l.length → anyErr k = 0 → moveErr k m = 0 := fun k hk ha => by rw [moveErr_two ha, hk, hK]
  have hm0 : moveErr l 0 = 0 := by
    rw [moveErr_two hA]
    have : inB 0 0 (facI (l.length : Int) - 1) = true := by
      rw [inB_true, facI_nat]
      have : 0 < fac l.length := by omega
      omega
    simp [keyErrS, unl, this]
  have HSC : Hid (∀ W x k, EventsAt W x k → k.length = l.length → anyErr k = 0 → Calls Try.prog 56 #[x, .int .i64 m] W (RetEvE W (scr k m) 0)) := hid (fun W x k hx hk ha => by have := blind_Scrambled k x m W hx; rwa [show movScrambled k m = scr k m from by simp [movScrambled, hmz k hk ha], hmz k hk ha] at this)
  have HUN : Hid (∀ W x k, EventsAt W x k → k.length = l.length → anyErr k = 0 → Calls Try.prog 57 #[x, .int .i64 m] W (RetEvE W (uns k m) 0)) := hid (fun W x k hx hk ha => by have := blind_Unscrambled k x m W hx; rwa [show movUnscrambled k m = uns k m from by simp [movUnscrambled, hmz k hk ha], hmz k hk ha] at this)
  have HSZ : Hid (∀ W x, EventsAt W x l → Calls Try.prog 56 #[x, .int .i64 0] W (RetEvE W l 0)) := hid (fun W x hx => by have := blind_Scrambled l x 0 W hx; rwa [show movScrambled l 0 = l from by simp [movScrambled, hm0, scr_zero], hm0] at this)
  have HSM : Hid (∀ W, Below w.heap.size w W → ∀ x, EventsAt W x l → Calls Try.prog 58 #[x, v] W fun e w' => e = .returned (.bool true) ∧ Below W.heap.size W w') := hid (fun W hW x hx => evSame l x v W hx (hl.below hW))
  have HOF : Hid (∀ W x k t, EventsAt W x k → k.length = l.length → Calls Try.prog 59 #[x, .int .i64 t] W fun e w' => e = .returned (.int .i64 (oft k t : Nat)) ∧ Below W.heap.size W w') := hid (fun W x k t hx hk => law_often k x t W hx (by omega))
  have HUS : Hid (uns (scr l m) m = l ∧ scr (uns l m) m = l ∧ (scr l m).length = l.length ∧ (uns l m).length = l.length ∧ anyErr (scr l m) = 0 ∧ anyErr (uns l m) = 0 ∧ anyErr l = 0) := hid ⟨uns_scr l m, scr_uns l m, scr_len l m, uns_len l m, anyErr_scr m hA, anyErr_uns m hA, hA⟩
  have HOS : Hid (∀ t, oft (scr l m) t = oft l t) := hid (oft_scr l m)
  have HFI : Hid (∀ i, i < l.length → (evAt (scr l m) i).at (evAt l i).t = evAt l i) := hid (fun i hi => by rw [scr_at l m hi, at_at, at_self])
  have HLV := hid hl
  obtain ⟨ao0, cap0, rfl, z1, z2, z3⟩ := hl.opn
  unfold maxLen at z2
  obtain ⟨SA, hSA⟩ : ∃ SA, SA = scr l m := ⟨_, rfl⟩
  rw [← hSA] at HUS HOS HFI
  have HSA := hid hSA
  clear hl hA hok hK hmz hm0 hmf hSA
  go_enter Try.func8, Try.ntmps8
  go_wp2_with (first | (go_at_call 11; refine (law_awake _).mono ?_; rintro _ w1 ⟨rfl, hb1⟩) | (go_at_call 12; refine (HFew.out _ (by (repeat (with_reducible first | exact Below.refl _ _ | assumption | refine Below.drewN _ ?_ | refine Below.drew ?_ | refine Below_alloc ?_ _ | refine Below.alloc ?_ (by first | (simp; done) | (simp; omega) | omega) _ | refine Below.setCell ?_ (by first | (simp; done) | (simp; omega) | omega) _ | refine Below_call ?_ (by assumption) | refine Below.trans ?_ (by assumption))))).mono ?_; rintro _ _ ⟨rfl, rfl⟩) | (go_at_call 20; refine (HAE.out _ (by (repeat (with_reducible first | exact Below.refl _ _ | assumption | refine Below.drewN _ ?_ | refine Below.drew ?_ | refine Below_alloc ?_ _ | refine Below.alloc ?_ (by first | (simp; done) | (simp; omega) | omega) _ | refine Below.setCell ?_ (by first | (simp; done) | (simp; omega) | omega) _ | refine Below_call ?_ (by assumption) | refine Below.trans ?_ (by assumption))))).mono ?_; rintro _ w2 ⟨rfl, hb2⟩) | (go_at_call 55; refine (HKE.out _).mono ?_; rintro _ _ ⟨rfl, rfl⟩))
  refine (HCE.out _ (by (repeat (with_reducible first | exact Below.refl _ _ | assumption | refine Below.drewN _ ?_ | refine Below.drew ?_ | refine Below_alloc ?_ _ | refine Below.alloc ?_ (by first | (simp; done) | (simp; omega) | omega) _ | refine Below.setCell ?_ (by first | (simp; done) | (simp; omega) | omega) _ | refine Below_call ?_ (by assumption) | refine Below.trans ?_ (by assumption))))).mono ?_
  rintro _ w3 ⟨x3, rfl, hx3, hb3⟩
  go_wp2_with fail
  refine (HSC.out _ _ _ hx3 rfl HUS.out.2.2.2.2.2.2).mono ?_
  rintro _ w4 ⟨a4, rfl, ha4, hb4⟩
  rw [← HSA.out] at ha4
  obtain ⟨ao4, cap4, rfl, y1, y2, y3⟩ := ha4.opn
  clear y3
  unfold maxLen at y2
  rw [HUS.out.2.2.1] at y1 ⊢
  have HA4 := hid ha4
  go_wp2_with fail
  refine (HCX.out _ _ _ (by have := HA4.out; rwa [HUS.out.2.2.1] at this) HUS.out.2.2.1).mono ?_
  rintro _ w5 ⟨x5, rfl, hx5, hb5⟩
  go_wp2_with fail
  refine (HUN.out _ _ _ hx5 HUS.out.2.2.1 HUS.out.2.2.2.2.1).mono ?_
  rintro _ w6 ⟨b6, rfl, hb6', hb6⟩
  rw [HUS.out.1] at hb6'
  go_wp2_with fail
  refine (HCE.out _ (by (repeat (with_reducible first | exact Below.refl _ _ | assumption | refine Below.drewN _ ?_ | refine Below.drew ?_ | refine Below_alloc ?_ _ | refine Below.alloc ?_ (by first | (simp; done) | (simp; omega) | omega) _ | refine Below.setCell ?_ (by first | (simp; done) | (simp; omega) | omega) _ | refine Below_call ?_ (by assumption) | refine Below.trans ?_ (by assumption))))).mono ?_
  rintro _ w7 ⟨x7, rfl, hx7, hb7⟩
  go_wp2_with fail
  refine (HUN.out _ _ _ hx7 rfl HUS.out.2.2.2.2.2.2).mono ?_
  rintro _ w8 ⟨c8, rfl, hc8, hb8⟩
  go_wp2_with fail
  refine (HCX.out _ _ _ hc8 HUS.out.2.2.2.1).mono ?_
  rintro _ w9 ⟨x9, rfl, hx9, hb9⟩
  go_wp2_with fail
  refine (HSC.out _ _ _ hx9 HUS.out.2.2.2.1 HUS.out.2.2.2.2.2.1).mono ?_
  rintro _ w10 ⟨d10, rfl, hd10, hb10⟩
  rw [HUS.out.2.1] at hd10
  go_wp2_with fail
  refine (HCE.out _ (by (repeat (with_reducible first | exact Below.refl _ _ | assumption | refine Below.drewN _ ?_ | refine Below.drew ?_ | refine Below_alloc ?_ _ | refine Below.alloc ?_ (by first | (simp; done) | (simp; omega) | omega) _ | refine Below.setCell ?_ (by first | (simp; done) | (simp; omega) | omega) _ | refine Below_call ?_ (by assumption) | refine Below.trans ?_ (by assumption))))).mono ?_
  rintro _ w11 ⟨x11, rfl, hx11, hb11⟩
  go_wp2_with fail
  refine (HSZ.out _ _ hx11).mono ?_
  rintro _ w12 ⟨z12, rfl, hz12, hb12⟩
  go_wp2_with fail
  refine (HSM.out _ (by (repeat (with_reducible first | exact Below.refl _ _ | assumption | refine Below.drewN _ ?_ | refine Below.drew ?_ | refine Below_alloc ?_ _ | refine Below.alloc ?_ (by first | (simp; done) | (simp; omega) | omega) _ | refine Below.setCell ?_ (by first | (simp; done) | (simp; omega) | omega) _ | refine Below_call ?_ (by assumption) | refine Below.trans ?_ (by assumption)))) _ (hb6'.below (by (repeat (with_reducible first | exact Below.refl _ _ | assumption | refine Below.drewN _ ?_ | refine Below.drew ?_ | refine Below_alloc ?_ _ | refine Below.alloc ?_ (by first | (simp; done) | (simp; omega) | omega) _ | refine Below.setCell ?_ (by first | (simp; done) | (simp; omega) | omega) _ | refine Below_call ?_ (by assumption) | refine Below.trans ?_ (by assumption)))))).mono ?_
  rintro _ w13 ⟨rfl, hb13⟩
  go_wp2_with fail
  refine (HSM.out _ (by (repeat (with_reducible first | exact Below.refl _ _ | assumption | refine Below.drewN _ ?_ | refine Below.drew ?_ | refine Below_alloc ?_ _ | refine Below.alloc ?_ (by first | (simp; done) | (simp; omega) | omega) _ | refine Below.setCell ?_ (by first | (simp; done) | (simp; omega) | omega) _ | refine Below_call ?_ (by assumption) | refine Below.trans ?_ (by assumption)))) _ (hd10.below (by (repeat (with_reducible first | exact Below.refl _ _ | assumption | refine Below.drewN _ ?_ | refine Below.drew ?_ | refine Below_alloc ?_ _ | refine Below.alloc ?_ (by first | (simp; done) | (simp; omega) | omega) _ | refine Below.setCell ?_ (by first | (simp; done) | (simp; omega) | omega) _ | refine Below_call ?_ (by assumption) | refine Below.trans ?_ (by assumption)))))).mono ?_
  rintro _ w14 ⟨rfl, hb14⟩
  go_wp2_with fail
  refine (HSM.out _ (by (repeat (with_reducible first | exact Below.refl _ _ | assumption | refine Below.drewN _ ?_ | refine Below.drew ?_ | refine Below_alloc ?_ _ | refine Below.alloc ?_ (by first | (simp; done) | (simp; omega) | omega) _ | refine Below.setCell ?_ (by first | (simp; done) | (simp; omega) | omega) _ | refine Below_call ?_ (by assumption) | refine Below.trans ?_ (by assumption)))) _ (hz12.below (by (repeat (with_reducible first | exact Below.refl _ _ | assumption | refine Below.drewN _ ?_ | refine Below.drew ?_ | refine Below_alloc ?_ _ | refine Below.alloc ?_ (by first | (simp; done) | (simp; omega) | omega) _ | refine Below.setCell ?_ (by first | (simp; done) | (simp; omega) | omega) _ | refine Below_call ?_ (by assumption) | refine Below.trans ?_ (by assumption)))))).mono ?_
  rintro _ w15 ⟨rfl, hb15⟩
  go_wp2_with fail
  have hA15 := HA4.out.below (show Below w4.heap.size w4 w15 by (repeat (with_reducible first | exact Below.refl _ _ | assumption | refine Below.drewN _ ?_ | refine Below.drew ?_ | refine Below_alloc ?_ _ | refine Below.alloc ?_ (by first | (simp; done) | (simp; omega) | omega) _ | refine Below.setCell ?_ (by first | (simp; done) | (simp; omega) | omega) _ | refine Below_call ?_ (by assumption) | refine Below.trans ?_ (by assumption))))
  have hBW : Below w.heap.size w w15 := by (repeat (with_reducible first | exact Below.refl _ _ | assumption | refine Below.drewN _ ?_ | refine Below.drew ?_ | refine Below_alloc ?_ _ | refine Below.alloc ?_ (by first | (simp; done) | (simp; omega) | omega) _ | refine Below.setCell ?_ (by first | (simp; done) | (simp; omega) | omega) _ | refine Below_call ?_ (by assumption) | refine Below.trans ?_ (by assumption)))
  obtain ⟨ao5, cap5, e5, u1, u2, u3⟩ := hA15.opn
  rw [HUS.out.2.2.1] at u3
  have e6 : ao5 = ao4 := by cases e5; rfl
  subst e6
  have HA15 := hid hA15
  clear e5 u1 u2 hb1 hb2 hb3 hb4 hb5 hb6 hb7 hb8 hb9 hb10 hb11 hb12 hb13 hb14 hb15 hA15 hx3 hx5 hx7 hx9 hx11 hb6' hd10 hz12 hc8 ha4 HAE HCE HCX HSC HUN HSZ HSM HKE HFew HA4 HSA
  go_loopw [15] (fun i wr => ∃ k : Nat, k ≤ l.length ∧ i = .int .i64 k ∧ Below w15.heap.size w15 wr) (fun i _ => l.length - (intOf i).toNat)
  case atStart => exact ⟨0, Nat.zero_le _, rfl, Below.refl _ _⟩
  case round =>
    obtain ⟨k, hk, rfl, hbel⟩ := hrel
    have hzw := hbel.size
    have hB : Below w.heap.size w wr := hBW.trans (hbel.mono hBW.size)
    by_cases hlt : k < l.length
    · obtain ⟨b, off, rfl, hb, hc⟩ := z3 k hlt
      obtain ⟨c0, c1, c2, c3⟩ := hc k hlt
      obtain ⟨b2, off2, rfl, hbb, hd⟩ := u3 k hlt
      obtain ⟨d0, d1, d2, d3⟩ := hd k hlt
      rw [← (bcell hB).1 b _ hb] at c0 c1 c2 c3
      rw [← (bcell hbel).1 b2 _ hbb] at d0 d1 d2 d3
      have hbw : b < wr.heap.size := Nat.lt_of_lt_of_le hb hB.size
      have hbbw : b2 < wr.heap.size := Nat.lt_of_lt_of_le hbb hzw
      have hfi := HFI.out k hlt
      have HXL : Hid (EventsAt wr (.slice (some ⟨b, off, none⟩) l.length cap0) l) := hid (HLV.out.below hB)
      have HXA : Hid (EventsAt wr (.slice (some ⟨b2, off2, none⟩) SA.length cap4) SA) := hid (HA15.out.below hbel)
      rw [HUS.out.2.2.1] at HXA
      obtain ⟨x, hx⟩ : ∃ x, x = evAt l k := ⟨_, rfl⟩
      obtain ⟨y, hy⟩ : ∃ y, y = evAt SA k := ⟨_, rfl⟩
      rw [← hx] at c0 c1 c2 c3 hfi
      rw [← hy] at d0 d1 d2 d3 hfi
      obtain ⟨t, en, ze, hi⟩ := x
      obtain ⟨t', en', ze', hi'⟩ := y
      simp only [Ev.at, Ev.mk.injEq, true_and] at hfi
      obtain ⟨rfl, rfl, rfl⟩ := hfi
      simp only at c0 c1 c2 c3 d0 d1 d2 d3
      obtain ⟨W1, hW1⟩ : ∃ W1, W1 = wr.alloc (.cells #[.int .i64 t, .int .i64 en', .int .i64 ze', .int .i64 hi'] 89) := ⟨_, rfl⟩
      have HW1 := hid hW1
      have x0 : W1.cell? ⟨wr.heap.size, 0, none⟩ = some (.int .i64 t) := by rw [hW1]; simp
      have x1 : W1.cell? ⟨wr.heap.size, 1, none⟩ = some (.int .i64 en') := by rw [hW1]; simp
      have x2 : W1.cell? ⟨wr.heap.size, 2, none⟩ = some (.int .i64 ze') := by rw [hW1]; simp
      have x3 : W1.cell? ⟨wr.heap.size, 3, none⟩ = some (.int .i64 hi') := by rw [hW1]; simp
      have hz1 : wr.heap.size < W1.heap.size := by rw [hW1]; simp
      have hB1 : Below wr.heap.size wr W1 := by rw [hW1]; (repeat (with_reducible first | exact Below.refl _ _ | assumption | refine Below.drewN _ ?_ | refine Below.drew ?_ | refine Below_alloc ?_ _ | refine Below.alloc ?_ (by first | (simp; done) | (simp; omega) | omega) _ | refine Below.setCell ?_ (by first | (simp; done) | (simp; omega) | omega) _ | refine Below_call ?_ (by assumption) | refine Below.trans ?_ (by assumption)))
      have e0 := (bcell hB1).1 b (off + k * 4) hbw
      have e1 := (bcell hB1).1 b (off + k * 4 + 1) hbw
      have e2 := (bcell hB1).1 b (off + k * 4 + 2) hbw
      have e3 := (bcell hB1).1 b (off + k * 4 + 3) hbw
      rw [c0] at e0
      rw [c1] at e1
      rw [c2] at e2
      rw [c3] at e3
      have hbw1 : b < W1.heap.size := by omega
      have HXL1 := hid (HXL.out.below hB1)
      have HXA1 := hid (HXA.out.below hB1)
      have HOE : Hid (oft SA t = oft l t) := hid (HOS.out t)
      have HSL : Hid (SA.length = l.length) := hid HUS.out.2.2.1
      clear hW1 hc hd z3 u3 hx hy HA15 HLV HFI HOS HUS
      have tok1 : True := trivial
      go_wp2_with fail
      rw [← HW1.out]
      refine wp_mixC (fun wc => Below (W1.heap.size) W1 wc) 23 [.q [0, 1, 2, 3, 4, 5, 6, 7, 8, 9, 10, 11, 12, 14, 15, 16, 17, 18, 19], .f [13, 20], .q [21, 22]] [] (by kernel_rfl) (by kernel_rfl) ((Below.refl _ _).drew) ?_
      intro Q' hQ'
      (rw [wpMixC]; simp only [pick, List.drop_succ_cons, List.drop_zero, List.head?_cons, Option.toList_some, List.cons_append, List.nil_append])
      (repeat (first | go_big_quiet_skip | (go_big_quiet_want; refine quiet_simple rfl ?_; go_big_quiet_op; go_big_quiet_on) | (go_big_quiet_want; refine quiet_cellB (ty := 3) rfl rfl (by kernel_rfl) (by assumption) (by first | omega | (simp; omega)) ?_; simp only [Act.put, List.setIfInBounds_toArray, List.set_cons_succ, List.set_cons_zero]; go_big_quiet_on) | (go_big_quiet_want; refine quiet_agg4B (ty := 89) rfl rfl (by kernel_rfl) (by assumption) (by assumption) (by assumption) (by assumption) (by first | omega | (simp; omega)) ?_; simp only [Act.put, List.setIfInBounds_toArray, List.set_cons_succ, List.set_cons_zero]; go_big_quiet_on)))
      (try refine wpQuiet_nil ?_)
      (rw [wpMixC]; simp only [pick, List.drop_succ_cons, List.drop_zero, List.head?_cons, Option.toList_some, List.cons_append, List.nil_append])
      (rw [wpSteps]; go_wp2_with (first | (go_at_call 59; have htk := tok1; refine (HOF.out _ _ SA _ (HXA1.out.below (by (repeat (with_reducible first | exact Below.refl _ _ | assumption | refine Below.drewN _ ?_ | refine Below.drew ?_ | refine Below_alloc ?_ _ | refine Below.alloc ?_ (by first | (simp; done) | (simp; omega) | omega) _ | refine Below.setCell ?_ (by first | (simp; done) | (simp; omega) | omega) _ | refine Below_call ?_ (by assumption) | refine Below.trans ?_ (by assumption))))) HSL.out).mono ?_; rintro _ w16 ⟨rfl, hb16⟩; rw [HOE.out]; clear tok1 htk) | (go_at_call 59; refine (HOF.out _ _ l _ (HXL1.out.below (by (repeat (with_reducible first | exact Below.refl _ _ | assumption | refine Below.drewN _ ?_ | refine Below.drew ?_ | refine Below_alloc ?_ _ | refine Below.alloc ?_ (by first | (simp; done) | (simp; omega) | omega) _ | refine Below.setCell ?_ (by first | (simp; done) | (simp; omega) | omega) _ | refine Below_call ?_ (by assumption) | refine Below.trans ?_ (by assumption))))) rfl).mono ?_; rintro _ w17 ⟨rfl, hb17⟩)); rw [contF]; refine ⟨?_, ?_⟩; (next => (repeat (with_reducible first | exact Below.refl _ _ | assumption | refine Below.drewN _ ?_ | refine Below.drew ?_ | refine Below_alloc ?_ _ | refine Below.alloc ?_ (by first | (simp; done) | (simp; omega) | omega) _ | refine Below.setCell ?_ (by first | (simp; done) | (simp; omega) | omega) _ | refine Below_call ?_ (by assumption) | refine Below.trans ?_ (by assumption)))))
      (rw [wpSteps]; go_wp2_with (first | (go_at_call 59; have htk := tok1; refine (HOF.out _ _ SA _ (HXA1.out.below (by (repeat (with_reducible first | exact Below.refl _ _ | assumption | refine Below.drewN _ ?_ | refine Below.drew ?_ | refine Below_alloc ?_ _ | refine Below.alloc ?_ (by first | (simp; done) | (simp; omega) | omega) _ | refine Below.setCell ?_ (by first | (simp; done) | (simp; omega) | omega) _ | refine Below_call ?_ (by assumption) | refine Below.trans ?_ (by assumption))))) HSL.out).mono ?_; rintro _ w16 ⟨rfl, hb16⟩; rw [HOE.out]; clear tok1 htk) | (go_at_call 59; refine (HOF.out _ _ l _ (HXL1.out.below (by (repeat (with_reducible first | exact Below.refl _ _ | assumption | refine Below.drewN _ ?_ | refine Below.drew ?_ | refine Below_alloc ?_ _ | refine Below.alloc ?_ (by first | (simp; done) | (simp; omega) | omega) _ | refine Below.setCell ?_ (by first | (simp; done) | (simp; omega) | omega) _ | refine Below_call ?_ (by assumption) | refine Below.trans ?_ (by assumption))))) rfl).mono ?_; rintro _ w17 ⟨rfl, hb17⟩)); rw [contF]; refine ⟨?_, ?_⟩; (next => (repeat (with_reducible first | exact Below.refl _ _ | assumption | refine Below.drewN _ ?_ | refine Below.drew ?_ | refine Below_alloc ?_ _ | refine Below.alloc ?_ (by first | (simp; done) | (simp; omega) | omega) _ | refine Below.setCell ?_ (by first | (simp; done) | (simp; omega) | omega) _ | refine Below_call ?_ (by assumption) | refine Below.trans ?_ (by assumption)))))
      (rw [wpSteps])
      (rw [wpMixC]; simp only [pick, List.drop_succ_cons, List.drop_zero, List.head?_cons, Option.toList_some, List.cons_append, List.nil_append])
      (repeat (first | go_big_quiet_skip | (go_big_quiet_want; refine quiet_simple rfl ?_; go_big_quiet_op; go_big_quiet_on) | (go_big_quiet_want; refine quiet_cellB (ty := 3) rfl rfl (by kernel_rfl) (by assumption) (by first | omega | (simp; omega)) ?_; simp only [Act.put, List.setIfInBounds_toArray, List.set_cons_succ, List.set_cons_zero]; go_big_quiet_on) | (go_big_quiet_want; refine quiet_agg4B (ty := 89) rfl rfl (by kernel_rfl) (by assumption) (by assumption) (by assumption) (by assumption) (by first | omega | (simp; omega)) ?_; simp only [Act.put, List.setIfInBounds_toArray, List.set_cons_succ, List.set_cons_zero]; go_big_quiet_on)))
      (try refine wpQuiet_nil ?_)
      (rw [wpMixC])
      (rw [wpMix])
      (refine hQ' _ _ ?_)
      go_wp2_with fail
      go_roundw
      case rel => exact ⟨k + 1, by omega, by go_num, by (repeat (with_reducible first | exact Below.refl _ _ | assumption | refine Below.drewN _ ?_ | refine Below.drew ?_ | refine Below_alloc ?_ _ | refine Below.alloc ?_ (by first | (simp; done) | (simp; omega) | omega) _ | refine Below.setCell ?_ (by first | (simp; done) | (simp; omega) | omega) _ | refine Below_call ?_ (by assumption) | refine Below.trans ?_ (by assumption)))⟩
      case measure => simp [intOf]; omega
    · go_wp2_with fail
      go_ret
      exact ⟨rfl, hB⟩

end Go.Proofs.Ytllddidjiabegaa
