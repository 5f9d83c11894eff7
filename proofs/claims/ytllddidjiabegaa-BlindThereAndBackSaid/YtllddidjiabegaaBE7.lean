/- The law of events, walked. -/
import Derived.Test.YtllddidjiabegaaBE6
set_option linter.unusedVariables false
set_option linter.unusedSimpArgs false
namespace Go.Proofs.Ytllddidjiabegaa
open Go.RowKit

theorem RetEvE_nil {W : World} {n : Int} {e : Ending} {w' : World} (h : RetEvE W [] n e w') : ∃ ao cap, e = .returned (.tuple #[.slice ao 0 cap, .int .i64 n]) ∧ Below W.heap.size W w' := by
  obtain ⟨v, rfl, hv, hb⟩ := h
  obtain ⟨ao, cap, rfl, _⟩ := hv.opn
  exact ⟨ao, cap, rfl, hb⟩

theorem evSame (l : List Ev) (v u : Value) (W : World) (h : EventsAt W v l) (h' : EventsAt W u l) : Calls Try.prog 58 #[v, u] W fun e w' => e = .returned (.bool true) ∧ Below W.heap.size W w' := by
  have := ref_SameEvents l l v u W h h'
  simpa using this

set_option maxRecDepth 100000 in
set_option maxHeartbeats 8000000 in
theorem law_BlindEvents (l : List Ev) (v : Value) (key : Int) (w : World) (hl : EventsAt w v l) :
    Calls Try.prog 10 #[v, .int .i64 key] w fun e w' => e = .returned (.bool true) ∧ Below w.heap.size w w' := by
  have HFew : Hid (∀ W, Below w.heap.size w W → Calls Try.prog 12 #[v] W fun e w' => e = .returned (.bool (decide ((l.length : Int) ≤ 14))) ∧ W = w') := hid (fun W hW => law_few l v W (hl.below hW))
  by_cases hf : (l.length : Int) ≤ 14
  case neg =>
    have hfd : decide ((l.length : Int) ≤ 14) = false := by simpa using hf
    rw [hfd] at HFew
    clear hl
    go_enter Try.func10, Try.ntmps10
    go_wp2_with (first | (go_at_call 11; refine (law_awake _).mono ?_; rintro _ w1 ⟨rfl, hb1⟩) | (go_at_call 12; refine (HFew.out _ (by (repeat (with_reducible first | exact Below.refl _ _ | assumption | refine Below.drewN _ ?_ | refine Below.drew ?_ | refine Below_alloc ?_ _ | refine Below.alloc ?_ (by first | (simp; done) | (simp; omega) | omega) _ | refine Below.setCell ?_ (by first | (simp; done) | (simp; omega) | omega) _ | refine Below_call ?_ (by assumption) | refine Below.trans ?_ (by assumption))))).mono ?_; rintro _ _ ⟨rfl, rfl⟩))
    go_ret
    exact ⟨rfl, by (repeat (with_reducible first | exact Below.refl _ _ | assumption | refine Below.drewN _ ?_ | refine Below.drew ?_ | refine Below_alloc ?_ _ | refine Below.alloc ?_ (by first | (simp; done) | (simp; omega) | omega) _ | refine Below.setCell ?_ (by first | (simp; done) | (simp; omega) | omega) _ | refine Below_call ?_ (by assumption) | refine Below.trans ?_ (by assumption)))⟩
  have hfd : decide ((l.length : Int) ≤ 14) = true := by simpa using hf
  rw [hfd] at HFew
  have HCE : Hid (∀ W, Below w.heap.size w W → Calls Try.prog 17 #[v] W (RetEvents W l)) := hid (fun W hW => ref_CopyEvents l v W (hl.below hW) (by omega))
  have HCK : Hid (∀ W x, EventsAt W x l → Calls Try.prog 66 #[x] W fun e w' => e = .returned (.tuple #[.int .i64 (evsIdx l), .int .i64 (evsErr l)]) ∧ Below W.heap.size W w') := hid (fun W x hx => blind_CheckEvents l x W hx)
  have HRK : Hid (∀ W, Below w.heap.size w W → Calls Try.prog 67 #[v] W fun e w' => e = .returned (.tuple #[.int .i64 (evsIdx l), .int .i64 (evsErr l)]) ∧ Below W.heap.size W w') := hid (fun W hW => ref_CheckEvents l v W (hl.below hW))
  have HAE : Hid (∀ W, Below w.heap.size w W → Calls Try.prog 20 #[v] W fun e w' => e = .returned (.int .i64 (anyErr l)) ∧ Below W.heap.size W w') := hid (fun W hW => ref_AnyErr l v W (hl.below hW))
  obtain ⟨I, hI⟩ : ∃ I, I = evsIdx l := ⟨_, rfl⟩
  obtain ⟨E, hE⟩ : ∃ E, E = evsErr l := ⟨_, rfl⟩
  rw [← hI, ← hE] at HCK HRK
  clear hI hE
  by_cases hA : anyErr l = 0
  case neg =>
    obtain ⟨D, hD⟩ : ∃ D, D = anyErr l := ⟨_, rfl⟩
    have hD0 : D ≠ 0 := by rw [hD]; exact hA
    have hmv : moveErr l key = D := by rw [hD]; exact moveErr_one hA
    have hnScrambled : movScrambled l key = [] := by simp [movScrambled, hmv, hD0]
    have HSC : Hid (∀ W x, EventsAt W x l → Calls Try.prog 56 #[x, .int .i64 key] W fun e w' => ∃ ao cap, e = .returned (.tuple #[.slice ao 0 cap, .int .i64 D]) ∧ Below W.heap.size W w') := hid (fun W x hx => (blind_Scrambled l x key W hx).mono (fun e w' hr => RetEvE_nil (by rwa [hnScrambled, hmv] at hr)))
    have hnUnscrambled : movUnscrambled l key = [] := by simp [movUnscrambled, hmv, hD0]
    have HUN : Hid (∀ W x, EventsAt W x l → Calls Try.prog 57 #[x, .int .i64 key] W fun e w' => ∃ ao cap, e = .returned (.tuple #[.slice ao 0 cap, .int .i64 D]) ∧ Below W.heap.size W w') := hid (fun W x hx => (blind_Unscrambled l x key W hx).mono (fun e w' hr => RetEvE_nil (by rwa [hnUnscrambled, hmv] at hr)))
    rw [← hD] at HAE
    have q1 : (D == 0) = false := by simpa using hD0
    have q2 : (D != 0) = true := by simpa using hD0
    obtain ⟨ao0, cap0, rfl, -, -, -⟩ := hl.opn
    clear hA hD hD0 hmv hnScrambled hnUnscrambled hl
    go_enter Try.func10, Try.ntmps10
    go_wp2_with (first | (go_at_call 11; refine (law_awake _).mono ?_; rintro _ w1 ⟨rfl, hb1⟩) | (go_at_call 12; refine (HFew.out _ (by (repeat (with_reducible first | exact Below.refl _ _ | assumption | refine Below.drewN _ ?_ | refine Below.drew ?_ | refine Below_alloc ?_ _ | refine Below.alloc ?_ (by first | (simp; done) | (simp; omega) | omega) _ | refine Below.setCell ?_ (by first | (simp; done) | (simp; omega) | omega) _ | refine Below_call ?_ (by assumption) | refine Below.trans ?_ (by assumption))))).mono ?_; rintro _ _ ⟨rfl, rfl⟩))
    refine (HCE.out _ (by (repeat (with_reducible first | exact Below.refl _ _ | assumption | refine Below.drewN _ ?_ | refine Below.drew ?_ | refine Below_alloc ?_ _ | refine Below.alloc ?_ (by first | (simp; done) | (simp; omega) | omega) _ | refine Below.setCell ?_ (by first | (simp; done) | (simp; omega) | omega) _ | refine Below_call ?_ (by assumption) | refine Below.trans ?_ (by assumption))))).mono ?_
    rintro _ w2 ⟨x2, rfl, hx2, hb2⟩
    go_wp2_with fail
    refine (HCK.out _ _ hx2).mono ?_
    rintro _ w3 ⟨rfl, hb3⟩
    go_wp2_with fail
    refine (HCE.out _ (by (repeat (with_reducible first | exact Below.refl _ _ | assumption | refine Below.drewN _ ?_ | refine Below.drew ?_ | refine Below_alloc ?_ _ | refine Below.alloc ?_ (by first | (simp; done) | (simp; omega) | omega) _ | refine Below.setCell ?_ (by first | (simp; done) | (simp; omega) | omega) _ | refine Below_call ?_ (by assumption) | refine Below.trans ?_ (by assumption))))).mono ?_
    rintro _ w4 ⟨x4, rfl, hx4, hb4⟩
    go_wp2_with fail
    refine (HSC.out _ _ hx4).mono ?_
    rintro _ w5 ⟨ao5, c5, rfl, hb5⟩
    go_wp2_with fail
    refine (HCE.out _ (by (repeat (with_reducible first | exact Below.refl _ _ | assumption | refine Below.drewN _ ?_ | refine Below.drew ?_ | refine Below_alloc ?_ _ | refine Below.alloc ?_ (by first | (simp; done) | (simp; omega) | omega) _ | refine Below.setCell ?_ (by first | (simp; done) | (simp; omega) | omega) _ | refine Below_call ?_ (by assumption) | refine Below.trans ?_ (by assumption))))).mono ?_
    rintro _ w6 ⟨x6, rfl, hx6, hb6⟩
    go_wp2_with fail
    refine (HUN.out _ _ hx6).mono ?_
    rintro _ w7 ⟨ao7, c7, rfl, hb7⟩
    go_wp2_with fail
    refine (HRK.out _ (by (repeat (with_reducible first | exact Below.refl _ _ | assumption | refine Below.drewN _ ?_ | refine Below.drew ?_ | refine Below_alloc ?_ _ | refine Below.alloc ?_ (by first | (simp; done) | (simp; omega) | omega) _ | refine Below.setCell ?_ (by first | (simp; done) | (simp; omega) | omega) _ | refine Below_call ?_ (by assumption) | refine Below.trans ?_ (by assumption))))).mono ?_
    rintro _ w8 ⟨rfl, hb8⟩
    go_wp2_with fail
    refine (HAE.out _ (by (repeat (with_reducible first | exact Below.refl _ _ | assumption | refine Below.drewN _ ?_ | refine Below.drew ?_ | refine Below_alloc ?_ _ | refine Below.alloc ?_ (by first | (simp; done) | (simp; omega) | omega) _ | refine Below.setCell ?_ (by first | (simp; done) | (simp; omega) | omega) _ | refine Below_call ?_ (by assumption) | refine Below.trans ?_ (by assumption))))).mono ?_
    rintro _ w9 ⟨rfl, hb9⟩
    go_wp2_with fail
    go_ret
    exact ⟨by simp, by (repeat (with_reducible first | exact Below.refl _ _ | assumption | refine Below.drewN _ ?_ | refine Below.drew ?_ | refine Below_alloc ?_ _ | refine Below.alloc ?_ (by first | (simp; done) | (simp; omega) | omega) _ | refine Below.setCell ?_ (by first | (simp; done) | (simp; omega) | omega) _ | refine Below_call ?_ (by assumption) | refine Below.trans ?_ (by assumption)))⟩
  have hok := anyErr_ok hA
  have h12 := hok.1
  rw [hA] at HAE
  by_cases hK : keyErrS l.length key = 0
  case neg =>
    obtain ⟨D, hD⟩ : ∃ D, D = keyErrS l.length key := ⟨_, rfl⟩
    have hD0 : D ≠ 0 := by rw [hD]; exact hK
    have hmv : moveErr l key = D := by rw [hD]; exact moveErr_two hA
    have hnScrambled : movScrambled l key = [] := by simp [movScrambled, hmv, hD0]
    have HSC : Hid (∀ W x, EventsAt W x l → Calls Try.prog 56 #[x, .int .i64 key] W fun e w' => ∃ ao cap, e = .returned (.tuple #[.slice ao 0 cap, .int .i64 D]) ∧ Below W.heap.size W w') := hid (fun W x hx => (blind_Scrambled l x key W hx).mono (fun e w' hr => RetEvE_nil (by rwa [hnScrambled, hmv] at hr)))
    have hnUnscrambled : movUnscrambled l key = [] := by simp [movUnscrambled, hmv, hD0]
    have HUN : Hid (∀ W x, EventsAt W x l → Calls Try.prog 57 #[x, .int .i64 key] W fun e w' => ∃ ao cap, e = .returned (.tuple #[.slice ao 0 cap, .int .i64 D]) ∧ Below W.heap.size W w') := hid (fun W x hx => (blind_Unscrambled l x key W hx).mono (fun e w' hr => RetEvE_nil (by rwa [hnUnscrambled, hmv] at hr)))
    have HKE : Hid (∀ W, Calls Try.prog 55 #[.int .i64 l.length, .int .i64 key] W fun e w' => e = .returned (.int .i64 D) ∧ W = w') := hid (fun W => by rw [hD]; exact ref_KeyErr l.length key W (by omega))
    have q1 : (D == 0) = false := by simpa using hD0
    have q2 : (D != 0) = true := by simpa using hD0
    obtain ⟨ao0, cap0, rfl, -, -, -⟩ := hl.opn
    clear hA hD hD0 hmv hnScrambled hnUnscrambled hl hok h12 hK
    go_enter Try.func10, Try.ntmps10
    go_wp2_with (first | (go_at_call 11; refine (law_awake _).mono ?_; rintro _ w1 ⟨rfl, hb1⟩) | (go_at_call 12; refine (HFew.out _ (by (repeat (with_reducible first | exact Below.refl _ _ | assumption | refine Below.drewN _ ?_ | refine Below.drew ?_ | refine Below_alloc ?_ _ | refine Below.alloc ?_ (by first | (simp; done) | (simp; omega) | omega) _ | refine Below.setCell ?_ (by first | (simp; done) | (simp; omega) | omega) _ | refine Below_call ?_ (by assumption) | refine Below.trans ?_ (by assumption))))).mono ?_; rintro _ _ ⟨rfl, rfl⟩))
    refine (HCE.out _ (by (repeat (with_reducible first | exact Below.refl _ _ | assumption | refine Below.drewN _ ?_ | refine Below.drew ?_ | refine Below_alloc ?_ _ | refine Below.alloc ?_ (by first | (simp; done) | (simp; omega) | omega) _ | refine Below.setCell ?_ (by first | (simp; done) | (simp; omega) | omega) _ | refine Below_call ?_ (by assumption) | refine Below.trans ?_ (by assumption))))).mono ?_
    rintro _ w2 ⟨x2, rfl, hx2, hb2⟩
    go_wp2_with fail
    refine (HCK.out _ _ hx2).mono ?_
    rintro _ w3 ⟨rfl, hb3⟩
    go_wp2_with fail
    refine (HCE.out _ (by (repeat (with_reducible first | exact Below.refl _ _ | assumption | refine Below.drewN _ ?_ | refine Below.drew ?_ | refine Below_alloc ?_ _ | refine Below.alloc ?_ (by first | (simp; done) | (simp; omega) | omega) _ | refine Below.setCell ?_ (by first | (simp; done) | (simp; omega) | omega) _ | refine Below_call ?_ (by assumption) | refine Below.trans ?_ (by assumption))))).mono ?_
    rintro _ w4 ⟨x4, rfl, hx4, hb4⟩
    go_wp2_with fail
    refine (HSC.out _ _ hx4).mono ?_
    rintro _ w5 ⟨ao5, c5, rfl, hb5⟩
    go_wp2_with fail
    refine (HCE.out _ (by (repeat (with_reducible first | exact Below.refl _ _ | assumption | refine Below.drewN _ ?_ | refine Below.drew ?_ | refine Below_alloc ?_ _ | refine Below.alloc ?_ (by first | (simp; done) | (simp; omega) | omega) _ | refine Below.setCell ?_ (by first | (simp; done) | (simp; omega) | omega) _ | refine Below_call ?_ (by assumption) | refine Below.trans ?_ (by assumption))))).mono ?_
    rintro _ w6 ⟨x6, rfl, hx6, hb6⟩
    go_wp2_with fail
    refine (HUN.out _ _ hx6).mono ?_
    rintro _ w7 ⟨ao7, c7, rfl, hb7⟩
    go_wp2_with fail
    refine (HRK.out _ (by (repeat (with_reducible first | exact Below.refl _ _ | assumption | refine Below.drewN _ ?_ | refine Below.drew ?_ | refine Below_alloc ?_ _ | refine Below.alloc ?_ (by first | (simp; done) | (simp; omega) | omega) _ | refine Below.setCell ?_ (by first | (simp; done) | (simp; omega) | omega) _ | refine Below_call ?_ (by assumption) | refine Below.trans ?_ (by assumption))))).mono ?_
    rintro _ w8 ⟨rfl, hb8⟩
    go_wp2_with fail
    refine (HAE.out _ (by (repeat (with_reducible first | exact Below.refl _ _ | assumption | refine Below.drewN _ ?_ | refine Below.drew ?_ | refine Below_alloc ?_ _ | refine Below.alloc ?_ (by first | (simp; done) | (simp; omega) | omega) _ | refine Below.setCell ?_ (by first | (simp; done) | (simp; omega) | omega) _ | refine Below_call ?_ (by assumption) | refine Below.trans ?_ (by assumption))))).mono ?_
    rintro _ w9 ⟨rfl, hb9⟩
    go_wp2_with (go_at_call 55; refine (HKE.out _).mono ?_; rintro _ _ ⟨rfl, rfl⟩)
    go_ret
    exact ⟨by simp, by (repeat (with_reducible first | exact Below.refl _ _ | assumption | refine Below.drewN _ ?_ | refine Below.drew ?_ | refine Below_alloc ?_ _ | refine Below.alloc ?_ (by first | (simp; done) | (simp; omega) | omega) _ | refine Below.setCell ?_ (by first | (simp; done) | (simp; omega) | omega) _ | refine Below_call ?_ (by assumption) | refine Below.trans ?_ (by assumption)))⟩
  obtain ⟨m, rfl, hmf⟩ := keyErrS_ok h12 hK
  have hm := fac_le12 h12
  have hmv : moveErr l m = 0 := by rw [moveErr_two hA, hK]
  have hms : movScrambled l m = scr l m := by simp [movScrambled, hmv]
  have hmu : movUnscrambled l m = uns l m := by simp [movUnscrambled, hmv]
  have HSC : Hid (∀ W x, EventsAt W x l → Calls Try.prog 56 #[x, .int .i64 m] W (RetEvE W (scr l m) 0)) := hid (fun W x hx => by have := blind_Scrambled l x m W hx; rwa [hms, hmv] at this)
  have HUN : Hid (∀ W x, EventsAt W x l → Calls Try.prog 57 #[x, .int .i64 m] W (RetEvE W (uns l m) 0)) := hid (fun W x hx => by have := blind_Unscrambled l x m W hx; rwa [hmu, hmv] at this)
  have HKE : Hid (∀ W, Calls Try.prog 55 #[.int .i64 l.length, .int .i64 m] W fun e w' => e = .returned (.int .i64 0) ∧ W = w') := hid (fun W => by have := ref_KeyErr l.length m W (by omega); rwa [hK] at this)
  have HRS : Hid (∀ W, Below w.heap.size w W → Calls Try.prog 68 #[v, .int .i64 m] W (RetEvents W (scr l m))) := hid (fun W hW => ref_Scrambled l v m W (hl.below hW) h12 (by omega))
  have HRU : Hid (∀ W, Below w.heap.size w W → Calls Try.prog 69 #[v, .int .i64 m] W (RetEvents W (uns l m))) := hid (fun W hW => ref_Unscrambled l v m W (hl.below hW) h12 (by omega))
  have HSM : Hid (∀ W k x y, EventsAt W x k → EventsAt W y k → Calls Try.prog 58 #[x, y] W fun e w' => e = .returned (.bool true) ∧ Below W.heap.size W w') := hid (fun W k x y hx hy => evSame k x y W hx hy)
  obtain ⟨ao0, cap0, rfl, -, -, -⟩ := hl.opn
  clear hA hmv hms hmu hl hok h12 hK hmf hm
  go_enter Try.func10, Try.ntmps10
  go_wp2_with (first | (go_at_call 11; refine (law_awake _).mono ?_; rintro _ w1 ⟨rfl, hb1⟩) | (go_at_call 12; refine (HFew.out _ (by (repeat (with_reducible first | exact Below.refl _ _ | assumption | refine Below.drewN _ ?_ | refine Below.drew ?_ | refine Below_alloc ?_ _ | refine Below.alloc ?_ (by first | (simp; done) | (simp; omega) | omega) _ | refine Below.setCell ?_ (by first | (simp; done) | (simp; omega) | omega) _ | refine Below_call ?_ (by assumption) | refine Below.trans ?_ (by assumption))))).mono ?_; rintro _ _ ⟨rfl, rfl⟩))
  refine (HCE.out _ (by (repeat (with_reducible first | exact Below.refl _ _ | assumption | refine Below.drewN _ ?_ | refine Below.drew ?_ | refine Below_alloc ?_ _ | refine Below.alloc ?_ (by first | (simp; done) | (simp; omega) | omega) _ | refine Below.setCell ?_ (by first | (simp; done) | (simp; omega) | omega) _ | refine Below_call ?_ (by assumption) | refine Below.trans ?_ (by assumption))))).mono ?_
  rintro _ w2 ⟨x2, rfl, hx2, hb2⟩
  go_wp2_with fail
  refine (HCK.out _ _ hx2).mono ?_
  rintro _ w3 ⟨rfl, hb3⟩
  go_wp2_with fail
  refine (HCE.out _ (by (repeat (with_reducible first | exact Below.refl _ _ | assumption | refine Below.drewN _ ?_ | refine Below.drew ?_ | refine Below_alloc ?_ _ | refine Below.alloc ?_ (by first | (simp; done) | (simp; omega) | omega) _ | refine Below.setCell ?_ (by first | (simp; done) | (simp; omega) | omega) _ | refine Below_call ?_ (by assumption) | refine Below.trans ?_ (by assumption))))).mono ?_
  rintro _ w4 ⟨x4, rfl, hx4, hb4⟩
  go_wp2_with fail
  refine (HSC.out _ _ hx4).mono ?_
  rintro _ w5 ⟨a5, rfl, ha5, hb5⟩
  go_wp2_with fail
  refine (HCE.out _ (by (repeat (with_reducible first | exact Below.refl _ _ | assumption | refine Below.drewN _ ?_ | refine Below.drew ?_ | refine Below_alloc ?_ _ | refine Below.alloc ?_ (by first | (simp; done) | (simp; omega) | omega) _ | refine Below.setCell ?_ (by first | (simp; done) | (simp; omega) | omega) _ | refine Below_call ?_ (by assumption) | refine Below.trans ?_ (by assumption))))).mono ?_
  rintro _ w6 ⟨x6, rfl, hx6, hb6⟩
  go_wp2_with fail
  refine (HUN.out _ _ hx6).mono ?_
  rintro _ w7 ⟨a7, rfl, ha7, hb7⟩
  go_wp2_with fail
  refine (HRK.out _ (by (repeat (with_reducible first | exact Below.refl _ _ | assumption | refine Below.drewN _ ?_ | refine Below.drew ?_ | refine Below_alloc ?_ _ | refine Below.alloc ?_ (by first | (simp; done) | (simp; omega) | omega) _ | refine Below.setCell ?_ (by first | (simp; done) | (simp; omega) | omega) _ | refine Below_call ?_ (by assumption) | refine Below.trans ?_ (by assumption))))).mono ?_
  rintro _ w8 ⟨rfl, hb8⟩
  go_wp2_with fail
  refine (HAE.out _ (by (repeat (with_reducible first | exact Below.refl _ _ | assumption | refine Below.drewN _ ?_ | refine Below.drew ?_ | refine Below_alloc ?_ _ | refine Below.alloc ?_ (by first | (simp; done) | (simp; omega) | omega) _ | refine Below.setCell ?_ (by first | (simp; done) | (simp; omega) | omega) _ | refine Below_call ?_ (by assumption) | refine Below.trans ?_ (by assumption))))).mono ?_
  rintro _ w9 ⟨rfl, hb9⟩
  go_wp2_with (go_at_call 55; refine (HKE.out _).mono ?_; rintro _ _ ⟨rfl, rfl⟩)
  refine (HRS.out _ (by (repeat (with_reducible first | exact Below.refl _ _ | assumption | refine Below.drewN _ ?_ | refine Below.drew ?_ | refine Below_alloc ?_ _ | refine Below.alloc ?_ (by first | (simp; done) | (simp; omega) | omega) _ | refine Below.setCell ?_ (by first | (simp; done) | (simp; omega) | omega) _ | refine Below_call ?_ (by assumption) | refine Below.trans ?_ (by assumption))))).mono ?_
  rintro _ w10 ⟨s10, rfl, hs10, hb10⟩
  go_wp2_with fail
  refine (HSM.out _ _ _ _ (ha5.below (by (repeat (with_reducible first | exact Below.refl _ _ | assumption | refine Below.drewN _ ?_ | refine Below.drew ?_ | refine Below_alloc ?_ _ | refine Below.alloc ?_ (by first | (simp; done) | (simp; omega) | omega) _ | refine Below.setCell ?_ (by first | (simp; done) | (simp; omega) | omega) _ | refine Below_call ?_ (by assumption) | refine Below.trans ?_ (by assumption))))) hs10).mono ?_
  rintro _ w11 ⟨rfl, hb11⟩
  go_wp2_with fail
  refine (HRU.out _ (by (repeat (with_reducible first | exact Below.refl _ _ | assumption | refine Below.drewN _ ?_ | refine Below.drew ?_ | refine Below_alloc ?_ _ | refine Below.alloc ?_ (by first | (simp; done) | (simp; omega) | omega) _ | refine Below.setCell ?_ (by first | (simp; done) | (simp; omega) | omega) _ | refine Below_call ?_ (by assumption) | refine Below.trans ?_ (by assumption))))).mono ?_
  rintro _ w12 ⟨s12, rfl, hs12, hb12⟩
  go_wp2_with fail
  refine (HSM.out _ _ _ _ (ha7.below (by (repeat (with_reducible first | exact Below.refl _ _ | assumption | refine Below.drewN _ ?_ | refine Below.drew ?_ | refine Below_alloc ?_ _ | refine Below.alloc ?_ (by first | (simp; done) | (simp; omega) | omega) _ | refine Below.setCell ?_ (by first | (simp; done) | (simp; omega) | omega) _ | refine Below_call ?_ (by assumption) | refine Below.trans ?_ (by assumption))))) hs12).mono ?_
  rintro _ w13 ⟨rfl, hb13⟩
  go_wp2_with fail
  go_ret
  exact ⟨rfl, by (repeat (with_reducible first | exact Below.refl _ _ | assumption | refine Below.drewN _ ?_ | refine Below.drew ?_ | refine Below_alloc ?_ _ | refine Below.alloc ?_ (by first | (simp; done) | (simp; omega) | omega) _ | refine Below.setCell ?_ (by first | (simp; done) | (simp; omega) | omega) _ | refine Below_call ?_ (by assumption) | refine Below.trans ?_ (by assumption)))⟩

end Go.Proofs.Ytllddidjiabegaa
