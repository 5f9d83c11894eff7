/- The law of methods, walked. -/
import Derived.Test.YtllddidjiabegaaBM3
import Derived.Test.YtllddidjiabegaaZ1
set_option linter.unusedVariables false
set_option linter.unusedSimpArgs false
namespace Go.Proofs.Ytllddidjiabegaa
open Go.RowKit

theorem RetIntsE_nil {W : World} {n : Int} {e : Ending} {w' : World} (h : RetIntsE W [] n e w') : ∃ ao cap, e = .returned (.tuple #[.slice ao 0 cap, .int .i64 n]) ∧ Below W.heap.size W w' := by
  obtain ⟨v, rfl, hv, hb⟩ := h
  obtain ⟨ao, cap, rfl, _⟩ := hv.opn
  exact ⟨ao, cap, rfl, hb⟩

set_option maxRecDepth 100000 in
set_option maxHeartbeats 8000000 in
theorem law_Methods (m : Meth) (cv : Value) (l : List Ev) (v : Value) (w : World) (hl : EventsAt w v l) (h : ClausesAt w cv m.cs) :
    Calls Try.prog 3 #[methV cv m.p m.fr m.to, v] w fun e w' => e = .returned (.bool true) ∧ Below w.heap.size w w' := by
  have HFew : Hid (∀ W, Below w.heap.size w W → Calls Try.prog 12 #[v] W fun e w' => e = .returned (.bool (decide ((l.length : Int) ≤ 14))) ∧ W = w') := hid (fun W hW => law_few l v W (hl.below hW))
  have HSm : Hid (∀ W, Below w.heap.size w W → Calls Try.prog 13 #[.agg #[cv, .int .i64 m.p, .int .i64 m.fr, .int .i64 m.to]] W fun e w' => e = .returned (.bool (smallB m.cs)) ∧ Below W.heap.size W w') := hid (fun W hW => law_Small m.cs cv m.p m.fr m.to W (h.below hW))
  have HL := hid hl
  have HC := hid h
  unfold methV
  by_cases hf : (l.length : Int) ≤ 14
  case neg =>
    clear hl h
    go_enter Try.func3, Try.ntmps3
    go_wp2_with (first | (go_at_call 11; refine (law_awake _).mono ?_; rintro _ w1 ⟨rfl, hb1⟩) | (go_at_call 12; refine (HFew.out _ (by (repeat (with_reducible first | exact Below.refl _ _ | assumption | refine Below.drewN _ ?_ | refine Below.drew ?_ | refine Below_alloc ?_ _ | refine Below.alloc ?_ (by first | (simp; done) | (simp; omega) | omega) _ | refine Below.setCell ?_ (by first | (simp; done) | (simp; omega) | omega) _ | refine Below_call ?_ (by assumption) | refine Below.trans ?_ (by assumption))))).mono ?_; rintro _ _ ⟨rfl, rfl⟩))
    go_ret
    exact ⟨rfl, by (repeat (with_reducible first | exact Below.refl _ _ | assumption | refine Below.drewN _ ?_ | refine Below.drew ?_ | refine Below_alloc ?_ _ | refine Below.alloc ?_ (by first | (simp; done) | (simp; omega) | omega) _ | refine Below.setCell ?_ (by first | (simp; done) | (simp; omega) | omega) _ | refine Below_call ?_ (by assumption) | refine Below.trans ?_ (by assumption)))⟩
  have hBX0 : BoxM (w.alloc (.cells #[cv, .int .i64 m.p, .int .i64 m.fr, .int .i64 m.to] 24)) w.heap.size cv m := ⟨by simp, by simp, by simp, by simp, by simp⟩
  have HBX := hid hBX0
  clear hBX0
  cases hs : smallB m.cs
  case false =>
    clear hl h
    go_enter Try.func3, Try.ntmps3
    go_wp2_with (first | (go_at_call 11; refine (law_awake _).mono ?_; rintro _ w1 ⟨rfl, hb1⟩; obtain ⟨hN, k0, k1, k2, k3⟩ := HBX.out.below hb1) | (go_at_call 12; refine (HFew.out _ (by (repeat (with_reducible first | exact Below.refl _ _ | assumption | refine Below.drewN _ ?_ | refine Below.drew ?_ | refine Below_alloc ?_ _ | refine Below.alloc ?_ (by first | (simp; done) | (simp; omega) | omega) _ | refine Below.setCell ?_ (by first | (simp; done) | (simp; omega) | omega) _ | refine Below_call ?_ (by assumption) | refine Below.trans ?_ (by assumption))))).mono ?_; rintro _ _ ⟨rfl, rfl⟩) | (go_at_call 13; refine (HSm.out _ (by (repeat (with_reducible first | exact Below.refl _ _ | assumption | refine Below.drewN _ ?_ | refine Below.drew ?_ | refine Below_alloc ?_ _ | refine Below.alloc ?_ (by first | (simp; done) | (simp; omega) | omega) _ | refine Below.setCell ?_ (by first | (simp; done) | (simp; omega) | omega) _ | refine Below_call ?_ (by assumption) | refine Below.trans ?_ (by assumption))))).mono ?_; rintro _ w2 ⟨rfl, hb2⟩))
    go_ret
    exact ⟨rfl, by (repeat (with_reducible first | exact Below.refl _ _ | assumption | refine Below.drewN _ ?_ | refine Below.drew ?_ | refine Below_alloc ?_ _ | refine Below.alloc ?_ (by first | (simp; done) | (simp; omega) | omega) _ | refine Below.setCell ?_ (by first | (simp; done) | (simp; omega) | omega) _ | refine Below_call ?_ (by assumption) | refine Below.trans ?_ (by assumption)))⟩
  have HCpM : Hid (∀ W, Below w.heap.size w W → Calls Try.prog 15 #[.agg #[cv, .int .i64 m.p, .int .i64 m.fr, .int .i64 m.to]] W fun e w' => ∃ u, e = .returned (methV u m.p m.fr m.to) ∧ ClausesAt w' u m.cs ∧ Below W.heap.size W w') := hid (fun W hW => ref_CopyMethod m.cs cv m.p m.fr m.to W (h.below hW) hs)
  have HCE : Hid (∀ W, Below w.heap.size w W → Calls Try.prog 17 #[v] W (RetEvents W l)) := hid (fun W hW => ref_CopyEvents l v W (hl.below hW) (by omega))
  have HCK : Hid (∀ W u, ClausesAt W u m.cs → Calls Try.prog 14 #[.agg #[u, .int .i64 m.p, .int .i64 m.fr, .int .i64 m.to]] W fun e w' => e = .returned (.tuple #[.int .i64 (methIdx m), .int .i64 (methErr m)]) ∧ Below W.heap.size W w') := hid (fun W u hu => blind_CheckMethod m u W hu)
  have HRK : Hid (∀ W, Below w.heap.size w W → Calls Try.prog 19 #[.agg #[cv, .int .i64 m.p, .int .i64 m.fr, .int .i64 m.to]] W fun e w' => e = .returned (.tuple #[.int .i64 (methIdx m), .int .i64 (methErr m)]) ∧ Below W.heap.size W w') := hid (fun W hW => ref_CheckMethod m cv W (h.below hW))
  have HAE : Hid (∀ W, Below w.heap.size w W → Calls Try.prog 20 #[v] W fun e w' => e = .returned (.int .i64 (anyErr l)) ∧ Below W.heap.size W w') := hid (fun W hW => ref_AnyErr l v W (hl.below hW))
  by_cases hE : methErr m = 0
  case neg =>
    obtain ⟨D, hD⟩ : ∃ D, D = methErr m := ⟨_, rfl⟩
    have hcb : cbErr m l = D := by simp [cbErr, firstNZ, hE, hD]
    have hD0 : D ≠ 0 := by rw [hD]; exact hE
    have hsb : sbList m l = [] := by simp [sbList, hcb, hD0]
    have hcn : cbN m l = 0 := by simp [cbN, hcb, hD0]
    have HSB : Hid (∀ W u x, ClausesAt W u m.cs → EventsAt W x l → Calls Try.prog 16 #[.agg #[u, .int .i64 m.p, .int .i64 m.fr, .int .i64 m.to], x] W fun e w' => ∃ ao cap, e = .returned (.tuple #[.slice ao 0 cap, .int .i64 D]) ∧ Below W.heap.size W w') := hid (fun W u x hu hx => (blind_SelectedBy m u l x W hx hu).mono (fun e w' hr => RetIntsE_nil (by rwa [hsb, hcb] at hr)))
    have HCB : Hid (∀ W u x, ClausesAt W u m.cs → EventsAt W x l → Calls Try.prog 18 #[.agg #[u, .int .i64 m.p, .int .i64 m.fr, .int .i64 m.to], x] W fun e w' => e = .returned (.tuple #[.int .i64 0, .int .i64 D]) ∧ Below W.heap.size W w') := hid (fun W u x hu hx => by have := blind_CountBy m u l x W hx hu; rwa [hcn, hcb] at this)
    rw [← hD] at HCK HRK
    have q1 : (D == 0) = false := by simpa using hD0
    have q2 : (D != 0) = true := by simpa using hD0
    clear hE hD hcb hD0 hsb hcn hl h HAE
    go_enter Try.func3, Try.ntmps3
    go_wp2_with (first | (go_at_call 11; refine (law_awake _).mono ?_; rintro _ w1 ⟨rfl, hb1⟩; obtain ⟨hN, k0, k1, k2, k3⟩ := HBX.out.below hb1) | (go_at_call 12; refine (HFew.out _ (by (repeat (with_reducible first | exact Below.refl _ _ | assumption | refine Below.drewN _ ?_ | refine Below.drew ?_ | refine Below_alloc ?_ _ | refine Below.alloc ?_ (by first | (simp; done) | (simp; omega) | omega) _ | refine Below.setCell ?_ (by first | (simp; done) | (simp; omega) | omega) _ | refine Below_call ?_ (by assumption) | refine Below.trans ?_ (by assumption))))).mono ?_; rintro _ _ ⟨rfl, rfl⟩) | (go_at_call 13; refine (HSm.out _ (by (repeat (with_reducible first | exact Below.refl _ _ | assumption | refine Below.drewN _ ?_ | refine Below.drew ?_ | refine Below_alloc ?_ _ | refine Below.alloc ?_ (by first | (simp; done) | (simp; omega) | omega) _ | refine Below.setCell ?_ (by first | (simp; done) | (simp; omega) | omega) _ | refine Below_call ?_ (by assumption) | refine Below.trans ?_ (by assumption))))).mono ?_; rintro _ w2 ⟨rfl, hb2⟩; obtain ⟨hN, k0, k1, k2, k3⟩ := HBX.out.below (w' := w2) (by (repeat (with_reducible first | exact Below.refl _ _ | assumption | refine Below.drewN _ ?_ | refine Below.drew ?_ | refine Below_alloc ?_ _ | refine Below.alloc ?_ (by first | (simp; done) | (simp; omega) | omega) _ | refine Below.setCell ?_ (by first | (simp; done) | (simp; omega) | omega) _ | refine Below_call ?_ (by assumption) | refine Below.trans ?_ (by assumption))))))
    refine (HCpM.out _ (by (repeat (with_reducible first | exact Below.refl _ _ | assumption | refine Below.drewN _ ?_ | refine Below.drew ?_ | refine Below_alloc ?_ _ | refine Below.alloc ?_ (by first | (simp; done) | (simp; omega) | omega) _ | refine Below.setCell ?_ (by first | (simp; done) | (simp; omega) | omega) _ | refine Below_call ?_ (by assumption) | refine Below.trans ?_ (by assumption))))).mono ?_
    rintro _ w3 ⟨u3, rfl, hu3, hb3⟩
    unfold methV
    obtain ⟨hN, k0, k1, k2, k3⟩ := HBX.out.below (w' := w3) (by (repeat (with_reducible first | exact Below.refl _ _ | assumption | refine Below.drewN _ ?_ | refine Below.drew ?_ | refine Below_alloc ?_ _ | refine Below.alloc ?_ (by first | (simp; done) | (simp; omega) | omega) _ | refine Below.setCell ?_ (by first | (simp; done) | (simp; omega) | omega) _ | refine Below_call ?_ (by assumption) | refine Below.trans ?_ (by assumption))))
    go_wp2_with fail
    refine (HCK.out _ _ hu3).mono ?_
    rintro _ w4 ⟨rfl, hb4⟩
    obtain ⟨hN, k0, k1, k2, k3⟩ := HBX.out.below (w' := w4) (by (repeat (with_reducible first | exact Below.refl _ _ | assumption | refine Below.drewN _ ?_ | refine Below.drew ?_ | refine Below_alloc ?_ _ | refine Below.alloc ?_ (by first | (simp; done) | (simp; omega) | omega) _ | refine Below.setCell ?_ (by first | (simp; done) | (simp; omega) | omega) _ | refine Below_call ?_ (by assumption) | refine Below.trans ?_ (by assumption))))
    go_wp2_with fail
    refine (HCpM.out _ (by (repeat (with_reducible first | exact Below.refl _ _ | assumption | refine Below.drewN _ ?_ | refine Below.drew ?_ | refine Below_alloc ?_ _ | refine Below.alloc ?_ (by first | (simp; done) | (simp; omega) | omega) _ | refine Below.setCell ?_ (by first | (simp; done) | (simp; omega) | omega) _ | refine Below_call ?_ (by assumption) | refine Below.trans ?_ (by assumption))))).mono ?_
    rintro _ w5 ⟨u5, rfl, hu5, hb5⟩
    unfold methV
    obtain ⟨hN, k0, k1, k2, k3⟩ := HBX.out.below (w' := w5) (by (repeat (with_reducible first | exact Below.refl _ _ | assumption | refine Below.drewN _ ?_ | refine Below.drew ?_ | refine Below_alloc ?_ _ | refine Below.alloc ?_ (by first | (simp; done) | (simp; omega) | omega) _ | refine Below.setCell ?_ (by first | (simp; done) | (simp; omega) | omega) _ | refine Below_call ?_ (by assumption) | refine Below.trans ?_ (by assumption))))
    go_wp2_with fail
    refine (HCE.out _ (by (repeat (with_reducible first | exact Below.refl _ _ | assumption | refine Below.drewN _ ?_ | refine Below.drew ?_ | refine Below_alloc ?_ _ | refine Below.alloc ?_ (by first | (simp; done) | (simp; omega) | omega) _ | refine Below.setCell ?_ (by first | (simp; done) | (simp; omega) | omega) _ | refine Below_call ?_ (by assumption) | refine Below.trans ?_ (by assumption))))).mono ?_
    rintro _ w6 ⟨x6, rfl, hx6, hb6⟩
    obtain ⟨hN, k0, k1, k2, k3⟩ := HBX.out.below (w' := w6) (by (repeat (with_reducible first | exact Below.refl _ _ | assumption | refine Below.drewN _ ?_ | refine Below.drew ?_ | refine Below_alloc ?_ _ | refine Below.alloc ?_ (by first | (simp; done) | (simp; omega) | omega) _ | refine Below.setCell ?_ (by first | (simp; done) | (simp; omega) | omega) _ | refine Below_call ?_ (by assumption) | refine Below.trans ?_ (by assumption))))
    go_wp2_with fail
    refine (HSB.out _ _ _ (hu5.below hb6) hx6).mono ?_
    rintro _ w7 ⟨ao7, cap7, rfl, hb7⟩
    obtain ⟨hN, k0, k1, k2, k3⟩ := HBX.out.below (w' := w7) (by (repeat (with_reducible first | exact Below.refl _ _ | assumption | refine Below.drewN _ ?_ | refine Below.drew ?_ | refine Below_alloc ?_ _ | refine Below.alloc ?_ (by first | (simp; done) | (simp; omega) | omega) _ | refine Below.setCell ?_ (by first | (simp; done) | (simp; omega) | omega) _ | refine Below_call ?_ (by assumption) | refine Below.trans ?_ (by assumption))))
    go_wp2_with fail
    refine (HCpM.out _ (by (repeat (with_reducible first | exact Below.refl _ _ | assumption | refine Below.drewN _ ?_ | refine Below.drew ?_ | refine Below_alloc ?_ _ | refine Below.alloc ?_ (by first | (simp; done) | (simp; omega) | omega) _ | refine Below.setCell ?_ (by first | (simp; done) | (simp; omega) | omega) _ | refine Below_call ?_ (by assumption) | refine Below.trans ?_ (by assumption))))).mono ?_
    rintro _ w8 ⟨u8, rfl, hu8, hb8⟩
    unfold methV
    obtain ⟨hN, k0, k1, k2, k3⟩ := HBX.out.below (w' := w8) (by (repeat (with_reducible first | exact Below.refl _ _ | assumption | refine Below.drewN _ ?_ | refine Below.drew ?_ | refine Below_alloc ?_ _ | refine Below.alloc ?_ (by first | (simp; done) | (simp; omega) | omega) _ | refine Below.setCell ?_ (by first | (simp; done) | (simp; omega) | omega) _ | refine Below_call ?_ (by assumption) | refine Below.trans ?_ (by assumption))))
    go_wp2_with fail
    refine (HCE.out _ (by (repeat (with_reducible first | exact Below.refl _ _ | assumption | refine Below.drewN _ ?_ | refine Below.drew ?_ | refine Below_alloc ?_ _ | refine Below.alloc ?_ (by first | (simp; done) | (simp; omega) | omega) _ | refine Below.setCell ?_ (by first | (simp; done) | (simp; omega) | omega) _ | refine Below_call ?_ (by assumption) | refine Below.trans ?_ (by assumption))))).mono ?_
    rintro _ w9 ⟨x9, rfl, hx9, hb9⟩
    obtain ⟨hN, k0, k1, k2, k3⟩ := HBX.out.below (w' := w9) (by (repeat (with_reducible first | exact Below.refl _ _ | assumption | refine Below.drewN _ ?_ | refine Below.drew ?_ | refine Below_alloc ?_ _ | refine Below.alloc ?_ (by first | (simp; done) | (simp; omega) | omega) _ | refine Below.setCell ?_ (by first | (simp; done) | (simp; omega) | omega) _ | refine Below_call ?_ (by assumption) | refine Below.trans ?_ (by assumption))))
    go_wp2_with fail
    refine (HCB.out _ _ _ (hu8.below hb9) hx9).mono ?_
    rintro _ w10 ⟨rfl, hb10⟩
    obtain ⟨hN, k0, k1, k2, k3⟩ := HBX.out.below (w' := w10) (by (repeat (with_reducible first | exact Below.refl _ _ | assumption | refine Below.drewN _ ?_ | refine Below.drew ?_ | refine Below_alloc ?_ _ | refine Below.alloc ?_ (by first | (simp; done) | (simp; omega) | omega) _ | refine Below.setCell ?_ (by first | (simp; done) | (simp; omega) | omega) _ | refine Below_call ?_ (by assumption) | refine Below.trans ?_ (by assumption))))
    go_wp2_with fail
    refine (HRK.out _ (by (repeat (with_reducible first | exact Below.refl _ _ | assumption | refine Below.drewN _ ?_ | refine Below.drew ?_ | refine Below_alloc ?_ _ | refine Below.alloc ?_ (by first | (simp; done) | (simp; omega) | omega) _ | refine Below.setCell ?_ (by first | (simp; done) | (simp; omega) | omega) _ | refine Below_call ?_ (by assumption) | refine Below.trans ?_ (by assumption))))).mono ?_
    rintro _ w11 ⟨rfl, hb11⟩
    obtain ⟨hN, k0, k1, k2, k3⟩ := HBX.out.below (w' := w11) (by (repeat (with_reducible first | exact Below.refl _ _ | assumption | refine Below.drewN _ ?_ | refine Below.drew ?_ | refine Below_alloc ?_ _ | refine Below.alloc ?_ (by first | (simp; done) | (simp; omega) | omega) _ | refine Below.setCell ?_ (by first | (simp; done) | (simp; omega) | omega) _ | refine Below_call ?_ (by assumption) | refine Below.trans ?_ (by assumption))))
    go_wp2_with fail
    go_ret
    exact ⟨by simp, by (repeat (with_reducible first | exact Below.refl _ _ | assumption | refine Below.drewN _ ?_ | refine Below.drew ?_ | refine Below_alloc ?_ _ | refine Below.alloc ?_ (by first | (simp; done) | (simp; omega) | omega) _ | refine Below.setCell ?_ (by first | (simp; done) | (simp; omega) | omega) _ | refine Below_call ?_ (by assumption) | refine Below.trans ?_ (by assumption)))⟩
  by_cases hA : anyErr l = 0
  case neg =>
    obtain ⟨D, hD⟩ : ∃ D, D = anyErr l := ⟨_, rfl⟩
    have hcb : cbErr m l = D := by simp [cbErr, firstNZ, hE, hA, hD]
    have hD0 : D ≠ 0 := by rw [hD]; exact hA
    have hsb : sbList m l = [] := by simp [sbList, hcb, hD0]
    have hcn : cbN m l = 0 := by simp [cbN, hcb, hD0]
    have HSB : Hid (∀ W u x, ClausesAt W u m.cs → EventsAt W x l → Calls Try.prog 16 #[.agg #[u, .int .i64 m.p, .int .i64 m.fr, .int .i64 m.to], x] W fun e w' => ∃ ao cap, e = .returned (.tuple #[.slice ao 0 cap, .int .i64 D]) ∧ Below W.heap.size W w') := hid (fun W u x hu hx => (blind_SelectedBy m u l x W hx hu).mono (fun e w' hr => RetIntsE_nil (by rwa [hsb, hcb] at hr)))
    have HCB : Hid (∀ W u x, ClausesAt W u m.cs → EventsAt W x l → Calls Try.prog 18 #[.agg #[u, .int .i64 m.p, .int .i64 m.fr, .int .i64 m.to], x] W fun e w' => e = .returned (.tuple #[.int .i64 0, .int .i64 D]) ∧ Below W.heap.size W w') := hid (fun W u x hu hx => by have := blind_CountBy m u l x W hx hu; rwa [hcn, hcb] at this)
    rw [hE] at HCK HRK
    rw [← hD] at HAE
    have q1 : (D == 0) = false := by simpa using hD0
    have q2 : (D != 0) = true := by simpa using hD0
    clear hE hA hD hcb hD0 hsb hcn hl h
    go_enter Try.func3, Try.ntmps3
    go_wp2_with (first | (go_at_call 11; refine (law_awake _).mono ?_; rintro _ w1 ⟨rfl, hb1⟩; obtain ⟨hN, k0, k1, k2, k3⟩ := HBX.out.below hb1) | (go_at_call 12; refine (HFew.out _ (by (repeat (with_reducible first | exact Below.refl _ _ | assumption | refine Below.drewN _ ?_ | refine Below.drew ?_ | refine Below_alloc ?_ _ | refine Below.alloc ?_ (by first | (simp; done) | (simp; omega) | omega) _ | refine Below.setCell ?_ (by first | (simp; done) | (simp; omega) | omega) _ | refine Below_call ?_ (by assumption) | refine Below.trans ?_ (by assumption))))).mono ?_; rintro _ _ ⟨rfl, rfl⟩) | (go_at_call 13; refine (HSm.out _ (by (repeat (with_reducible first | exact Below.refl _ _ | assumption | refine Below.drewN _ ?_ | refine Below.drew ?_ | refine Below_alloc ?_ _ | refine Below.alloc ?_ (by first | (simp; done) | (simp; omega) | omega) _ | refine Below.setCell ?_ (by first | (simp; done) | (simp; omega) | omega) _ | refine Below_call ?_ (by assumption) | refine Below.trans ?_ (by assumption))))).mono ?_; rintro _ w2 ⟨rfl, hb2⟩; obtain ⟨hN, k0, k1, k2, k3⟩ := HBX.out.below (w' := w2) (by (repeat (with_reducible first | exact Below.refl _ _ | assumption | refine Below.drewN _ ?_ | refine Below.drew ?_ | refine Below_alloc ?_ _ | refine Below.alloc ?_ (by first | (simp; done) | (simp; omega) | omega) _ | refine Below.setCell ?_ (by first | (simp; done) | (simp; omega) | omega) _ | refine Below_call ?_ (by assumption) | refine Below.trans ?_ (by assumption))))))
    refine (HCpM.out _ (by (repeat (with_reducible first | exact Below.refl _ _ | assumption | refine Below.drewN _ ?_ | refine Below.drew ?_ | refine Below_alloc ?_ _ | refine Below.alloc ?_ (by first | (simp; done) | (simp; omega) | omega) _ | refine Below.setCell ?_ (by first | (simp; done) | (simp; omega) | omega) _ | refine Below_call ?_ (by assumption) | refine Below.trans ?_ (by assumption))))).mono ?_
    rintro _ w3 ⟨u3, rfl, hu3, hb3⟩
    unfold methV
    obtain ⟨hN, k0, k1, k2, k3⟩ := HBX.out.below (w' := w3) (by (repeat (with_reducible first | exact Below.refl _ _ | assumption | refine Below.drewN _ ?_ | refine Below.drew ?_ | refine Below_alloc ?_ _ | refine Below.alloc ?_ (by first | (simp; done) | (simp; omega) | omega) _ | refine Below.setCell ?_ (by first | (simp; done) | (simp; omega) | omega) _ | refine Below_call ?_ (by assumption) | refine Below.trans ?_ (by assumption))))
    go_wp2_with fail
    refine (HCK.out _ _ hu3).mono ?_
    rintro _ w4 ⟨rfl, hb4⟩
    obtain ⟨hN, k0, k1, k2, k3⟩ := HBX.out.below (w' := w4) (by (repeat (with_reducible first | exact Below.refl _ _ | assumption | refine Below.drewN _ ?_ | refine Below.drew ?_ | refine Below_alloc ?_ _ | refine Below.alloc ?_ (by first | (simp; done) | (simp; omega) | omega) _ | refine Below.setCell ?_ (by first | (simp; done) | (simp; omega) | omega) _ | refine Below_call ?_ (by assumption) | refine Below.trans ?_ (by assumption))))
    go_wp2_with fail
    refine (HCpM.out _ (by (repeat (with_reducible first | exact Below.refl _ _ | assumption | refine Below.drewN _ ?_ | refine Below.drew ?_ | refine Below_alloc ?_ _ | refine Below.alloc ?_ (by first | (simp; done) | (simp; omega) | omega) _ | refine Below.setCell ?_ (by first | (simp; done) | (simp; omega) | omega) _ | refine Below_call ?_ (by assumption) | refine Below.trans ?_ (by assumption))))).mono ?_
    rintro _ w5 ⟨u5, rfl, hu5, hb5⟩
    unfold methV
    obtain ⟨hN, k0, k1, k2, k3⟩ := HBX.out.below (w' := w5) (by (repeat (with_reducible first | exact Below.refl _ _ | assumption | refine Below.drewN _ ?_ | refine Below.drew ?_ | refine Below_alloc ?_ _ | refine Below.alloc ?_ (by first | (simp; done) | (simp; omega) | omega) _ | refine Below.setCell ?_ (by first | (simp; done) | (simp; omega) | omega) _ | refine Below_call ?_ (by assumption) | refine Below.trans ?_ (by assumption))))
    go_wp2_with fail
    refine (HCE.out _ (by (repeat (with_reducible first | exact Below.refl _ _ | assumption | refine Below.drewN _ ?_ | refine Below.drew ?_ | refine Below_alloc ?_ _ | refine Below.alloc ?_ (by first | (simp; done) | (simp; omega) | omega) _ | refine Below.setCell ?_ (by first | (simp; done) | (simp; omega) | omega) _ | refine Below_call ?_ (by assumption) | refine Below.trans ?_ (by assumption))))).mono ?_
    rintro _ w6 ⟨x6, rfl, hx6, hb6⟩
    obtain ⟨hN, k0, k1, k2, k3⟩ := HBX.out.below (w' := w6) (by (repeat (with_reducible first | exact Below.refl _ _ | assumption | refine Below.drewN _ ?_ | refine Below.drew ?_ | refine Below_alloc ?_ _ | refine Below.alloc ?_ (by first | (simp; done) | (simp; omega) | omega) _ | refine Below.setCell ?_ (by first | (simp; done) | (simp; omega) | omega) _ | refine Below_call ?_ (by assumption) | refine Below.trans ?_ (by assumption))))
    go_wp2_with fail
    refine (HSB.out _ _ _ (hu5.below hb6) hx6).mono ?_
    rintro _ w7 ⟨ao7, cap7, rfl, hb7⟩
    obtain ⟨hN, k0, k1, k2, k3⟩ := HBX.out.below (w' := w7) (by (repeat (with_reducible first | exact Below.refl _ _ | assumption | refine Below.drewN _ ?_ | refine Below.drew ?_ | refine Below_alloc ?_ _ | refine Below.alloc ?_ (by first | (simp; done) | (simp; omega) | omega) _ | refine Below.setCell ?_ (by first | (simp; done) | (simp; omega) | omega) _ | refine Below_call ?_ (by assumption) | refine Below.trans ?_ (by assumption))))
    go_wp2_with fail
    refine (HCpM.out _ (by (repeat (with_reducible first | exact Below.refl _ _ | assumption | refine Below.drewN _ ?_ | refine Below.drew ?_ | refine Below_alloc ?_ _ | refine Below.alloc ?_ (by first | (simp; done) | (simp; omega) | omega) _ | refine Below.setCell ?_ (by first | (simp; done) | (simp; omega) | omega) _ | refine Below_call ?_ (by assumption) | refine Below.trans ?_ (by assumption))))).mono ?_
    rintro _ w8 ⟨u8, rfl, hu8, hb8⟩
    unfold methV
    obtain ⟨hN, k0, k1, k2, k3⟩ := HBX.out.below (w' := w8) (by (repeat (with_reducible first | exact Below.refl _ _ | assumption | refine Below.drewN _ ?_ | refine Below.drew ?_ | refine Below_alloc ?_ _ | refine Below.alloc ?_ (by first | (simp; done) | (simp; omega) | omega) _ | refine Below.setCell ?_ (by first | (simp; done) | (simp; omega) | omega) _ | refine Below_call ?_ (by assumption) | refine Below.trans ?_ (by assumption))))
    go_wp2_with fail
    refine (HCE.out _ (by (repeat (with_reducible first | exact Below.refl _ _ | assumption | refine Below.drewN _ ?_ | refine Below.drew ?_ | refine Below_alloc ?_ _ | refine Below.alloc ?_ (by first | (simp; done) | (simp; omega) | omega) _ | refine Below.setCell ?_ (by first | (simp; done) | (simp; omega) | omega) _ | refine Below_call ?_ (by assumption) | refine Below.trans ?_ (by assumption))))).mono ?_
    rintro _ w9 ⟨x9, rfl, hx9, hb9⟩
    obtain ⟨hN, k0, k1, k2, k3⟩ := HBX.out.below (w' := w9) (by (repeat (with_reducible first | exact Below.refl _ _ | assumption | refine Below.drewN _ ?_ | refine Below.drew ?_ | refine Below_alloc ?_ _ | refine Below.alloc ?_ (by first | (simp; done) | (simp; omega) | omega) _ | refine Below.setCell ?_ (by first | (simp; done) | (simp; omega) | omega) _ | refine Below_call ?_ (by assumption) | refine Below.trans ?_ (by assumption))))
    go_wp2_with fail
    refine (HCB.out _ _ _ (hu8.below hb9) hx9).mono ?_
    rintro _ w10 ⟨rfl, hb10⟩
    obtain ⟨hN, k0, k1, k2, k3⟩ := HBX.out.below (w' := w10) (by (repeat (with_reducible first | exact Below.refl _ _ | assumption | refine Below.drewN _ ?_ | refine Below.drew ?_ | refine Below_alloc ?_ _ | refine Below.alloc ?_ (by first | (simp; done) | (simp; omega) | omega) _ | refine Below.setCell ?_ (by first | (simp; done) | (simp; omega) | omega) _ | refine Below_call ?_ (by assumption) | refine Below.trans ?_ (by assumption))))
    go_wp2_with fail
    refine (HRK.out _ (by (repeat (with_reducible first | exact Below.refl _ _ | assumption | refine Below.drewN _ ?_ | refine Below.drew ?_ | refine Below_alloc ?_ _ | refine Below.alloc ?_ (by first | (simp; done) | (simp; omega) | omega) _ | refine Below.setCell ?_ (by first | (simp; done) | (simp; omega) | omega) _ | refine Below_call ?_ (by assumption) | refine Below.trans ?_ (by assumption))))).mono ?_
    rintro _ w11 ⟨rfl, hb11⟩
    obtain ⟨hN, k0, k1, k2, k3⟩ := HBX.out.below (w' := w11) (by (repeat (with_reducible first | exact Below.refl _ _ | assumption | refine Below.drewN _ ?_ | refine Below.drew ?_ | refine Below_alloc ?_ _ | refine Below.alloc ?_ (by first | (simp; done) | (simp; omega) | omega) _ | refine Below.setCell ?_ (by first | (simp; done) | (simp; omega) | omega) _ | refine Below_call ?_ (by assumption) | refine Below.trans ?_ (by assumption))))
    go_wp2_with fail
    refine (HAE.out _ (by (repeat (with_reducible first | exact Below.refl _ _ | assumption | refine Below.drewN _ ?_ | refine Below.drew ?_ | refine Below_alloc ?_ _ | refine Below.alloc ?_ (by first | (simp; done) | (simp; omega) | omega) _ | refine Below.setCell ?_ (by first | (simp; done) | (simp; omega) | omega) _ | refine Below_call ?_ (by assumption) | refine Below.trans ?_ (by assumption))))).mono ?_
    rintro _ w12 ⟨rfl, hb12⟩
    obtain ⟨hN, k0, k1, k2, k3⟩ := HBX.out.below (w' := w12) (by (repeat (with_reducible first | exact Below.refl _ _ | assumption | refine Below.drewN _ ?_ | refine Below.drew ?_ | refine Below_alloc ?_ _ | refine Below.alloc ?_ (by first | (simp; done) | (simp; omega) | omega) _ | refine Below.setCell ?_ (by first | (simp; done) | (simp; omega) | omega) _ | refine Below_call ?_ (by assumption) | refine Below.trans ?_ (by assumption))))
    go_wp2_with fail
    go_ret
    exact ⟨by simp, by (repeat (with_reducible first | exact Below.refl _ _ | assumption | refine Below.drewN _ ?_ | refine Below.drew ?_ | refine Below_alloc ?_ _ | refine Below.alloc ?_ (by first | (simp; done) | (simp; omega) | omega) _ | refine Below.setCell ?_ (by first | (simp; done) | (simp; omega) | omega) _ | refine Below_call ?_ (by assumption) | refine Below.trans ?_ (by assumption)))⟩
  have hcb : cbErr m l = 0 := by simp [cbErr, firstNZ, hE, hA]
  have hm := methErr_okM hE
  have hw := winErr_ok hm.2.2.2
  have ha := anyErr_ok hA
  have hsb : sbList m l = selUp m l l.length := by simp [sbList, hcb]
  have hcn : cbN m l = (numI (cntB m) l : Nat) := by simp [cbN, hcb]
  have HSB : Hid (∀ W u x, ClausesAt W u m.cs → EventsAt W x l → Calls Try.prog 16 #[.agg #[u, .int .i64 m.p, .int .i64 m.fr, .int .i64 m.to], x] W (RetIntsE W (selUp m l l.length) 0)) := hid (fun W u x hu hx => by have := blind_SelectedBy m u l x W hx hu; rwa [hsb, hcb] at this)
  have HCB : Hid (∀ W u x, ClausesAt W u m.cs → EventsAt W x l → Calls Try.prog 18 #[.agg #[u, .int .i64 m.p, .int .i64 m.fr, .int .i64 m.to], x] W fun e w' => e = .returned (.tuple #[.int .i64 (numI (cntB m) l : Nat), .int .i64 0]) ∧ Below W.heap.size W w') := hid (fun W u x hu hx => by have := blind_CountBy m u l x W hx hu; rwa [hcn, hcb] at this)
  have HSel : Hid (∀ W, Below w.heap.size w W → Calls Try.prog 22 #[.agg #[cv, .int .i64 m.p, .int .i64 m.fr, .int .i64 m.to], v] W (RetInts W (selUp m l l.length))) := hid (fun W hW => ref_Selected m cv l v W (hl.below hW) (h.below hW) hm.1 (by omega))
  have HCnt : Hid (∀ W, Below w.heap.size w W → Calls Try.prog 23 #[.agg #[cv, .int .i64 m.p, .int .i64 m.fr, .int .i64 m.to], v] W fun e w' => e = .returned (.int .i64 (numI (cntB m) l : Nat)) ∧ Below W.heap.size W w') := hid (fun W hW => ref_Count m cv l v W (hl.below hW) (h.below hW) hm.1 hw.1.1 hw.2.2.1 (by have := hw.2.2.2; have := hw.1.2; omega) (fun x hx => by have := ha.2 x hx; simp only [evB, Bool.and_eq_true, inB_true] at this; exact this.1.1.1.1) (by omega))
  rw [hE] at HCK HRK
  rw [hA] at HAE
  obtain ⟨SL, hSL⟩ : ∃ SL, SL = selUp m l l.length := ⟨_, rfl⟩
  rw [← hSL] at HSB HSel
  obtain ⟨K, hK⟩ : ∃ K, K = numI (cntB m) l := ⟨_, rfl⟩
  rw [← hK] at HCB HCnt
  clear hE hA hcb hm hw ha hsb hcn hSL hK hl h
  go_enter Try.func3, Try.ntmps3
  go_wp2_with (first | (go_at_call 11; refine (law_awake _).mono ?_; rintro _ w1 ⟨rfl, hb1⟩; obtain ⟨hN, k0, k1, k2, k3⟩ := HBX.out.below hb1) | (go_at_call 12; refine (HFew.out _ (by (repeat (with_reducible first | exact Below.refl _ _ | assumption | refine Below.drewN _ ?_ | refine Below.drew ?_ | refine Below_alloc ?_ _ | refine Below.alloc ?_ (by first | (simp; done) | (simp; omega) | omega) _ | refine Below.setCell ?_ (by first | (simp; done) | (simp; omega) | omega) _ | refine Below_call ?_ (by assumption) | refine Below.trans ?_ (by assumption))))).mono ?_; rintro _ _ ⟨rfl, rfl⟩) | (go_at_call 13; refine (HSm.out _ (by (repeat (with_reducible first | exact Below.refl _ _ | assumption | refine Below.drewN _ ?_ | refine Below.drew ?_ | refine Below_alloc ?_ _ | refine Below.alloc ?_ (by first | (simp; done) | (simp; omega) | omega) _ | refine Below.setCell ?_ (by first | (simp; done) | (simp; omega) | omega) _ | refine Below_call ?_ (by assumption) | refine Below.trans ?_ (by assumption))))).mono ?_; rintro _ w2 ⟨rfl, hb2⟩; obtain ⟨hN, k0, k1, k2, k3⟩ := HBX.out.below (w' := w2) (by (repeat (with_reducible first | exact Below.refl _ _ | assumption | refine Below.drewN _ ?_ | refine Below.drew ?_ | refine Below_alloc ?_ _ | refine Below.alloc ?_ (by first | (simp; done) | (simp; omega) | omega) _ | refine Below.setCell ?_ (by first | (simp; done) | (simp; omega) | omega) _ | refine Below_call ?_ (by assumption) | refine Below.trans ?_ (by assumption))))))
  refine (HCpM.out _ (by (repeat (with_reducible first | exact Below.refl _ _ | assumption | refine Below.drewN _ ?_ | refine Below.drew ?_ | refine Below_alloc ?_ _ | refine Below.alloc ?_ (by first | (simp; done) | (simp; omega) | omega) _ | refine Below.setCell ?_ (by first | (simp; done) | (simp; omega) | omega) _ | refine Below_call ?_ (by assumption) | refine Below.trans ?_ (by assumption))))).mono ?_
  rintro _ w3 ⟨u3, rfl, hu3, hb3⟩
  unfold methV
  obtain ⟨hN, k0, k1, k2, k3⟩ := HBX.out.below (w' := w3) (by (repeat (with_reducible first | exact Below.refl _ _ | assumption | refine Below.drewN _ ?_ | refine Below.drew ?_ | refine Below_alloc ?_ _ | refine Below.alloc ?_ (by first | (simp; done) | (simp; omega) | omega) _ | refine Below.setCell ?_ (by first | (simp; done) | (simp; omega) | omega) _ | refine Below_call ?_ (by assumption) | refine Below.trans ?_ (by assumption))))
  go_wp2_with fail
  refine (HCK.out _ _ hu3).mono ?_
  rintro _ w4 ⟨rfl, hb4⟩
  obtain ⟨hN, k0, k1, k2, k3⟩ := HBX.out.below (w' := w4) (by (repeat (with_reducible first | exact Below.refl _ _ | assumption | refine Below.drewN _ ?_ | refine Below.drew ?_ | refine Below_alloc ?_ _ | refine Below.alloc ?_ (by first | (simp; done) | (simp; omega) | omega) _ | refine Below.setCell ?_ (by first | (simp; done) | (simp; omega) | omega) _ | refine Below_call ?_ (by assumption) | refine Below.trans ?_ (by assumption))))
  go_wp2_with fail
  refine (HCpM.out _ (by (repeat (with_reducible first | exact Below.refl _ _ | assumption | refine Below.drewN _ ?_ | refine Below.drew ?_ | refine Below_alloc ?_ _ | refine Below.alloc ?_ (by first | (simp; done) | (simp; omega) | omega) _ | refine Below.setCell ?_ (by first | (simp; done) | (simp; omega) | omega) _ | refine Below_call ?_ (by assumption) | refine Below.trans ?_ (by assumption))))).mono ?_
  rintro _ w5 ⟨u5, rfl, hu5, hb5⟩
  unfold methV
  obtain ⟨hN, k0, k1, k2, k3⟩ := HBX.out.below (w' := w5) (by (repeat (with_reducible first | exact Below.refl _ _ | assumption | refine Below.drewN _ ?_ | refine Below.drew ?_ | refine Below_alloc ?_ _ | refine Below.alloc ?_ (by first | (simp; done) | (simp; omega) | omega) _ | refine Below.setCell ?_ (by first | (simp; done) | (simp; omega) | omega) _ | refine Below_call ?_ (by assumption) | refine Below.trans ?_ (by assumption))))
  go_wp2_with fail
  refine (HCE.out _ (by (repeat (with_reducible first | exact Below.refl _ _ | assumption | refine Below.drewN _ ?_ | refine Below.drew ?_ | refine Below_alloc ?_ _ | refine Below.alloc ?_ (by first | (simp; done) | (simp; omega) | omega) _ | refine Below.setCell ?_ (by first | (simp; done) | (simp; omega) | omega) _ | refine Below_call ?_ (by assumption) | refine Below.trans ?_ (by assumption))))).mono ?_
  rintro _ w6 ⟨x6, rfl, hx6, hb6⟩
  obtain ⟨hN, k0, k1, k2, k3⟩ := HBX.out.below (w' := w6) (by (repeat (with_reducible first | exact Below.refl _ _ | assumption | refine Below.drewN _ ?_ | refine Below.drew ?_ | refine Below_alloc ?_ _ | refine Below.alloc ?_ (by first | (simp; done) | (simp; omega) | omega) _ | refine Below.setCell ?_ (by first | (simp; done) | (simp; omega) | omega) _ | refine Below_call ?_ (by assumption) | refine Below.trans ?_ (by assumption))))
  go_wp2_with fail
  refine (HSB.out _ _ _ (hu5.below hb6) hx6).mono ?_
  rintro _ w7 ⟨sv, rfl, hsv, hb7⟩
  obtain ⟨hN, k0, k1, k2, k3⟩ := HBX.out.below (w' := w7) (by (repeat (with_reducible first | exact Below.refl _ _ | assumption | refine Below.drewN _ ?_ | refine Below.drew ?_ | refine Below_alloc ?_ _ | refine Below.alloc ?_ (by first | (simp; done) | (simp; omega) | omega) _ | refine Below.setCell ?_ (by first | (simp; done) | (simp; omega) | omega) _ | refine Below_call ?_ (by assumption) | refine Below.trans ?_ (by assumption))))
  go_wp2_with fail
  refine (HCpM.out _ (by (repeat (with_reducible first | exact Below.refl _ _ | assumption | refine Below.drewN _ ?_ | refine Below.drew ?_ | refine Below_alloc ?_ _ | refine Below.alloc ?_ (by first | (simp; done) | (simp; omega) | omega) _ | refine Below.setCell ?_ (by first | (simp; done) | (simp; omega) | omega) _ | refine Below_call ?_ (by assumption) | refine Below.trans ?_ (by assumption))))).mono ?_
  rintro _ w8 ⟨u8, rfl, hu8, hb8⟩
  unfold methV
  obtain ⟨hN, k0, k1, k2, k3⟩ := HBX.out.below (w' := w8) (by (repeat (with_reducible first | exact Below.refl _ _ | assumption | refine Below.drewN _ ?_ | refine Below.drew ?_ | refine Below_alloc ?_ _ | refine Below.alloc ?_ (by first | (simp; done) | (simp; omega) | omega) _ | refine Below.setCell ?_ (by first | (simp; done) | (simp; omega) | omega) _ | refine Below_call ?_ (by assumption) | refine Below.trans ?_ (by assumption))))
  go_wp2_with fail
  refine (HCE.out _ (by (repeat (with_reducible first | exact Below.refl _ _ | assumption | refine Below.drewN _ ?_ | refine Below.drew ?_ | refine Below_alloc ?_ _ | refine Below.alloc ?_ (by first | (simp; done) | (simp; omega) | omega) _ | refine Below.setCell ?_ (by first | (simp; done) | (simp; omega) | omega) _ | refine Below_call ?_ (by assumption) | refine Below.trans ?_ (by assumption))))).mono ?_
  rintro _ w9 ⟨x9, rfl, hx9, hb9⟩
  obtain ⟨hN, k0, k1, k2, k3⟩ := HBX.out.below (w' := w9) (by (repeat (with_reducible first | exact Below.refl _ _ | assumption | refine Below.drewN _ ?_ | refine Below.drew ?_ | refine Below_alloc ?_ _ | refine Below.alloc ?_ (by first | (simp; done) | (simp; omega) | omega) _ | refine Below.setCell ?_ (by first | (simp; done) | (simp; omega) | omega) _ | refine Below_call ?_ (by assumption) | refine Below.trans ?_ (by assumption))))
  go_wp2_with fail
  refine (HCB.out _ _ _ (hu8.below hb9) hx9).mono ?_
  rintro _ w10 ⟨rfl, hb10⟩
  obtain ⟨hN, k0, k1, k2, k3⟩ := HBX.out.below (w' := w10) (by (repeat (with_reducible first | exact Below.refl _ _ | assumption | refine Below.drewN _ ?_ | refine Below.drew ?_ | refine Below_alloc ?_ _ | refine Below.alloc ?_ (by first | (simp; done) | (simp; omega) | omega) _ | refine Below.setCell ?_ (by first | (simp; done) | (simp; omega) | omega) _ | refine Below_call ?_ (by assumption) | refine Below.trans ?_ (by assumption))))
  go_wp2_with fail
  refine (HRK.out _ (by (repeat (with_reducible first | exact Below.refl _ _ | assumption | refine Below.drewN _ ?_ | refine Below.drew ?_ | refine Below_alloc ?_ _ | refine Below.alloc ?_ (by first | (simp; done) | (simp; omega) | omega) _ | refine Below.setCell ?_ (by first | (simp; done) | (simp; omega) | omega) _ | refine Below_call ?_ (by assumption) | refine Below.trans ?_ (by assumption))))).mono ?_
  rintro _ w11 ⟨rfl, hb11⟩
  obtain ⟨hN, k0, k1, k2, k3⟩ := HBX.out.below (w' := w11) (by (repeat (with_reducible first | exact Below.refl _ _ | assumption | refine Below.drewN _ ?_ | refine Below.drew ?_ | refine Below_alloc ?_ _ | refine Below.alloc ?_ (by first | (simp; done) | (simp; omega) | omega) _ | refine Below.setCell ?_ (by first | (simp; done) | (simp; omega) | omega) _ | refine Below_call ?_ (by assumption) | refine Below.trans ?_ (by assumption))))
  go_wp2_with fail
  refine (HAE.out _ (by (repeat (with_reducible first | exact Below.refl _ _ | assumption | refine Below.drewN _ ?_ | refine Below.drew ?_ | refine Below_alloc ?_ _ | refine Below.alloc ?_ (by first | (simp; done) | (simp; omega) | omega) _ | refine Below.setCell ?_ (by first | (simp; done) | (simp; omega) | omega) _ | refine Below_call ?_ (by assumption) | refine Below.trans ?_ (by assumption))))).mono ?_
  rintro _ w12 ⟨rfl, hb12⟩
  obtain ⟨hN, k0, k1, k2, k3⟩ := HBX.out.below (w' := w12) (by (repeat (with_reducible first | exact Below.refl _ _ | assumption | refine Below.drewN _ ?_ | refine Below.drew ?_ | refine Below_alloc ?_ _ | refine Below.alloc ?_ (by first | (simp; done) | (simp; omega) | omega) _ | refine Below.setCell ?_ (by first | (simp; done) | (simp; omega) | omega) _ | refine Below_call ?_ (by assumption) | refine Below.trans ?_ (by assumption))))
  go_wp2_with fail
  refine (HSel.out _ (by (repeat (with_reducible first | exact Below.refl _ _ | assumption | refine Below.drewN _ ?_ | refine Below.drew ?_ | refine Below_alloc ?_ _ | refine Below.alloc ?_ (by first | (simp; done) | (simp; omega) | omega) _ | refine Below.setCell ?_ (by first | (simp; done) | (simp; omega) | omega) _ | refine Below_call ?_ (by assumption) | refine Below.trans ?_ (by assumption))))).mono ?_
  rintro _ w13 ⟨tv, rfl, htv, hb13⟩
  obtain ⟨hN, k0, k1, k2, k3⟩ := HBX.out.below (w' := w13) (by (repeat (with_reducible first | exact Below.refl _ _ | assumption | refine Below.drewN _ ?_ | refine Below.drew ?_ | refine Below_alloc ?_ _ | refine Below.alloc ?_ (by first | (simp; done) | (simp; omega) | omega) _ | refine Below.setCell ?_ (by first | (simp; done) | (simp; omega) | omega) _ | refine Below_call ?_ (by assumption) | refine Below.trans ?_ (by assumption))))
  go_wp2_with fail
  refine (intsB _ _ _ _ (hsv.below (by (repeat (with_reducible first | exact Below.refl _ _ | assumption | refine Below.drewN _ ?_ | refine Below.drew ?_ | refine Below_alloc ?_ _ | refine Below.alloc ?_ (by first | (simp; done) | (simp; omega) | omega) _ | refine Below.setCell ?_ (by first | (simp; done) | (simp; omega) | omega) _ | refine Below_call ?_ (by assumption) | refine Below.trans ?_ (by assumption))))) htv).mono ?_
  rintro _ w14 ⟨rfl, hb14⟩
  obtain ⟨hN, k0, k1, k2, k3⟩ := HBX.out.below (w' := w14) (by (repeat (with_reducible first | exact Below.refl _ _ | assumption | refine Below.drewN _ ?_ | refine Below.drew ?_ | refine Below_alloc ?_ _ | refine Below.alloc ?_ (by first | (simp; done) | (simp; omega) | omega) _ | refine Below.setCell ?_ (by first | (simp; done) | (simp; omega) | omega) _ | refine Below_call ?_ (by assumption) | refine Below.trans ?_ (by assumption))))
  go_wp2_with fail
  refine (HCnt.out _ (by (repeat (with_reducible first | exact Below.refl _ _ | assumption | refine Below.drewN _ ?_ | refine Below.drew ?_ | refine Below_alloc ?_ _ | refine Below.alloc ?_ (by first | (simp; done) | (simp; omega) | omega) _ | refine Below.setCell ?_ (by first | (simp; done) | (simp; omega) | omega) _ | refine Below_call ?_ (by assumption) | refine Below.trans ?_ (by assumption))))).mono ?_
  rintro _ w15 ⟨rfl, hb15⟩
  go_wp2_with fail
  go_ret
  exact ⟨rfl, by (repeat (with_reducible first | exact Below.refl _ _ | assumption | refine Below.drewN _ ?_ | refine Below.drew ?_ | refine Below_alloc ?_ _ | refine Below.alloc ?_ (by first | (simp; done) | (simp; omega) | omega) _ | refine Below.setCell ?_ (by first | (simp; done) | (simp; omega) | omega) _ | refine Below_call ?_ (by assumption) | refine Below.trans ?_ (by assumption)))⟩

end Go.Proofs.Ytllddidjiabegaa
