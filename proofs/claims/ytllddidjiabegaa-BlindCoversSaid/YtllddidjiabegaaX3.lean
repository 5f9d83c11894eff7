/- CountBy, SelectedBy. -/
import Derived.Test.YtllddidjiabegaaX2
set_option linter.unusedVariables false
set_option linter.unusedSimpArgs false
namespace Go.Proofs.Ytllddidjiabegaa
open Go.RowKit

def cbErr (m : Meth) (l : List Ev) : Int := firstNZ [methErr m, anyErr l]
def cbN (m : Meth) (l : List Ev) : Int := if cbErr m l = 0 then (numI (cntB m) l : Int) else 0
def selUp (m : Meth) (l : List Ev) : Nat → List Int
  | 0 => []
  | k + 1 => if selL (evAt l k) m.cs = true then selUp m l k ++ [(k : Int)] else selUp m l k
theorem selUp_len (m : Meth) (l : List Ev) (k : Nat) : (selUp m l k).length ≤ k := by
  induction k with
  | zero => simp [selUp]
  | succ k ih =>
    simp only [selUp]; split
    · simp; omega
    · omega
def sbList (m : Meth) (l : List Ev) : List Int := if cbErr m l = 0 then selUp m l l.length else []
theorem cbErr_ok {m : Meth} {l : List Ev} (h : cbErr m l = 0) : methErr m = 0 ∧ anyErr l = 0 := by
  unfold cbErr at h
  rw [firstNZ_zero] at h
  exact ⟨h _ (by simp), h _ (by simp)⟩

set_option maxRecDepth 100000 in
theorem blind_CountBy (m : Meth) (cv : Value) (l : List Ev) (v : Value) (w : World) (hl : EventsAt w v l) (h : ClausesAt w cv m.cs) :
    Calls Try.prog 18 #[methV cv m.p m.fr m.to, v] w fun e w' => e = .returned (.tuple #[.int .i64 (cbN m l), .int .i64 (cbErr m l)]) ∧ Below w.heap.size w w' := by
  have HM : Hid (∀ W, Below w.heap.size w W → Calls Try.prog 79 #[.agg #[cv, .int .i64 m.p, .int .i64 m.fr, .int .i64 m.to]] W fun e w' => e = .returned (.int .i64 (methErr m)) ∧ Below W.heap.size W w') := hid (fun W hW => blind_methodErr m cv W (h.below hW))
  have HL : Hid (∀ W, Below w.heap.size w W → Calls Try.prog 80 #[v] W fun e w' => e = .returned (.int .i64 (anyErr l)) ∧ Below W.heap.size W w') := hid (fun W hW => blind_looseErr l v W (hl.below hW))
  by_cases he : cbErr m l = 0
  · have hok := cbErr_ok he
    have hm := methErr_okM hok.1
    have hw := winErr_ok hm.2.2.2
    have ha := anyErr_ok hok.2
    have HC : Hid (∀ W, Below w.heap.size w W → Calls Try.prog 82 #[.agg #[cv, .int .i64 m.p, .int .i64 m.fr, .int .i64 m.to], v] W fun e w' => e = .returned (.int .i64 (numI (cntB m) l : Nat)) ∧ Below W.heap.size W w') := hid (fun W hW => blind_count m cv l v W (hl.below hW) (h.below hW) hm.1 hw.1.1 hw.2.2.1 (fun x hx => by
      have := ha.2 x hx
      simp only [evB, Bool.and_eq_true, inB_true] at this
      exact this.1.1.1.1) (by have := ha.1; omega))
    have he' : (firstNZ [methErr m, anyErr l] != 0) = false := by simpa [cbErr] using he
    have HE := hid he
    have HN : Hid (cbN m l = (numI (cntB m) l : Nat)) := hid (by simp [cbN, he])
    clear he hok hm hw ha h hl
    unfold methV
    go_enter Try.func18, Try.ntmps18
    go_wp2_with (first | (go_at_call 79; refine (HM.out _ (by (repeat (with_reducible first | exact Below.refl _ _ | assumption | refine Below.drewN _ ?_ | refine Below.drew ?_ | refine Below_alloc ?_ _ | refine Below.alloc ?_ (by first | (simp; done) | (simp; omega) | omega) _ | refine Below.setCell ?_ (by first | (simp; done) | (simp; omega) | omega) _ | refine Below_call ?_ (by assumption) | refine Below.trans ?_ (by assumption))))).mono ?_; rintro _ w1 ⟨rfl, hb1⟩; have y := bcell hb1; have y0 := y.1 w.heap.size 0 (by simp); have y1 := y.1 w.heap.size 1 (by simp); have y2 := y.1 w.heap.size 2 (by simp); have y3 := y.1 w.heap.size 3 (by simp); simp at y0 y1 y2 y3; have hz1 := hb1.size; simp at hz1; clear y) | (go_at_call 80; refine (HL.out _ (by (repeat (with_reducible first | exact Below.refl _ _ | assumption | refine Below.drewN _ ?_ | refine Below.drew ?_ | refine Below_alloc ?_ _ | refine Below.alloc ?_ (by first | (simp; done) | (simp; omega) | omega) _ | refine Below.setCell ?_ (by first | (simp; done) | (simp; omega) | omega) _ | refine Below_call ?_ (by assumption) | refine Below.trans ?_ (by assumption))))).mono ?_; rintro _ w2 ⟨rfl, hb2⟩; have z := bcell hb2; have z0 := (z.1 w.heap.size 0 (by omega)).trans y0; have z1 := (z.1 w.heap.size 1 (by omega)).trans y1; have z2 := (z.1 w.heap.size 2 (by omega)).trans y2; have z3 := (z.1 w.heap.size 3 (by omega)).trans y3; have hz2 := hb2.size; have hk2 : w.heap.size < w2.heap.size := (by omega); clear z) | (go_at_call 75; refine (blind_first [methErr m, anyErr l] _ _ (intsAt_new _ _ _ _ _ rfl (by simp) (by simp))).mono ?_; rintro _ _ ⟨rfl, rfl⟩) | (go_at_call 82; refine (HC.out _ (by (repeat (with_reducible first | exact Below.refl _ _ | assumption | refine Below.drewN _ ?_ | refine Below.drew ?_ | refine Below_alloc ?_ _ | refine Below.alloc ?_ (by first | (simp; done) | (simp; omega) | omega) _ | refine Below.setCell ?_ (by first | (simp; done) | (simp; omega) | omega) _ | refine Below_call ?_ (by assumption) | refine Below.trans ?_ (by assumption))))).mono ?_; rintro _ w3 ⟨rfl, hb3⟩))
    go_ret2
    exact ⟨by simp [HN.out, HE.out], by (repeat (with_reducible first | exact Below.refl _ _ | assumption | refine Below.drewN _ ?_ | refine Below.drew ?_ | refine Below_alloc ?_ _ | refine Below.alloc ?_ (by first | (simp; done) | (simp; omega) | omega) _ | refine Below.setCell ?_ (by first | (simp; done) | (simp; omega) | omega) _ | refine Below_call ?_ (by assumption) | refine Below.trans ?_ (by assumption)))⟩
  · have he' : (firstNZ [methErr m, anyErr l] != 0) = true := by simpa [cbErr] using he
    have HE := hid he
    clear he h hl
    unfold methV
    go_enter Try.func18, Try.ntmps18
    go_wp2_with (first | (go_at_call 79; refine (HM.out _ (by (repeat (with_reducible first | exact Below.refl _ _ | assumption | refine Below.drewN _ ?_ | refine Below.drew ?_ | refine Below_alloc ?_ _ | refine Below.alloc ?_ (by first | (simp; done) | (simp; omega) | omega) _ | refine Below.setCell ?_ (by first | (simp; done) | (simp; omega) | omega) _ | refine Below_call ?_ (by assumption) | refine Below.trans ?_ (by assumption))))).mono ?_; rintro _ w1 ⟨rfl, hb1⟩) | (go_at_call 80; refine (HL.out _ (by (repeat (with_reducible first | exact Below.refl _ _ | assumption | refine Below.drewN _ ?_ | refine Below.drew ?_ | refine Below_alloc ?_ _ | refine Below.alloc ?_ (by first | (simp; done) | (simp; omega) | omega) _ | refine Below.setCell ?_ (by first | (simp; done) | (simp; omega) | omega) _ | refine Below_call ?_ (by assumption) | refine Below.trans ?_ (by assumption))))).mono ?_; rintro _ w2 ⟨rfl, hb2⟩) | (go_at_call 75; refine (blind_first [methErr m, anyErr l] _ _ (intsAt_new _ _ _ _ _ rfl (by simp) (by simp))).mono ?_; rintro _ _ ⟨rfl, rfl⟩))
    go_ret2
    exact ⟨by simp [cbN, HE.out]; rfl, by (repeat (with_reducible first | exact Below.refl _ _ | assumption | refine Below.drewN _ ?_ | refine Below.drew ?_ | refine Below_alloc ?_ _ | refine Below.alloc ?_ (by first | (simp; done) | (simp; omega) | omega) _ | refine Below.setCell ?_ (by first | (simp; done) | (simp; omega) | omega) _ | refine Below_call ?_ (by assumption) | refine Below.trans ?_ (by assumption)))⟩

set_option maxRecDepth 100000 in
set_option maxHeartbeats 1000000 in
theorem blind_SelectedBy (m : Meth) (cv : Value) (l : List Ev) (v : Value) (w : World) (hl : EventsAt w v l) (h : ClausesAt w cv m.cs) :
    Calls Try.prog 16 #[methV cv m.p m.fr m.to, v] w (RetIntsE w (sbList m l) (cbErr m l)) := by
  have HM : Hid (∀ W, Below w.heap.size w W → Calls Try.prog 79 #[.agg #[cv, .int .i64 m.p, .int .i64 m.fr, .int .i64 m.to]] W fun e w' => e = .returned (.int .i64 (methErr m)) ∧ Below W.heap.size W w') := hid (fun W hW => blind_methodErr m cv W (h.below hW))
  have HL : Hid (∀ W, Below w.heap.size w W → Calls Try.prog 80 #[v] W fun e w' => e = .returned (.int .i64 (anyErr l)) ∧ Below W.heap.size W w') := hid (fun W hW => blind_looseErr l v W (hl.below hW))
  by_cases he : cbErr m l = 0
  · have hok := cbErr_ok he
    have hm := methErr_okM hok.1
    have ha := anyErr_ok hok.2
    have hl12 := ha.1
    obtain ⟨ao, cap, rfl, h1, h2, h3⟩ := hl.opn
    unfold maxLen at h2
    have HC : Hid (∀ W t en ze hi, Below w.heap.size w W → Calls Try.prog 81 #[.agg #[cv, .int .i64 m.p, .int .i64 m.fr, .int .i64 m.to], .agg #[.int .i64 t, .int .i64 en, .int .i64 ze, .int .i64 hi]] W fun e w' => e = .returned (.bool (selL ⟨t, en, ze, hi⟩ m.cs)) ∧ Below W.heap.size W w') := hid (fun W t en ze hi hW => blind_selects m.cs cv m.p m.fr m.to t en ze hi W (h.below hW) hm.1)
    have he' : (firstNZ [methErr m, anyErr l] != 0) = false := by simpa [cbErr] using he
    have HE := hid he
    have HN : Hid (sbList m l = selUp m l l.length) := hid (by simp [sbList, he])
    clear he hok hm ha h hl
    unfold methV
    go_enter Try.func16, Try.ntmps16
    go_wp2_with (first | (go_at_call 79; refine (HM.out _ (by (repeat (with_reducible first | exact Below.refl _ _ | assumption | refine Below.drewN _ ?_ | refine Below.drew ?_ | refine Below_alloc ?_ _ | refine Below.alloc ?_ (by first | (simp; done) | (simp; omega) | omega) _ | refine Below.setCell ?_ (by first | (simp; done) | (simp; omega) | omega) _ | refine Below_call ?_ (by assumption) | refine Below.trans ?_ (by assumption))))).mono ?_; rintro _ w1 ⟨rfl, hb1⟩; have y := bcell hb1; have y0 := y.1 w.heap.size 0 (by simp); have y1 := y.1 w.heap.size 1 (by simp); have y2 := y.1 w.heap.size 2 (by simp); have y3 := y.1 w.heap.size 3 (by simp); simp at y0 y1 y2 y3; have hz1 := hb1.size; simp at hz1; clear y) | (go_at_call 80; refine (HL.out _ (by (repeat (with_reducible first | exact Below.refl _ _ | assumption | refine Below.drewN _ ?_ | refine Below.drew ?_ | refine Below_alloc ?_ _ | refine Below.alloc ?_ (by first | (simp; done) | (simp; omega) | omega) _ | refine Below.setCell ?_ (by first | (simp; done) | (simp; omega) | omega) _ | refine Below_call ?_ (by assumption) | refine Below.trans ?_ (by assumption))))).mono ?_; rintro _ w2 ⟨rfl, hb2⟩; have z := bcell hb2; have z0 := (z.1 w.heap.size 0 (by omega)).trans y0; have z1 := (z.1 w.heap.size 1 (by omega)).trans y1; have z2 := (z.1 w.heap.size 2 (by omega)).trans y2; have z3 := (z.1 w.heap.size 3 (by omega)).trans y3; have hz2 := hb2.size; have hk2 : w.heap.size < w2.heap.size := (by omega); clear z) | (go_at_call 75; refine (blind_first [methErr m, anyErr l] _ _ (intsAt_new _ _ _ _ _ rfl (by simp) (by simp))).mono ?_; rintro _ _ ⟨rfl, rfl⟩))
    obtain ⟨W0, hW0⟩ : ∃ W0, W0 = w2.alloc (.cells #[.int .i64 (methErr m), .int .i64 (anyErr l)] 29) := ⟨_, rfl⟩
    rw [← hW0]
    have hbW : Below w2.heap.size w2 W0 := by rw [hW0]; exact (Below.refl _ _).alloc (Nat.le_refl _) _
    have s0 := ((bcell hbW).1 _ 0 hk2).trans z0
    have s1 := ((bcell hbW).1 _ 1 hk2).trans z1
    have s2 := ((bcell hbW).1 _ 2 hk2).trans z2
    have s3 := ((bcell hbW).1 _ 3 hk2).trans z3
    have hk0 : w.heap.size < W0.heap.size := Nat.lt_of_lt_of_le hk2 hbW.size
    have hBW : Below w.heap.size w W0 := by (repeat (with_reducible first | exact Below.refl _ _ | assumption | refine Below.drewN _ ?_ | refine Below.drew ?_ | refine Below_alloc ?_ _ | refine Below.alloc ?_ (by first | (simp; done) | (simp; omega) | omega) _ | refine Below.setCell ?_ (by first | (simp; done) | (simp; omega) | omega) _ | refine Below_call ?_ (by assumption) | refine Below.trans ?_ (by assumption)))
    clear hW0 z0 z1 z2 z3 y0 y1 y2 y3 hbW hb1 hb2 hz1 hz2 hk2
    go_loopw [7, 21] (fun o i wr => ∃ k : Nat, k ≤ l.length ∧ i = .int .i64 k ∧ wr.ownsRow W0.heap.size 3 1 o (selUp m l k).length ((selUp m l k).map (Value.int .i64)) ∧ Below W0.heap.size W0 wr) (fun _ i _ => l.length - (intOf i).toNat)
    case atStart => exact ⟨0, Nat.zero_le _, rfl, World.ownsRow_nil _ _ _ _, Below.refl _ _⟩
    case round =>
      obtain ⟨k, hk, rfl, hown, hbel⟩ := hrel
      have hzw := hbel.size
      by_cases hlt : k < l.length
      · obtain ⟨b, off, rfl, hb, hc⟩ := h3 k hlt
        obtain ⟨c0, c1, c2, c3⟩ := hc k hlt
        have hB : Below w.heap.size w wr := hBW.trans (hbel.mono hBW.size)
        obtain ⟨hcb, hfb⟩ := bcell hB
        rw [← hcb b _ hb] at c0 c1 c2 c3
        obtain ⟨hcb2, hfb2⟩ := bcell hbel
        have t0 := (hcb2 _ 0 hk0).trans s0
        have t1 := (hcb2 _ 1 hk0).trans s1
        have t2 := (hcb2 _ 2 hk0).trans s2
        have t3 := (hcb2 _ 3 hk0).trans s3
        have hkw : w.heap.size < wr.heap.size := by omega
        obtain ⟨x, hx⟩ : ∃ x, x = evAt l k := ⟨_, rfl⟩
        have HSU : Hid (selUp m l (k + 1) = if selL x m.cs = true then selUp m l k ++ [(k : Int)] else selUp m l k) := hid (by rw [hx]; rfl)
        have hlen := selUp_len m l k
        rw [← hx] at c0 c1 c2 c3
        obtain ⟨t, en, ze, hi⟩ := x
        simp only at c0 c1 c2 c3
        clear hc h3 hcb hfb hcb2 hfb2 hx
        cases hT : selL ⟨t, en, ze, hi⟩ m.cs
        · have HT := hid hT
          go_wp2_with (go_at_call 81; refine (HC.out _ t en ze hi (by (repeat (with_reducible first | exact Below.refl _ _ | assumption | refine Below.drewN _ ?_ | refine Below.drew ?_ | refine Below_alloc ?_ _ | refine Below.alloc ?_ (by first | (simp; done) | (simp; omega) | omega) _ | refine Below.setCell ?_ (by first | (simp; done) | (simp; omega) | omega) _ | refine Below_call ?_ (by assumption) | refine Below.trans ?_ (by assumption))))).mono ?_; rintro _ w3 ⟨rfl, hb3⟩)
          go_roundw
          case rel => exact ⟨k + 1, by omega, by go_num, by rw [HSU.out, HT.out]; exact ownsRow_below (ownsRow_below hown ((Below.refl _ _).alloc (Nat.le_refl _) _)) hb3, by (repeat (with_reducible first | exact Below.refl _ _ | assumption | refine Below.drewN _ ?_ | refine Below.drew ?_ | refine Below_alloc ?_ _ | refine Below.alloc ?_ (by first | (simp; done) | (simp; omega) | omega) _ | refine Below.setCell ?_ (by first | (simp; done) | (simp; omega) | omega) _ | refine Below_call ?_ (by assumption) | refine Below.trans ?_ (by assumption)))⟩
          case measure => simp [intOf]; omega
        · have HT := hid hT
          go_wp2_with (first | (go_at_call 81; refine (HC.out _ t en ze hi (by (repeat (with_reducible first | exact Below.refl _ _ | assumption | refine Below.drewN _ ?_ | refine Below.drew ?_ | refine Below_alloc ?_ _ | refine Below.alloc ?_ (by first | (simp; done) | (simp; omega) | omega) _ | refine Below.setCell ?_ (by first | (simp; done) | (simp; omega) | omega) _ | refine Below_call ?_ (by assumption) | refine Below.trans ?_ (by assumption))))).mono ?_; rintro _ w3 ⟨rfl, hb3⟩; have hown' := (ownsRow_below (ownsRow_below hown ((Below.refl _ _).alloc (Nat.le_refl _) _)) hb3); have hz3 : W0.heap.size ≤ w3.heap.size := (by have := hb3.size; simp at this; omega)) | (at_builtin; refine wpList_push rfl _ _ _ rfl elemInt W0.heap.size _ (selUp m l k).length _ rfl w3 hown' [.int .i64 k] rfl (by simp [Value.oneCell']) rfl _ rfl rfl (by omega) (by unfold maxLen; omega) hz3 ?_; intro v1 w4 hown3 hb4 _ _))
          go_roundw
          case rel =>
            refine ⟨k + 1, by omega, by go_num, ?_, ?_⟩
            · rw [HSU.out, HT.out, if_pos rfl, List.map_append, List.length_append]; exact hown3
            · exact (Below_call (Below_alloc hbel _) hb3).trans hb4
          case measure => simp [intOf]; omega
      · have hkl : k = l.length := by omega
        go_wp2_with fail
        go_ret2
        rw [HN.out, HE.out]
        refine ⟨_, rfl, ?_, hBW.trans (hbel.mono hBW.size)⟩
        rw [← hkl]
        exact ownsRow_ints hown
  · have he' : (firstNZ [methErr m, anyErr l] != 0) = true := by simpa [cbErr] using he
    have HE := hid he
    clear he h hl
    unfold methV
    go_enter Try.func16, Try.ntmps16
    go_wp2_with (first | (go_at_call 79; refine (HM.out _ (by (repeat (with_reducible first | exact Below.refl _ _ | assumption | refine Below.drewN _ ?_ | refine Below.drew ?_ | refine Below_alloc ?_ _ | refine Below.alloc ?_ (by first | (simp; done) | (simp; omega) | omega) _ | refine Below.setCell ?_ (by first | (simp; done) | (simp; omega) | omega) _ | refine Below_call ?_ (by assumption) | refine Below.trans ?_ (by assumption))))).mono ?_; rintro _ w1 ⟨rfl, hb1⟩) | (go_at_call 80; refine (HL.out _ (by (repeat (with_reducible first | exact Below.refl _ _ | assumption | refine Below.drewN _ ?_ | refine Below.drew ?_ | refine Below_alloc ?_ _ | refine Below.alloc ?_ (by first | (simp; done) | (simp; omega) | omega) _ | refine Below.setCell ?_ (by first | (simp; done) | (simp; omega) | omega) _ | refine Below_call ?_ (by assumption) | refine Below.trans ?_ (by assumption))))).mono ?_; rintro _ w2 ⟨rfl, hb2⟩) | (go_at_call 75; refine (blind_first [methErr m, anyErr l] _ _ (intsAt_new _ _ _ _ _ rfl (by simp) (by simp))).mono ?_; rintro _ _ ⟨rfl, rfl⟩))
    go_ret2
    rw [show sbList m l = [] from by simp [sbList, HE.out]]
    exact ⟨_, rfl, IntsAt.nil _, by (repeat (with_reducible first | exact Below.refl _ _ | assumption | refine Below.drewN _ ?_ | refine Below.drew ?_ | refine Below_alloc ?_ _ | refine Below.alloc ?_ (by first | (simp; done) | (simp; omega) | omega) _ | refine Below.setCell ?_ (by first | (simp; done) | (simp; omega) | omega) _ | refine Below_call ?_ (by assumption) | refine Below.trans ?_ (by assumption)))⟩

end Go.Proofs.Ytllddidjiabegaa
