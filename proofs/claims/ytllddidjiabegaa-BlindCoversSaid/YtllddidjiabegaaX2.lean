/- Counts, and the selected ones: the program. -/
import Derived.Test.YtllddidjiabegaaX
set_option linter.unusedVariables false
set_option linter.unusedSimpArgs false
namespace Go.Proofs.Ytllddidjiabegaa
open Go.RowKit

/-- a method lies in a block. -/
def BoxM (w : World) (b : Nat) (cv : Value) (m : Meth) : Prop := b < w.heap.size ∧ w.cell? ⟨b, 0, none⟩ = some cv ∧ w.cell? ⟨b, 1, none⟩ = some (.int .i64 m.p) ∧ w.cell? ⟨b, 2, none⟩ = some (.int .i64 m.fr) ∧ w.cell? ⟨b, 3, none⟩ = some (.int .i64 m.to)
theorem BoxM.below {w w' : World} {b : Nat} {cv : Value} {m : Meth} (h : BoxM w b cv m) (hb : Below w.heap.size w w') : BoxM w' b cv m :=
  ⟨Nat.lt_of_lt_of_le h.1 hb.size, (hb.cell (p := ⟨b, 0, none⟩) h.1).trans h.2.1, (hb.cell (p := ⟨b, 1, none⟩) h.1).trans h.2.2.1, (hb.cell (p := ⟨b, 2, none⟩) h.1).trans h.2.2.2.1, (hb.cell (p := ⟨b, 3, none⟩) h.1).trans h.2.2.2.2⟩

def cntB (m : Meth) (x : Ev) : Bool := selL x m.cs && insB x.t m.p m.fr m.to

set_option maxRecDepth 100000 in
theorem blind_count1 (m : Meth) (cv : Value) (bm : Nat) (t en ze hi : Int) (w : World) (h : ClausesAt w cv m.cs) (hok : okM m.cs) (hbx : BoxM w bm cv m) (hp : 1 ≤ m.p) (hto : 0 ≤ m.to) (ht : 0 ≤ t) :
    Calls Try.prog 126 #[.agg #[.int .i64 t, .int .i64 en, .int .i64 ze, .int .i64 hi], .pointer (some ⟨bm, 0, none⟩)] w fun e w' => e = .returned (.bool (cntB m ⟨t, en, ze, hi⟩)) ∧ Below w.heap.size w w' := by
  have HBX : Hid (BoxM (w.alloc (.cells #[.int .i64 t, .int .i64 en, .int .i64 ze, .int .i64 hi] 89)) bm cv m) := hid (hbx.below ((Below.refl _ _).alloc (Nat.le_refl _) _))
  obtain ⟨cs, p, fr, to⟩ := m
  simp only at h hok hp hto
  obtain ⟨hbm, b0, b1, b2, b3⟩ := hbx
  simp only at b1 b2 b3
  have HC : Hid (∀ W, Below w.heap.size w W → Calls Try.prog 81 #[.agg #[cv, .int .i64 p, .int .i64 fr, .int .i64 to], .agg #[.int .i64 t, .int .i64 en, .int .i64 ze, .int .i64 hi]] W fun e w' => e = .returned (.bool (selL ⟨t, en, ze, hi⟩ cs)) ∧ Below W.heap.size W w') := hid (fun W hW => blind_selects cs cv p fr to t en ze hi W (h.below hW) hok)
  have HV : Hid (cntB ⟨cs, p, fr, to⟩ ⟨t, en, ze, hi⟩ = (selL ⟨t, en, ze, hi⟩ cs && insB t p fr to)) := hid rfl
  clear h hok
  cases hs : selL ⟨t, en, ze, hi⟩ cs
  · have HS := hid hs
    go_enter Try.func126, Try.ntmps126
    go_wp2_with (go_at_call 81; refine (HC.out _ (by (repeat (with_reducible first | exact Below.refl _ _ | assumption | refine Below.drewN _ ?_ | refine Below.drew ?_ | refine Below_alloc ?_ _ | refine Below.alloc ?_ (by first | (simp; done) | (simp; omega) | omega) _ | refine Below.setCell ?_ (by first | (simp; done) | (simp; omega) | omega) _ | refine Below_call ?_ (by assumption) | refine Below.trans ?_ (by assumption))))).mono ?_; rintro _ w1 ⟨rfl, hb1⟩)
    go_ret
    exact ⟨ret_bool (by rw [HV.out, HS.out]; rfl), by (repeat (with_reducible first | exact Below.refl _ _ | assumption | refine Below.drewN _ ?_ | refine Below.drew ?_ | refine Below_alloc ?_ _ | refine Below.alloc ?_ (by first | (simp; done) | (simp; omega) | omega) _ | refine Below.setCell ?_ (by first | (simp; done) | (simp; omega) | omega) _ | refine Below_call ?_ (by assumption) | refine Below.trans ?_ (by assumption)))⟩
  · have HS := hid hs
    go_enter Try.func126, Try.ntmps126
    go_wp2_with (first | (go_at_call 81; refine (HC.out _ (by (repeat (with_reducible first | exact Below.refl _ _ | assumption | refine Below.drewN _ ?_ | refine Below.drew ?_ | refine Below_alloc ?_ _ | refine Below.alloc ?_ (by first | (simp; done) | (simp; omega) | omega) _ | refine Below.setCell ?_ (by first | (simp; done) | (simp; omega) | omega) _ | refine Below_call ?_ (by assumption) | refine Below.trans ?_ (by assumption))))).mono ?_; rintro _ w1 ⟨rfl, hb1⟩; have k2 : w.heap.size < (w.alloc (.cells #[.int .i64 t, .int .i64 en, .int .i64 ze, .int .i64 hi] 89)).heap.size := (by simp); obtain ⟨hc1, hf1⟩ := bcell hb1; obtain ⟨hbm1, x0, x1, x2, x3⟩ := HBX.out.below hb1; simp only at x1 x2 x3; have y0 := hc1 w.heap.size 0 k2; have y1 := hc1 w.heap.size 1 k2; have y2 := hc1 w.heap.size 2 k2; have y3 := hc1 w.heap.size 3 k2; simp at y0 y1 y2 y3; have hz1 := hb1.size; simp at hz1; clear hc1 hf1) | (go_at_call 127; refine (blind_inside cv p fr to t en ze hi _ hp ht hto).mono ?_; rintro _ w2 ⟨rfl, hb2⟩; obtain ⟨hc2, hf2⟩ := bcell hb2; have hz2 := hb2.size; (try simp only [World.size_alloc, World.heap_drewN] at hz2)))
    go_ret
    exact ⟨ret_bool (by rw [HV.out, HS.out]; rfl), by (repeat (with_reducible first | exact Below.refl _ _ | assumption | refine Below.drewN _ ?_ | refine Below.drew ?_ | refine Below_alloc ?_ _ | refine Below.alloc ?_ (by first | (simp; done) | (simp; omega) | omega) _ | refine Below.setCell ?_ (by first | (simp; done) | (simp; omega) | omega) _ | refine Below_call ?_ (by assumption) | refine Below.trans ?_ (by assumption)))⟩

/-- how many events of a list a test holds of. -/
def numI (f : Ev → Bool) (l : List Ev) : Nat := l.countP f
theorem numI_take {f : Ev → Bool} {l : List Ev} {k : Nat} (h : k < l.length) : numI f (l.take (k + 1)) = numI f (l.take k) + (if f (evAt l k) = true then 1 else 0) := by
  rw [evAt_take h]
  unfold numI
  rw [List.countP_append]
  by_cases e : f (evAt l k) = true <;> simp [e]
theorem numI_le {f : Ev → Bool} {l : List Ev} : numI f l ≤ l.length := List.countP_le_length

set_option maxRecDepth 100000 in
set_option maxHeartbeats 1000000 in
theorem blind_number (m : Meth) (cv : Value) (bm : Nat) (l : List Ev) (v : Value) (w : World) (hl : EventsAt w v l) (h : ClausesAt w cv m.cs) (hok : okM m.cs) (hbx : BoxM w bm cv m) (hp : 1 ≤ m.p) (hto : 0 ≤ m.to) (ht : ∀ x ∈ l, 0 ≤ x.t) (h1000 : l.length ≤ 1000) :
    Calls Try.prog 125 #[v, .func (.func 126) #[] #[.pointer (some ⟨bm, 0, none⟩)]] w fun e w' => e = .returned (.int .i64 (numI (cntB m) l : Nat)) ∧ Below w.heap.size w w' := by
  have HC : Hid (∀ W t en ze hi, Below w.heap.size w W → 0 ≤ t → Calls Try.prog 126 #[.agg #[.int .i64 t, .int .i64 en, .int .i64 ze, .int .i64 hi], .pointer (some ⟨bm, 0, none⟩)] W fun e w' => e = .returned (.bool (cntB m ⟨t, en, ze, hi⟩)) ∧ Below W.heap.size W w') := hid (fun W t en ze hi hW h0 => blind_count1 m cv bm t en ze hi W (h.below hW) hok (hbx.below hW) hp hto h0)
  obtain ⟨ao, cap, rfl, h1, h2, h3⟩ := hl.opn
  unfold maxLen at h2
  clear h hok hbx hp hto hl
  go_enter Try.func125, Try.ntmps125
  go_wp2_with fail
  go_loopw [5, 10] (fun o i wr => ∃ k : Nat, k ≤ l.length ∧ o = .int .i64 (numI (cntB m) (l.take k) : Nat) ∧ i = .int .i64 k ∧ Below w.heap.size w wr) (fun _ i _ => l.length - (intOf i).toNat)
  case atStart => exact ⟨0, Nat.zero_le _, rfl, rfl, Below.refl _ _⟩
  case round =>
    obtain ⟨k, hk, rfl, rfl, hbel⟩ := hrel
    have hzw := hbel.size
    by_cases hlt : k < l.length
    · obtain ⟨b, off, rfl, hb, hc⟩ := h3 k hlt
      obtain ⟨c0, c1, c2, c3⟩ := hc k hlt
      obtain ⟨hcb, hfb⟩ := bcell hbel
      rw [← hcb b _ hb] at c0 c1 c2 c3
      have HAT := hid (numI_take (f := cntB m) hlt)
      have hcnt : numI (cntB m) (l.take k) ≤ 1000 := Nat.le_trans numI_le (by simp; omega)
      have ht0 : 0 ≤ (evAt l k).t := by rw [evAt_lt hlt]; exact ht _ (List.getElem_mem hlt)
      obtain ⟨x, hx⟩ : ∃ x, x = evAt l k := ⟨_, rfl⟩
      rw [← hx] at c0 c1 c2 c3 HAT ht0
      obtain ⟨t, en, ze, hi⟩ := x
      simp only at c0 c1 c2 c3 ht0
      clear hc h3 hcb hfb hx ht
      cases hT : cntB m ⟨t, en, ze, hi⟩
      · have HT := hid hT
        go_wp2_with (go_at_call 126; refine (HC.out _ t en ze hi (by (repeat (with_reducible first | exact Below.refl _ _ | assumption | refine Below.drewN _ ?_ | refine Below.drew ?_ | refine Below_alloc ?_ _ | refine Below.alloc ?_ (by first | (simp; done) | (simp; omega) | omega) _ | refine Below.setCell ?_ (by first | (simp; done) | (simp; omega) | omega) _ | refine Below_call ?_ (by assumption) | refine Below.trans ?_ (by assumption)))) ht0).mono ?_; rintro _ w1 ⟨rfl, hb1⟩)
        go_roundw
        case rel => exact ⟨k + 1, by omega, by rw [HAT.out, HT.out]; rfl, by go_num, by (repeat (with_reducible first | exact Below.refl _ _ | assumption | refine Below.drewN _ ?_ | refine Below.drew ?_ | refine Below_alloc ?_ _ | refine Below.alloc ?_ (by first | (simp; done) | (simp; omega) | omega) _ | refine Below.setCell ?_ (by first | (simp; done) | (simp; omega) | omega) _ | refine Below_call ?_ (by assumption) | refine Below.trans ?_ (by assumption)))⟩
        case measure => simp [intOf]; omega
      · have HT := hid hT
        go_wp2_with (go_at_call 126; refine (HC.out _ t en ze hi (by (repeat (with_reducible first | exact Below.refl _ _ | assumption | refine Below.drewN _ ?_ | refine Below.drew ?_ | refine Below_alloc ?_ _ | refine Below.alloc ?_ (by first | (simp; done) | (simp; omega) | omega) _ | refine Below.setCell ?_ (by first | (simp; done) | (simp; omega) | omega) _ | refine Below_call ?_ (by assumption) | refine Below.trans ?_ (by assumption)))) ht0).mono ?_; rintro _ w1 ⟨rfl, hb1⟩)
        go_roundw
        case rel => exact ⟨k + 1, by omega, by rw [HAT.out, HT.out]; go_num, by go_num, by (repeat (with_reducible first | exact Below.refl _ _ | assumption | refine Below.drewN _ ?_ | refine Below.drew ?_ | refine Below_alloc ?_ _ | refine Below.alloc ?_ (by first | (simp; done) | (simp; omega) | omega) _ | refine Below.setCell ?_ (by first | (simp; done) | (simp; omega) | omega) _ | refine Below_call ?_ (by assumption) | refine Below.trans ?_ (by assumption)))⟩
        case measure => simp [intOf]; omega
    · have hkl : k = l.length := by omega
      go_wp2_with fail
      go_ret
      exact ⟨ret_int (by rw [hkl, List.take_length]), hbel⟩

theorem blind_count (m : Meth) (cv : Value) (l : List Ev) (v : Value) (w : World) (hl : EventsAt w v l) (h : ClausesAt w cv m.cs) (hok : okM m.cs) (hp : 1 ≤ m.p) (hto : 0 ≤ m.to) (ht : ∀ x ∈ l, 0 ≤ x.t) (h1000 : l.length ≤ 1000) :
    Calls Try.prog 82 #[methV cv m.p m.fr m.to, v] w fun e w' => e = .returned (.int .i64 (numI (cntB m) l : Nat)) ∧ Below w.heap.size w w' := by
  have hmf : ∀ (fn : Fn) (first cap : Array Value) (w : World), (Instr.makeFunc fn first cap).run Try.prog w = .ok (.func fn first cap) w := fun _ _ _ _ => rfl
  have HC : Hid (∀ W bm, Below w.heap.size w W → BoxM W bm cv m → Calls Try.prog 125 #[v, .func (.func 126) #[] #[.pointer (some ⟨bm, 0, none⟩)]] W fun e w' => e = .returned (.int .i64 (numI (cntB m) l : Nat)) ∧ Below W.heap.size W w') := hid (fun W bm hW hbx => blind_number m cv bm l v W (hl.below hW) (h.below hW) hok hbx hp hto ht h1000)
  clear h hok hp hto ht hl
  unfold methV
  go_enter Try.func82, Try.ntmps82
  go_wp2_with (go_at_call 125; refine (HC.out _ w.heap.size (by (repeat (with_reducible first | exact Below.refl _ _ | assumption | refine Below.drewN _ ?_ | refine Below.drew ?_ | refine Below_alloc ?_ _ | refine Below.alloc ?_ (by first | (simp; done) | (simp; omega) | omega) _ | refine Below.setCell ?_ (by first | (simp; done) | (simp; omega) | omega) _ | refine Below_call ?_ (by assumption) | refine Below.trans ?_ (by assumption)))) ⟨by simp, by simp, by simp, by simp, by simp⟩).mono ?_; rintro _ w1 ⟨rfl, hb1⟩)
  go_ret
  exact ⟨rfl, by (repeat (with_reducible first | exact Below.refl _ _ | assumption | refine Below.drewN _ ?_ | refine Below.drew ?_ | refine Below_alloc ?_ _ | refine Below.alloc ?_ (by first | (simp; done) | (simp; omega) | omega) _ | refine Below.setCell ?_ (by first | (simp; done) | (simp; omega) | omega) _ | refine Below_call ?_ (by assumption) | refine Below.trans ?_ (by assumption)))⟩

end Go.Proofs.Ytllddidjiabegaa
