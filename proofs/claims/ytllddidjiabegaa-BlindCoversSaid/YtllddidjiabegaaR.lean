/- Events: rows of structs, and their errors. -/
import Derived.Test.YtllddidjiabegaaQ2
set_option linter.unusedVariables false
set_option linter.unusedSimpArgs false
namespace Go.Proofs.Ytllddidjiabegaa
open Go.RowKit

structure Ev where
  t : Int
  en : Int
  ze : Int
  hi : Int
deriving DecidableEq
def Ev.zero : Ev := ⟨0, 0, 0, 0⟩
def Ev.cell (x : Ev) : Nat → Value
  | 0 => .int .i64 x.t
  | 1 => .int .i64 x.en
  | 2 => .int .i64 x.ze
  | _ => .int .i64 x.hi
def evV (x : Ev) : Value := .agg #[.int .i64 x.t, .int .i64 x.en, .int .i64 x.ze, .int .i64 x.hi]
def evAt (l : List Ev) (i : Nat) : Ev := l.getD i Ev.zero
theorem evAt_lt {l : List Ev} {i : Nat} (h : i < l.length) : evAt l i = l[i] := by simp [evAt, List.getD, h]
theorem evAt_take {l : List Ev} {k : Nat} (h : k < l.length) : l.take (k + 1) = l.take k ++ [evAt l k] := by
  rw [List.take_succ_eq_append_getElem h, evAt_lt h]

def EventsAt (w : World) (v : Value) (l : List Ev) : Prop := SlAt w v l.length 4 (fun i j => (evAt l i).cell j)
theorem EventsAt.below {w w' : World} {v : Value} {l : List Ev} (h : EventsAt w v l) (hb : Below w.heap.size w w') : EventsAt w' v l := SlAt.below h hb
theorem EventsAt.opn {w : World} {v : Value} {l : List Ev} (h : EventsAt w v l) : ∃ ao cap, v = .slice ao l.length cap ∧ l.length ≤ cap ∧ cap ≤ maxLen ∧
    ∀ k, k < l.length → ∃ b off, ao = some ⟨b, off, none⟩ ∧ b < w.heap.size ∧ ∀ i, i < l.length →
      w.cell? ⟨b, off + i * 4, none⟩ = some (.int .i64 (evAt l i).t) ∧ w.cell? ⟨b, off + i * 4 + 1, none⟩ = some (.int .i64 (evAt l i).en) ∧ w.cell? ⟨b, off + i * 4 + 2, none⟩ = some (.int .i64 (evAt l i).ze) ∧ w.cell? ⟨b, off + i * 4 + 3, none⟩ = some (.int .i64 (evAt l i).hi) := by
  obtain ⟨ao, cap, rfl, h1, h2, h3, _⟩ := h
  refine ⟨ao, cap, rfl, h1, h2, fun k hk => ?_⟩
  obtain ⟨b, off, e, hlt, hc⟩ := h3 (by omega)
  exact ⟨b, off, e, hlt, fun i hi => ⟨hc i 0 hi (by omega), hc i 1 hi (by omega), hc i 2 hi (by omega), hc i 3 hi (by omega)⟩⟩
theorem EventsAt.nil (w : World) : EventsAt w (.slice none 0 0) [] := ⟨none, 0, rfl, by simp, by simp, fun h => by simp at h, fun _ => rfl⟩

def evB (x : Ev) : Bool := inB x.t 0 1000000000000 && inB x.en 0 100000 && inB x.ze 0 100000 && inB x.hi 0 100000
def evErr (x : Ev) : Int := unl (evB x) 2

set_option maxHeartbeats 1000000 in
theorem blind_eventErr (t en ze hi : Int) (w : World) :
    Calls Try.prog 116 #[.agg #[.int .i64 t, .int .i64 en, .int .i64 ze, .int .i64 hi]] w fun e w' => e = .returned (.int .i64 (evErr ⟨t, en, ze, hi⟩)) ∧ Below w.heap.size w w' := by
  go_enter Try.func116, Try.ntmps116
  go_wp2_with (first | (go_at_call 77; refine (blind_within _ _ _ _).mono ?_; rintro _ _ ⟨rfl, rfl⟩) | (go_at_call 117; refine (blind_isField _ _).mono ?_; rintro _ _ ⟨rfl, rfl⟩) | (go_at_call 78; refine (blind_unless _ _ _).mono ?_; rintro _ _ ⟨rfl, rfl⟩))
  all_goals (try simp only [Bool.not_eq_true', Bool.not_eq_false', Bool.not_eq_true, Bool.not_eq_false] at *)
  all_goals go_ret
  all_goals exact ⟨ret_int (by simp [evErr, evB, *]), by (repeat (with_reducible first | exact Below.refl _ _ | assumption | refine Below.drewN _ ?_ | refine Below.drew ?_ | refine Below_alloc ?_ _ | refine Below.alloc ?_ (by first | (simp; done) | (simp; omega) | omega) _ | refine Below.setCell ?_ (by first | (simp; done) | (simp; omega) | omega) _ | refine Below_call ?_ (by assumption) | refine Below.trans ?_ (by assumption)))⟩

set_option maxHeartbeats 1000000 in
theorem ref_eventErr (t en ze hi : Int) (w : World) :
    Calls Try.prog 84 #[.agg #[.int .i64 t, .int .i64 en, .int .i64 ze, .int .i64 hi]] w fun e w' => e = .returned (.int .i64 (evErr ⟨t, en, ze, hi⟩)) ∧ Below w.heap.size w w' := by
  go_enter Try.func84, Try.ntmps84
  go_wp2_with (first | (go_at_call 128; refine (base_IsTick _ _).mono ?_; rintro _ _ ⟨rfl, rfl⟩) | (go_at_call 83; refine (ref_isField _ _).mono ?_; rintro _ _ ⟨rfl, rfl⟩))
  all_goals (try simp only [Bool.not_eq_true', Bool.not_eq_false', Bool.not_eq_true, Bool.not_eq_false] at *)
  all_goals go_ret
  all_goals exact ⟨ret_int (by simp [evErr, evB, unl, *]), by (repeat (with_reducible first | exact Below.refl _ _ | assumption | refine Below.drewN _ ?_ | refine Below.drew ?_ | refine Below_alloc ?_ _ | refine Below.alloc ?_ (by first | (simp; done) | (simp; omega) | omega) _ | refine Below.setCell ?_ (by first | (simp; done) | (simp; omega) | omega) _ | refine Below_call ?_ (by assumption) | refine Below.trans ?_ (by assumption)))⟩

def anyI {α : Type} (f : α → Bool) (l : List α) : Bool := l.any f
theorem anyI_take {f : Ev → Bool} {l : List Ev} {k : Nat} (h : k < l.length) : anyI f (l.take (k + 1)) = (anyI f (l.take k) || f (evAt l k)) := by
  rw [evAt_take h]; simp [anyI]
theorem anyI_at {f : Ev → Bool} {l : List Ev} {k : Nat} (h : k < l.length) (hf : f (evAt l k) = true) : anyI f l = true := by
  rw [evAt_lt h] at hf; simp only [anyI, List.any_eq_true]; exact ⟨_, List.getElem_mem h, hf⟩

theorem blind_looseErr1 (t en ze hi : Int) (w : World) :
    Calls Try.prog 119 #[.agg #[.int .i64 t, .int .i64 en, .int .i64 ze, .int .i64 hi]] w fun e w' => e = .returned (.bool (evErr ⟨t, en, ze, hi⟩ != 0)) ∧ Below w.heap.size w w' := by
  go_enter Try.func119, Try.ntmps119
  go_wp2_with (go_at_call 116; refine (blind_eventErr t en ze hi _).mono ?_; rintro _ w1 ⟨rfl, hb1⟩; obtain ⟨hc1, hf1⟩ := bcell hb1; have hz1 := hb1.size; (try simp only [World.size_alloc, World.heap_drewN] at hz1))
  go_ret
  exact ⟨rfl, by (repeat (with_reducible first | exact Below.refl _ _ | assumption | refine Below.drewN _ ?_ | refine Below.drew ?_ | refine Below_alloc ?_ _ | refine Below.alloc ?_ (by first | (simp; done) | (simp; omega) | omega) _ | refine Below.setCell ?_ (by first | (simp; done) | (simp; omega) | omega) _ | refine Below_call ?_ (by assumption) | refine Below.trans ?_ (by assumption)))⟩

set_option maxRecDepth 100000 in
theorem ev_IndexFunc (l : List Ev) (v : Value) (w : World) (h : EventsAt w v l) :
    Calls Try.prog 147 #[v, .func (.func 119) #[] #[]] w fun e w' => ∃ r : Int, e = .returned (.int .i64 r) ∧ decide (0 ≤ r) = anyI (fun x => evErr x != 0) l ∧ Below w.heap.size w w' := by
  obtain ⟨ao, cap, rfl, h1, h2, h3⟩ := h.opn
  unfold maxLen at h2
  go_enter Try.func147, Try.ntmps147
  go_wp2_with fail
  go_loopw [8] (fun i wr => ∃ k : Nat, k ≤ l.length ∧ i = .int .i64 k ∧ Hid (anyI (fun x => evErr x != 0) (l.take k) = false) ∧ Below w.heap.size w wr) (fun i _ => l.length - (intOf i).toNat)
  case atStart => exact ⟨0, Nat.zero_le _, rfl, hid (by simp [anyI]), Below.refl _ _⟩
  case round =>
    obtain ⟨k, hk, rfl, HZ, hbel⟩ := hrel
    have hzw := hbel.size
    by_cases hlt : k < l.length
    · obtain ⟨b, off, rfl, hb, hc⟩ := h3 k hlt
      obtain ⟨c0, c1, c2, c3⟩ := hc k hlt
      obtain ⟨hcb, hfb⟩ := bcell hbel
      rw [← hcb b _ hb] at c0 c1 c2 c3
      have HAT := hid (anyI_take (f := fun x => evErr x != 0) hlt)
      have HAA := hid (anyI_at (f := fun x => evErr x != 0) hlt)
      obtain ⟨x, hx⟩ : ∃ x, x = evAt l k := ⟨_, rfl⟩
      rw [← hx] at c0 c1 c2 c3 HAT HAA
      obtain ⟨t, en, ze, hi⟩ := x
      simp only at c0 c1 c2 c3
      clear hc h3 hcb hfb hx h
      cases ht : (evErr ⟨t, en, ze, hi⟩ != 0)
      · have HT := hid ht
        go_wp2_with (go_at_call 119; refine (blind_looseErr1 t en ze hi _).mono ?_; rintro _ w1 ⟨rfl, hb1⟩; obtain ⟨hc1, hf1⟩ := bcell hb1; have hz1 := hb1.size; (try simp only [World.size_alloc, World.heap_drewN] at hz1))
        go_roundw
        case rel => exact ⟨k + 1, by omega, by go_num, hid (by rw [HAT.out, HZ.out, HT.out]; rfl), by (repeat (with_reducible first | exact Below.refl _ _ | assumption | refine Below.drewN _ ?_ | refine Below.drew ?_ | refine Below_alloc ?_ _ | refine Below.alloc ?_ (by first | (simp; done) | (simp; omega) | omega) _ | refine Below.setCell ?_ (by first | (simp; done) | (simp; omega) | omega) _ | refine Below_call ?_ (by assumption) | refine Below.trans ?_ (by assumption)))⟩
        case measure => simp [intOf]; omega
      · have HT := hid ht
        go_wp2_with (go_at_call 119; refine (blind_looseErr1 t en ze hi _).mono ?_; rintro _ w1 ⟨rfl, hb1⟩; obtain ⟨hc1, hf1⟩ := bcell hb1; have hz1 := hb1.size; (try simp only [World.size_alloc, World.heap_drewN] at hz1))
        go_ret
        exact ⟨k, rfl, by rw [HAA.out HT.out]; simp, by (repeat (with_reducible first | exact Below.refl _ _ | assumption | refine Below.drewN _ ?_ | refine Below.drew ?_ | refine Below_alloc ?_ _ | refine Below.alloc ?_ (by first | (simp; done) | (simp; omega) | omega) _ | refine Below.setCell ?_ (by first | (simp; done) | (simp; omega) | omega) _ | refine Below_call ?_ (by assumption) | refine Below.trans ?_ (by assumption)))⟩
    · have hkl : k = l.length := by omega
      subst hkl
      go_wp2_with fail
      go_ret
      refine ⟨-1, rfl, ?_, hbel⟩
      have := HZ.out
      rw [List.take_length] at this
      rw [this]; rfl

theorem ev_ContainsFunc (l : List Ev) (v : Value) (w : World) (h : EventsAt w v l) :
    Calls Try.prog 118 #[v, .func (.func 119) #[] #[]] w fun e w' => e = .returned (.bool (anyI (fun x => evErr x != 0) l)) ∧ Below w.heap.size w w' := by
  go_enter Try.func118, Try.ntmps118
  go_wp2_with (go_at_call 147; refine (ev_IndexFunc _ _ _ h).mono ?_; rintro _ w1 ⟨r, rfl, hr, hb1⟩)
  go_ret
  exact ⟨ret_bool (by rw [← hr]), hb1⟩

/-- the error of events in any order. -/
def anyErr (l : List Ev) : Int := if 12 < l.length then 8 else scan (fun i => evErr (evAt l i)) l.length

end Go.Proofs.Ytllddidjiabegaa
