/- Cuts and clauses: rows of structs, rows of rows, and their errors. -/
import Derived.Test.YtllddidjiabegaaS
set_option linter.unusedVariables false
set_option linter.unusedSimpArgs false
namespace Go.Proofs.Ytllddidjiabegaa
open Go.RowKit

structure Cut where
  f : Int
  lo : Int
  hi : Int
deriving DecidableEq
def Cut.zero : Cut := ⟨0, 0, 0⟩
def Cut.cell (x : Cut) : Nat → Value
  | 0 => .int .i64 x.f
  | 1 => .int .i64 x.lo
  | _ => .int .i64 x.hi
def cutAt (l : List Cut) (i : Nat) : Cut := l.getD i Cut.zero
theorem cutAt_lt {l : List Cut} {i : Nat} (h : i < l.length) : cutAt l i = l[i] := by simp [cutAt, List.getD, h]
theorem cutAt_take {l : List Cut} {k : Nat} (h : k < l.length) : l.take (k + 1) = l.take k ++ [cutAt l k] := by
  rw [List.take_succ_eq_append_getElem h, cutAt_lt h]
def CutsAt (w : World) (v : Value) (l : List Cut) : Prop := SlAt w v l.length 3 (fun i j => (cutAt l i).cell j)
theorem CutsAt.below {w w' : World} {v : Value} {l : List Cut} (h : CutsAt w v l) (hb : Below w.heap.size w w') : CutsAt w' v l := SlAt.below h hb
theorem CutsAt.opn {w : World} {v : Value} {l : List Cut} (h : CutsAt w v l) : ∃ ao cap, v = .slice ao l.length cap ∧ l.length ≤ cap ∧ cap ≤ maxLen ∧
    ∀ k, k < l.length → ∃ b off, ao = some ⟨b, off, none⟩ ∧ b < w.heap.size ∧ ∀ i, i < l.length →
      w.cell? ⟨b, off + i * 3, none⟩ = some (.int .i64 (cutAt l i).f) ∧ w.cell? ⟨b, off + i * 3 + 1, none⟩ = some (.int .i64 (cutAt l i).lo) ∧ w.cell? ⟨b, off + i * 3 + 2, none⟩ = some (.int .i64 (cutAt l i).hi) := by
  obtain ⟨ao, cap, rfl, h1, h2, h3, _⟩ := h
  refine ⟨ao, cap, rfl, h1, h2, fun k hk => ?_⟩
  obtain ⟨b, off, e, hlt, hc⟩ := h3 (by omega)
  exact ⟨b, off, e, hlt, fun i hi => ⟨hc i 0 hi (by omega), hc i 1 hi (by omega), hc i 2 hi (by omega)⟩⟩

def clAt (cs : List (List Cut)) (i : Nat) : List Cut := cs.getD i []
theorem clAt_lt {l : List (List Cut)} {i : Nat} (h : i < l.length) : clAt l i = l[i] := by simp [clAt, List.getD, h]
def ClausesAt (w : World) (v : Value) (cs : List (List Cut)) : Prop := ∃ us : Nat → Value, SlAt w v cs.length 1 (fun i _ => us i) ∧ ∀ i, i < cs.length → CutsAt w (us i) (clAt cs i)
theorem ClausesAt.below {w w' : World} {v : Value} {l : List (List Cut)} (h : ClausesAt w v l) (hb : Below w.heap.size w w') : ClausesAt w' v l := by
  obtain ⟨us, h1, h2⟩ := h
  exact ⟨us, h1.below hb, fun i hi => (h2 i hi).below hb⟩
theorem ClausesAt.opn {w : World} {v : Value} {l : List (List Cut)} (h : ClausesAt w v l) : ∃ ao cap, ∃ us : Nat → Value, v = .slice ao l.length cap ∧ l.length ≤ cap ∧ cap ≤ maxLen ∧
    ∀ k, k < l.length → ∃ b off, ao = some ⟨b, off, none⟩ ∧ b < w.heap.size ∧ ∀ i, i < l.length → w.cell? ⟨b, off + i, none⟩ = some (us i) ∧ CutsAt w (us i) (clAt l i) := by
  obtain ⟨us, ⟨ao, cap, rfl, h1, h2, h3, _⟩, hu⟩ := h
  refine ⟨ao, cap, us, rfl, h1, h2, fun k hk => ?_⟩
  obtain ⟨b, off, e, hlt, hc⟩ := h3 (by omega)
  exact ⟨b, off, e, hlt, fun i hi => ⟨by have := hc i 0 hi (by omega); simpa using this, hu i hi⟩⟩

structure Meth where
  cs : List (List Cut)
  p : Int
  fr : Int
  to : Int
def methV (cv : Value) (p fr to : Int) : Value := .agg #[cv, .int .i64 p, .int .i64 fr, .int .i64 to]

def cutErr (c : Cut) : Int := firstNZ [unl (inB c.f 0 2) 15, unl (inB c.lo 0 100000 && inB c.hi 0 100000) 2, unl (decide (c.lo ≤ c.hi)) 9]
def cntErr (n : Int) : Int := firstNZ [unl (decide (0 < n)) 10, unl (decide (n ≤ 4)) 8]
def clErr (l : List Cut) : Int := firstNZ (cntErr l.length :: l.map cutErr)

theorem blind_countErr (n : Int) (w : World) : Calls Try.prog 74 #[.int .i64 n] w fun e w' => e = .returned (.int .i64 (cntErr n)) ∧ Below w.heap.size w w' := by
  go_enter Try.func74, Try.ntmps74
  go_wp2_with (first | (go_at_call 78; refine (blind_unless _ _ _).mono ?_; rintro _ _ ⟨rfl, rfl⟩) | (go_at_call 75; refine (blind_first [unl (decide (0 < n)) 10, unl (decide (n ≤ 4)) 8] _ _ (intsAt_new _ _ _ _ _ rfl (by simp) (by simp))).mono ?_; rintro _ _ ⟨rfl, rfl⟩))
  go_ret
  exact ⟨ret_int rfl, by (repeat (with_reducible first | exact Below.refl _ _ | assumption | refine Below.drewN _ ?_ | refine Below.drew ?_ | refine Below_alloc ?_ _ | refine Below.alloc ?_ (by first | (simp; done) | (simp; omega) | omega) _ | refine Below.setCell ?_ (by first | (simp; done) | (simp; omega) | omega) _ | refine Below_call ?_ (by assumption) | refine Below.trans ?_ (by assumption)))⟩

set_option maxRecDepth 100000 in
theorem blind_cutErr (f lo hi : Int) (w : World) : Calls Try.prog 76 #[.agg #[.int .i64 f, .int .i64 lo, .int .i64 hi]] w fun e w' => e = .returned (.int .i64 (cutErr ⟨f, lo, hi⟩)) ∧ Below w.heap.size w w' := by
  cases hb : inB lo 0 100000
  · have HB := hid hb
    have HE : Hid (cutErr ⟨f, lo, hi⟩ = firstNZ [unl (inB f 0 2) 15, unl false 2, unl (decide (lo ≤ hi)) 9]) := hid (by simp [cutErr, hb])
    go_enter Try.func76, Try.ntmps76
    go_wp2_with fail
    ((refine wp_three [] [0, 1, 2, 3, 4, 5, 6, 7, 8, 9, 10, 11, 12, 13, 14, 15, 16, 17, 18] 19 (by kernel_rfl) (by kernel_rfl) ?_); (intro _ _); (simp only [pick, List.drop_succ_cons, List.drop_zero, List.head?_cons, Option.toList_some, List.cons_append, List.nil_append]); (repeat (first | (go_big_quiet_step (first|(go_at_call 77; exact quiet_same (blind_within _ _ _ _) ⟨_, rfl⟩)|(go_at_call 78; exact quiet_same (blind_unless _ _ _) ⟨_, rfl⟩)|(go_at_call 117; exact quiet_same (blind_isField _ _) ⟨_, rfl⟩))) | (quiet_step (first|(go_at_call 77; exact quiet_same (blind_within _ _ _ _) ⟨_, rfl⟩)|(go_at_call 78; exact quiet_same (blind_unless _ _ _) ⟨_, rfl⟩)|(go_at_call 117; exact quiet_same (blind_isField _ _) ⟨_, rfl⟩))))); (try refine wpQuiet_nil ?_); (repeat (first | (go_big_quiet_step (first|(go_at_call 77; exact quiet_same (blind_within _ _ _ _) ⟨_, rfl⟩)|(go_at_call 78; exact quiet_same (blind_unless _ _ _) ⟨_, rfl⟩)|(go_at_call 117; exact quiet_same (blind_isField _ _) ⟨_, rfl⟩))) | (quiet_step (first|(go_at_call 77; exact quiet_same (blind_within _ _ _ _) ⟨_, rfl⟩)|(go_at_call 78; exact quiet_same (blind_unless _ _ _) ⟨_, rfl⟩)|(go_at_call 117; exact quiet_same (blind_isField _ _) ⟨_, rfl⟩))))); (try refine wpQuiet_nil ?_); (intro nq))
    go_wp2_with (go_at_call 75; refine (blind_first [unl (inB f 0 2) 15, unl false 2, unl (decide (lo ≤ hi)) 9] _ _ (intsAt_new _ _ _ _ _ rfl (by simp) (by simp))).mono ?_; rintro _ _ ⟨rfl, rfl⟩)
    go_ret
    exact ⟨ret_int HE.out.symm, by (repeat (with_reducible first | exact Below.refl _ _ | assumption | refine Below.drewN _ ?_ | refine Below.drew ?_ | refine Below_alloc ?_ _ | refine Below.alloc ?_ (by first | (simp; done) | (simp; omega) | omega) _ | refine Below.setCell ?_ (by first | (simp; done) | (simp; omega) | omega) _ | refine Below_call ?_ (by assumption) | refine Below.trans ?_ (by assumption)))⟩
  · have HB := hid hb
    have HE : Hid (cutErr ⟨f, lo, hi⟩ = firstNZ [unl (inB f 0 2) 15, unl (inB hi 0 100000) 2, unl (decide (lo ≤ hi)) 9]) := hid (by simp [cutErr, hb])
    go_enter Try.func76, Try.ntmps76
    go_wp2_with fail
    ((refine wp_three [] [0, 1, 2, 3, 4, 5, 6, 7, 8, 9, 10, 11, 12, 13, 14, 15, 16, 17, 18] 19 (by kernel_rfl) (by kernel_rfl) ?_); (intro _ _); (simp only [pick, List.drop_succ_cons, List.drop_zero, List.head?_cons, Option.toList_some, List.cons_append, List.nil_append]); (repeat (first | (go_big_quiet_step (first|(go_at_call 77; exact quiet_same (blind_within _ _ _ _) ⟨_, rfl⟩)|(go_at_call 78; exact quiet_same (blind_unless _ _ _) ⟨_, rfl⟩)|(go_at_call 117; exact quiet_same (blind_isField _ _) ⟨_, rfl⟩))) | (quiet_step (first|(go_at_call 77; exact quiet_same (blind_within _ _ _ _) ⟨_, rfl⟩)|(go_at_call 78; exact quiet_same (blind_unless _ _ _) ⟨_, rfl⟩)|(go_at_call 117; exact quiet_same (blind_isField _ _) ⟨_, rfl⟩))))); (try refine wpQuiet_nil ?_); (repeat (first | (go_big_quiet_step (first|(go_at_call 77; exact quiet_same (blind_within _ _ _ _) ⟨_, rfl⟩)|(go_at_call 78; exact quiet_same (blind_unless _ _ _) ⟨_, rfl⟩)|(go_at_call 117; exact quiet_same (blind_isField _ _) ⟨_, rfl⟩))) | (quiet_step (first|(go_at_call 77; exact quiet_same (blind_within _ _ _ _) ⟨_, rfl⟩)|(go_at_call 78; exact quiet_same (blind_unless _ _ _) ⟨_, rfl⟩)|(go_at_call 117; exact quiet_same (blind_isField _ _) ⟨_, rfl⟩))))); (try refine wpQuiet_nil ?_); (intro nq))
    go_wp2_with (go_at_call 75; refine (blind_first [unl (inB f 0 2) 15, unl (inB hi 0 100000) 2, unl (decide (lo ≤ hi)) 9] _ _ (intsAt_new _ _ _ _ _ rfl (by simp) (by simp))).mono ?_; rintro _ _ ⟨rfl, rfl⟩)
    go_ret
    exact ⟨ret_int HE.out.symm, by (repeat (with_reducible first | exact Below.refl _ _ | assumption | refine Below.drewN _ ?_ | refine Below.drew ?_ | refine Below_alloc ?_ _ | refine Below.alloc ?_ (by first | (simp; done) | (simp; omega) | omega) _ | refine Below.setCell ?_ (by first | (simp; done) | (simp; omega) | omega) _ | refine Below_call ?_ (by assumption) | refine Below.trans ?_ (by assumption)))⟩

end Go.Proofs.Ytllddidjiabegaa
