/- What a method selects. -/
import Derived.Test.YtllddidjiabegaaW
set_option linter.unusedVariables false
set_option linter.unusedSimpArgs false
namespace Go.Proofs.Ytllddidjiabegaa
open Go.RowKit

theorem blind_methodErr (m : Meth) (cv : Value) (w : World) (h : ClausesAt w cv m.cs) :
    Calls Try.prog 79 #[methV cv m.p m.fr m.to] w fun e w' => e = .returned (.int .i64 (methErr m)) ∧ Below w.heap.size w w' := by
  have HC : Hid (∀ W, Below w.heap.size w W → Calls Try.prog 14 #[.agg #[cv, .int .i64 m.p, .int .i64 m.fr, .int .i64 m.to]] W fun e w' => e = .returned (.tuple #[.int .i64 (methIdx m), .int .i64 (methErr m)]) ∧ Below W.heap.size W w') := hid (fun W hW => blind_CheckMethod m cv W (h.below hW))
  clear h
  unfold methV
  go_enter Try.func79, Try.ntmps79
  go_wp2_with (go_at_call 14; refine (HC.out _ (by (repeat (with_reducible first | exact Below.refl _ _ | assumption | refine Below.drewN _ ?_ | refine Below.drew ?_ | refine Below_alloc ?_ _ | refine Below.alloc ?_ (by first | (simp; done) | (simp; omega) | omega) _ | refine Below.setCell ?_ (by first | (simp; done) | (simp; omega) | omega) _ | refine Below_call ?_ (by assumption) | refine Below.trans ?_ (by assumption))))).mono ?_; rintro _ w1 ⟨rfl, hb1⟩)
  go_ret
  exact ⟨rfl, by (repeat (with_reducible first | exact Below.refl _ _ | assumption | refine Below.drewN _ ?_ | refine Below.drew ?_ | refine Below_alloc ?_ _ | refine Below.alloc ?_ (by first | (simp; done) | (simp; omega) | omega) _ | refine Below.setCell ?_ (by first | (simp; done) | (simp; omega) | omega) _ | refine Below_call ?_ (by assumption) | refine Below.trans ?_ (by assumption)))⟩

def fld (x : Ev) (f : Int) : Int := if f = 0 then x.en else if f = 1 then x.ze else x.hi
def failC (x : Ev) (c : Cut) : Bool := !inB (fld x c.f) c.lo c.hi
def failL (x : Ev) (l : List Cut) : Bool := anyI (failC x) l
def selL (x : Ev) (cs : List (List Cut)) : Bool := anyI (fun l => !failL x l) cs
def okC (c : Cut) : Prop := 0 ≤ c.f ∧ c.f ≤ 2
def okL (l : List Cut) : Prop := ∀ c ∈ l, okC c
def okM (cs : List (List Cut)) : Prop := ∀ l ∈ cs, okL l

theorem anyC_take {f : Cut → Bool} {l : List Cut} {k : Nat} (h : k < l.length) : anyI f (l.take (k + 1)) = (anyI f (l.take k) || f (cutAt l k)) := by
  rw [cutAt_take h]; simp [anyI]
theorem anyC_at {f : Cut → Bool} {l : List Cut} {k : Nat} (h : k < l.length) (hf : f (cutAt l k) = true) : anyI f l = true := by
  rw [cutAt_lt h] at hf; simp only [anyI, List.any_eq_true]; exact ⟨_, List.getElem_mem h, hf⟩
theorem clAt_take {l : List (List Cut)} {k : Nat} (h : k < l.length) : l.take (k + 1) = l.take k ++ [clAt l k] := by
  rw [List.take_succ_eq_append_getElem h, clAt_lt h]
theorem anyL_take {f : List Cut → Bool} {l : List (List Cut)} {k : Nat} (h : k < l.length) : anyI f (l.take (k + 1)) = (anyI f (l.take k) || f (clAt l k)) := by
  rw [clAt_take h]; simp [anyI]
theorem anyL_at {f : List Cut → Bool} {l : List (List Cut)} {k : Nat} (h : k < l.length) (hf : f (clAt l k) = true) : anyI f l = true := by
  rw [clAt_lt h] at hf; simp only [anyI, List.any_eq_true]; exact ⟨_, List.getElem_mem h, hf⟩

/-- the fields of an event lie in a block. -/
def OwnAt (w : World) (b : Nat) (x : Ev) : Prop := b < w.heap.size ∧ w.cell? ⟨b, 0, none⟩ = some (.int .i64 x.en) ∧ w.cell? ⟨b, 1, none⟩ = some (.int .i64 x.ze) ∧ w.cell? ⟨b, 2, none⟩ = some (.int .i64 x.hi)
theorem OwnAt.below {w w' : World} {b : Nat} {x : Ev} (h : OwnAt w b x) (hb : Below w.heap.size w w') : OwnAt w' b x :=
  ⟨Nat.lt_of_lt_of_le h.1 hb.size, (hb.cell (p := ⟨b, 0, none⟩) h.1).trans h.2.1, (hb.cell (p := ⟨b, 1, none⟩) h.1).trans h.2.2.1, (hb.cell (p := ⟨b, 2, none⟩) h.1).trans h.2.2.2⟩

set_option maxRecDepth 100000 in
theorem blind_selects1 (x : Ev) (f lo hi : Int) (bo : Nat) (w : World) (ho : OwnAt w bo x) (hf : okC ⟨f, lo, hi⟩) :
    Calls Try.prog 121 #[.agg #[.int .i64 f, .int .i64 lo, .int .i64 hi], .pointer (some ⟨bo, 0, none⟩)] w fun e w' => e = .returned (.bool (failC x ⟨f, lo, hi⟩)) ∧ Below w.heap.size w w' := by
  obtain ⟨hb, o0, o1, o2⟩ := ho
  obtain ⟨hf0, hf2⟩ := hf
  simp only at hf0 hf2
  have hoc : w.cell? ⟨bo, f.toNat, none⟩ = some (.int .i64 (fld x f)) := by
    rcases (by omega : f = 0 ∨ f = 1 ∨ f = 2) with rfl | rfl | rfl
    · simpa [fld] using o0
    · simpa [fld] using o1
    · simpa [fld] using o2
  have hf3 : f < 3 := by omega
  have HF : Hid (failC x ⟨f, lo, hi⟩ = !inB (fld x f) lo hi) := hid rfl
  clear o0 o1 o2
  go_enter Try.func121, Try.ntmps121
  go_wp2_with fail
  ((refine wp_three [] [0, 1, 2, 3, 4, 5, 6, 7, 8, 9] 10 (by kernel_rfl) (by kernel_rfl) ?_); (intro _ _); (simp only [pick, List.drop_succ_cons, List.drop_zero, List.head?_cons, Option.toList_some, List.cons_append, List.nil_append]); (repeat (first | (go_big_quiet_step ((go_at_call 77; exact quiet_same (blind_within _ _ _ _) ⟨_, rfl⟩))) | (quiet_step ((go_at_call 77; exact quiet_same (blind_within _ _ _ _) ⟨_, rfl⟩))))); (try refine wpQuiet_nil ?_); (repeat (first | (go_big_quiet_step ((go_at_call 77; exact quiet_same (blind_within _ _ _ _) ⟨_, rfl⟩))) | (quiet_step ((go_at_call 77; exact quiet_same (blind_within _ _ _ _) ⟨_, rfl⟩))))); (try refine wpQuiet_nil ?_); (intro nq))
  go_wp2
  go_ret
  exact ⟨ret_bool HF.out.symm, by (repeat (with_reducible first | exact Below.refl _ _ | assumption | refine Below.drewN _ ?_ | refine Below.drew ?_ | refine Below_alloc ?_ _ | refine Below.alloc ?_ (by first | (simp; done) | (simp; omega) | omega) _ | refine Below.setCell ?_ (by first | (simp; done) | (simp; omega) | omega) _ | refine Below_call ?_ (by assumption) | refine Below.trans ?_ (by assumption)))⟩

set_option maxRecDepth 100000 in
theorem cut_IndexFunc (x : Ev) (l : List Cut) (v : Value) (bo : Nat) (w : World) (h : CutsAt w v l) (ho : OwnAt w bo x) (hok : okL l) :
    Calls Try.prog 149 #[v, .func (.func 121) #[] #[.pointer (some ⟨bo, 0, none⟩)]] w fun e w' => ∃ r : Int, e = .returned (.int .i64 r) ∧ decide (0 ≤ r) = failL x l ∧ Below w.heap.size w w' := by
  obtain ⟨ao, cap, rfl, h1, h2, h3⟩ := h.opn
  unfold maxLen at h2
  go_enter Try.func149, Try.ntmps149
  go_wp2_with fail
  go_loopw [8] (fun i wr => ∃ k : Nat, k ≤ l.length ∧ i = .int .i64 k ∧ Hid (anyI (failC x) (l.take k) = false) ∧ Below w.heap.size w wr) (fun i _ => l.length - (intOf i).toNat)
  case atStart => exact ⟨0, Nat.zero_le _, rfl, hid (by simp [anyI]), Below.refl _ _⟩
  case round =>
    obtain ⟨k, hk, rfl, HZ, hbel⟩ := hrel
    have hzw := hbel.size
    by_cases hlt : k < l.length
    · obtain ⟨b, off, rfl, hb, hc⟩ := h3 k hlt
      obtain ⟨c0, c1, c2⟩ := hc k hlt
      obtain ⟨hcb, hfb⟩ := bcell hbel
      rw [← hcb b _ hb] at c0 c1 c2
      have ho' := ho.below hbel
      have HAT := hid (anyC_take (f := failC x) hlt)
      have HAA := hid (anyC_at (f := failC x) hlt)
      have hkc : okC (cutAt l k) := by rw [cutAt_lt hlt]; exact hok _ (List.getElem_mem hlt)
      obtain ⟨c, hx⟩ : ∃ c, c = cutAt l k := ⟨_, rfl⟩
      rw [← hx] at c0 c1 c2 HAT HAA hkc
      obtain ⟨f, lo, hi⟩ := c
      simp only at c0 c1 c2
      clear hc h3 hcb hfb hx h hok ho
      cases ht : failC x ⟨f, lo, hi⟩
      · have HT := hid ht
        go_wp2_with (go_at_call 121; refine (blind_selects1 x f lo hi bo _ ho' hkc).mono ?_; rintro _ w1 ⟨rfl, hb1⟩; obtain ⟨hc1, hf1⟩ := bcell hb1; have hz1 := hb1.size; (try simp only [World.size_alloc, World.heap_drewN] at hz1))
        go_roundw
        case rel => exact ⟨k + 1, by omega, by go_num, hid (by rw [HAT.out, HZ.out, HT.out]; rfl), by (repeat (with_reducible first | exact Below.refl _ _ | assumption | refine Below.drewN _ ?_ | refine Below.drew ?_ | refine Below_alloc ?_ _ | refine Below.alloc ?_ (by first | (simp; done) | (simp; omega) | omega) _ | refine Below.setCell ?_ (by first | (simp; done) | (simp; omega) | omega) _ | refine Below_call ?_ (by assumption) | refine Below.trans ?_ (by assumption)))⟩
        case measure => simp [intOf]; omega
      · have HT := hid ht
        go_wp2_with (go_at_call 121; refine (blind_selects1 x f lo hi bo _ ho' hkc).mono ?_; rintro _ w1 ⟨rfl, hb1⟩; obtain ⟨hc1, hf1⟩ := bcell hb1; have hz1 := hb1.size; (try simp only [World.size_alloc, World.heap_drewN] at hz1))
        go_ret
        exact ⟨k, rfl, by unfold failL; rw [HAA.out HT.out]; simp, by (repeat (with_reducible first | exact Below.refl _ _ | assumption | refine Below.drewN _ ?_ | refine Below.drew ?_ | refine Below_alloc ?_ _ | refine Below.alloc ?_ (by first | (simp; done) | (simp; omega) | omega) _ | refine Below.setCell ?_ (by first | (simp; done) | (simp; omega) | omega) _ | refine Below_call ?_ (by assumption) | refine Below.trans ?_ (by assumption)))⟩
    · have hkl : k = l.length := by omega
      subst hkl
      go_wp2_with fail
      go_ret
      refine ⟨-1, rfl, ?_, hbel⟩
      have := HZ.out
      rw [List.take_length] at this
      unfold failL
      rw [this]; rfl

theorem cut_ContainsFunc (x : Ev) (l : List Cut) (v : Value) (bo : Nat) (w : World) (h : CutsAt w v l) (ho : OwnAt w bo x) (hok : okL l) :
    Calls Try.prog 124 #[v, .func (.func 121) #[] #[.pointer (some ⟨bo, 0, none⟩)]] w fun e w' => e = .returned (.bool (failL x l)) ∧ Below w.heap.size w w' := by
  go_enter Try.func124, Try.ntmps124
  go_wp2_with (go_at_call 149; refine (cut_IndexFunc x _ _ _ _ h ho hok).mono ?_; rintro _ w1 ⟨r, rfl, hr, hb1⟩)
  go_ret
  exact ⟨ret_bool (by rw [← hr]), hb1⟩

theorem blind_selects2 (x : Ev) (l : List Cut) (v : Value) (bo bf : Nat) (w : World) (h : CutsAt w v l) (ho : OwnAt w bo x) (hok : okL l) (hfn : w.cell? ⟨bf, 0, none⟩ = some (.func (.func 121) #[] #[.pointer (some ⟨bo, 0, none⟩)])) :
    Calls Try.prog 123 #[v, .pointer (some ⟨bf, 0, none⟩)] w fun e w' => e = .returned (.bool (!failL x l)) ∧ Below w.heap.size w w' := by
  go_enter Try.func123, Try.ntmps123
  go_wp2_with (go_at_call 124; refine (cut_ContainsFunc x l _ bo _ h ho hok).mono ?_; rintro _ w1 ⟨rfl, hb1⟩; obtain ⟨hc1, hf1⟩ := bcell hb1; have hz1 := hb1.size; (try simp only [World.size_alloc, World.heap_drewN] at hz1))
  go_ret
  exact ⟨rfl, hb1⟩

set_option maxRecDepth 100000 in
theorem cl_IndexFunc (x : Ev) (l : List (List Cut)) (v : Value) (bo bf : Nat) (w : World) (h : ClausesAt w v l) (ho : OwnAt w bo x) (hok : okM l) (hbf : bf < w.heap.size) (hfn : w.cell? ⟨bf, 0, none⟩ = some (.func (.func 121) #[] #[.pointer (some ⟨bo, 0, none⟩)])) :
    Calls Try.prog 148 #[v, .func (.func 123) #[] #[.pointer (some ⟨bf, 0, none⟩)]] w fun e w' => ∃ r : Int, e = .returned (.int .i64 r) ∧ decide (0 ≤ r) = selL x l ∧ Below w.heap.size w w' := by
  obtain ⟨ao, cap, us, rfl, h1, h2, h3⟩ := h.opn
  unfold maxLen at h2
  go_enter Try.func148, Try.ntmps148
  go_wp2_with fail
  go_loopw [8] (fun i wr => ∃ k : Nat, k ≤ l.length ∧ i = .int .i64 k ∧ Hid (anyI (fun c => !failL x c) (l.take k) = false) ∧ Below w.heap.size w wr) (fun i _ => l.length - (intOf i).toNat)
  case atStart => exact ⟨0, Nat.zero_le _, rfl, hid (by simp [anyI]), Below.refl _ _⟩
  case round =>
    obtain ⟨k, hk, rfl, HZ, hbel⟩ := hrel
    have hzw := hbel.size
    by_cases hlt : k < l.length
    · obtain ⟨b, off, rfl, hb, hc⟩ := h3 k hlt
      obtain ⟨c0, hcu⟩ := hc k hlt
      obtain ⟨hcb, hfb⟩ := bcell hbel
      rw [← hcb b _ hb] at c0
      replace hcu := hcu.below hbel
      have ho' := ho.below hbel
      have hfn' := (hcb bf 0 hbf).trans hfn
      have HAT := hid (anyL_take (f := fun c => !failL x c) hlt)
      have HAA := hid (anyL_at (f := fun c => !failL x c) hlt)
      have hkc : okL (clAt l k) := by rw [clAt_lt hlt]; exact hok _ (List.getElem_mem hlt)
      obtain ⟨cl, hcl⟩ : ∃ cl, cl = clAt l k := ⟨_, rfl⟩
      rw [← hcl] at hcu HAT HAA hkc
      obtain ⟨u, hu⟩ : ∃ u, u = us k := ⟨_, rfl⟩
      rw [← hu] at hcu c0
      clear hc h3 hcb hfb hcl h hok ho hfn hu
      cases ht : failL x cl
      · have HT := hid ht
        go_wp2_with (go_at_call 123; refine (blind_selects2 x cl u bo bf _ hcu ho' hkc hfn').mono ?_; rintro _ w1 ⟨rfl, hb1⟩; obtain ⟨hc1, hf1⟩ := bcell hb1; have hz1 := hb1.size; (try simp only [World.size_alloc, World.heap_drewN] at hz1))
        go_ret
        exact ⟨k, rfl, by unfold selL; rw [HAA.out (by rw [HT.out]; rfl)]; simp, by (repeat (with_reducible first | exact Below.refl _ _ | assumption | refine Below.drewN _ ?_ | refine Below.drew ?_ | refine Below_alloc ?_ _ | refine Below.alloc ?_ (by first | (simp; done) | (simp; omega) | omega) _ | refine Below.setCell ?_ (by first | (simp; done) | (simp; omega) | omega) _ | refine Below_call ?_ (by assumption) | refine Below.trans ?_ (by assumption)))⟩
      · have HT := hid ht
        go_wp2_with (go_at_call 123; refine (blind_selects2 x cl u bo bf _ hcu ho' hkc hfn').mono ?_; rintro _ w1 ⟨rfl, hb1⟩; obtain ⟨hc1, hf1⟩ := bcell hb1; have hz1 := hb1.size; (try simp only [World.size_alloc, World.heap_drewN] at hz1))
        go_roundw
        case rel => exact ⟨k + 1, by omega, by go_num, hid (by rw [HAT.out, HZ.out, HT.out]; rfl), by (repeat (with_reducible first | exact Below.refl _ _ | assumption | refine Below.drewN _ ?_ | refine Below.drew ?_ | refine Below_alloc ?_ _ | refine Below.alloc ?_ (by first | (simp; done) | (simp; omega) | omega) _ | refine Below.setCell ?_ (by first | (simp; done) | (simp; omega) | omega) _ | refine Below_call ?_ (by assumption) | refine Below.trans ?_ (by assumption)))⟩
        case measure => simp [intOf]; omega
    · have hkl : k = l.length := by omega
      subst hkl
      go_wp2_with fail
      go_ret
      refine ⟨-1, rfl, ?_, hbel⟩
      have := HZ.out
      rw [List.take_length] at this
      unfold selL
      rw [this]; rfl

theorem cl_ContainsFunc (x : Ev) (l : List (List Cut)) (v : Value) (bo bf : Nat) (w : World) (h : ClausesAt w v l) (ho : OwnAt w bo x) (hok : okM l) (hbf : bf < w.heap.size) (hfn : w.cell? ⟨bf, 0, none⟩ = some (.func (.func 121) #[] #[.pointer (some ⟨bo, 0, none⟩)])) :
    Calls Try.prog 122 #[v, .func (.func 123) #[] #[.pointer (some ⟨bf, 0, none⟩)]] w fun e w' => e = .returned (.bool (selL x l)) ∧ Below w.heap.size w w' := by
  go_enter Try.func122, Try.ntmps122
  go_wp2_with (go_at_call 148; refine (cl_IndexFunc x _ _ _ _ _ h ho hok hbf hfn).mono ?_; rintro _ w1 ⟨r, rfl, hr, hb1⟩)
  go_ret
  exact ⟨ret_bool (by rw [← hr]), hb1⟩

end Go.Proofs.Ytllddidjiabegaa
