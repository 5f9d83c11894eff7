/- What a method selects. -/
import Derived.Test.YtllddidjiabegaaK3
import Derived.Laws.EntriesVeiled
import Derived.Test.YtllddidjiabegaaK1
import Derived.Laws.NewBlocks
import Derived.Laws.IdiomStrings
set_option linter.unusedVariables false
set_option linter.unusedSimpArgs false
namespace Go.Proofs.Ytllddidjiabegaa
open Go.RowKit

theorem blind_methodErr (m : Meth) (cv : Value) (w : World) (h : ClausesAt w cv m.cs) :
    Calls Try.prog 79 #[methV cv m.p m.fr m.to] w fun e w' => e = .returned (.int .i64 (methErr m)) ∧ Below w.heap.size w w' := by
  have HC : Hid (∀ W, Below w.heap.size w W → Calls Try.prog 14 #[.agg #[cv, .int .i64 m.p, .int .i64 m.fr, .int .i64 m.to]] W fun e w' => e = .returned (.tuple #[.int .i64 (methIdx m), .int .i64 (methErr m)]) ∧ Below W.heap.size W w') := hid (fun W hW => blind_CheckMethod m cv W (h.below hW))
  clear h
  unfold methV
  go_enter Try.func79, Try.ntmps79
  go_wp2_with (go_at_call 14; refine (HC.out _ (by (repeat (with_reducible first | exact Below.refl _ _ | assumption | refine Below.drewN _ ?_ | refine Below.drew ?_ | refine Below_alloc ?_ _ | refine Below.alloc ?_ (by first | (simp; done) | (simp; omega) | omega) _ | refine Below.setCell ?_ (by first | (simp; done) | (simp; omega) | omega) _ | refine Below_call ?_ (by assumption) | refine Below.trans ?_ (by assumption))))).mono ?_; rintro _ w1 ⟨rfl, hb1⟩)
  go_ret
  exact ⟨rfl, by (repeat (with_reducible first | exact Below.refl _ _ | assumption | refine Below.drewN _ ?_ | refine Below.drew ?_ | refine Below_alloc ?_ _ | refine Below.alloc ?_ (by first | (simp; done) | (simp; omega) | omega) _ | refine Below.setCell ?_ (by first | (simp; done) | (simp; omega) | omega) _ | refine Below_call ?_ (by assumption) | refine Below.trans ?_ (by assumption)))⟩

def fld (x : Ev) (f : Int) : Int := if f = 0 then x.en else if f = 1 then x.ze else x.hi
def failC (x : Ev) (c : Cut) : Bool := !inB (fld x c.f) c.lo c.hi
def failL (x : Ev) (l : List Cut) : Bool := anyI (failC x) l
def selL (x : Ev) (cs : List (List Cut)) : Bool := anyI (fun l => !failL x l) cs
def okC (c : Cut) : Prop := 0 ≤ c.f ∧ c.f ≤ 2
def okL (l : List Cut) : Prop := ∀ c ∈ l, okC c
def okM (cs : List (List Cut)) : Prop := ∀ l ∈ cs, okL l

theorem anyC_take {f : Cut → Bool} {l : List Cut} {k : Nat} (h : k < l.length) : anyI f (l.take (k + 1)) = (anyI f (l.take k) || f (cutAt l k)) := by
  rw [cutAt_take h]; simp [anyI]
theorem anyC_at {f : Cut → Bool} {l : List Cut} {k : Nat} (h : k < l.length) (hf : f (cutAt l k) = true) : anyI f l = true := by
  rw [cutAt_lt h] at hf; simp only [anyI, List.any_eq_true]; exact ⟨_, List.getElem_mem h, hf⟩
theorem clAt_take {l : List (List Cut)} {k : Nat} (h : k < l.length) : l.take (k + 1) = l.take k ++ [clAt l k] := by
  rw [List.take_succ_eq_append_getElem h, clAt_lt h]
theorem anyL_take {f : List Cut → Bool} {l : List (List Cut)} {k : Nat} (h : k < l.length) : anyI f (l.take (k + 1)) = (anyI f (l.take k) || f (clAt l k)) := by
  rw [clAt_take h]; simp [anyI]
theorem anyL_at {f : List Cut → Bool} {l : List (List Cut)} {k : Nat} (h : k < l.length) (hf : f (clAt l k) = true) : anyI f l = true := by
  rw [clAt_lt h] at hf; simp only [anyI, List.any_eq_true]; exact ⟨_, List.getElem_mem h, hf⟩

/-- the fields of an event lie in a block. -/
def OwnAt (w : World) (b : Nat) (x : Ev) : Prop := b < w.heap.size ∧ w.cell? ⟨b, 0, none⟩ = some (.int .i64 x.en) ∧ w.cell? ⟨b, 1, none⟩ = some (.int .i64 x.ze) ∧ w.cell? ⟨b, 2, none⟩ = some (.int .i64 x.hi)
theorem OwnAt.below {w w' : World} {b : Nat} {x : Ev} (h : OwnAt w b x) (hb : Below w.heap.size w w') : OwnAt w' b x :=
  ⟨Nat.lt_of_lt_of_le h.1 hb.size, (hb.cell (p := ⟨b, 0, none⟩) h.1).trans h.2.1, (hb.cell (p := ⟨b, 1, none⟩) h.1).trans h.2.2.1, (hb.cell (p := ⟨b, 2, none⟩) h.1).trans h.2.2.2⟩

set_option maxRecDepth 100000 in
theorem blind_selects1 (x : Ev) (f lo hi : Int) (bo : Nat) (w : World) (ho : OwnAt w bo x) (hf : okC ⟨f, lo, hi⟩) :
    Calls Try.prog 121 #[.agg #[.int .i64 f, .int .i64 lo, .int .i64 hi], .pointer (some ⟨bo, 0, none⟩)] w fun e w' => e = .returned (.bool (failC x ⟨f, lo, hi⟩)) ∧ Below w.heap.size w w' := by
  obtain ⟨hb, o0, o1, o2⟩ := ho
  obtain ⟨hf0, hf2⟩ := hf
  simp only at hf0 hf2
  have hoc : w.cell? ⟨bo, f.toNat, none⟩ = some (.int .i64 (fld x f)) := by
    rcases (by omega : f = 0 ∨ f = 1 ∨ f = 2) with rfl | rfl | rfl
    · simpa [fld] using o0
    · simpa [fld] using o1
    · simpa [fld] using o2
  have hf3 : f < 3 := by omega
  have HF : Hid (failC x ⟨f, lo, hi⟩ = !inB (fld x f) lo hi) := hid rfl
  clear o0 o1 o2
  go_enter Try.func121, Try.ntmps121
  go_wp2_with fail
  ((refine wp_three [] [0, 1, 2, 3, 4, 5, 6, 7, 8, 9] 10 (by kernel_rfl) (by kernel_rfl) ?_); (intro _ _); (simp only [pick, List.drop_succ_cons, List.drop_zero, List.head?_cons, Option.toList_some, List.cons_append, List.nil_append]); (repeat (first | (go_big_quiet_step ((go_at_call 77; exact quiet_same (blind_within _ _ _ _) ⟨_, rfl⟩))) | (quiet_step ((go_at_call 77; exact quiet_same (blind_within _ _ _ _) ⟨_, rfl⟩))))); (try refine wpQuiet_nil ?_); (repeat (first | (go_big_quiet_step ((go_at_call 77; exact quiet_same (blind_within _ _ _ _) ⟨_, rfl⟩))) | (quiet_step ((go_at_call 77; exact quiet_same (blind_within _ _ _ _) ⟨_, rfl⟩))))); (try refine wpQuiet_nil ?_); (intro nq))
  go_wp2
  go_ret
  exact ⟨ret_bool HF.out.symm, by (repeat (with_reducible first | exact Below.refl _ _ | assumption | refine Below.drewN _ ?_ | refine Below.drew ?_ | refine Below_alloc ?_ _ | refine Below.alloc ?_ (by first | (simp; done) | (simp; omega) | omega) _ | refine Below.setCell ?_ (by first | (simp; done) | (simp; omega) | omega) _ | refine Below_call ?_ (by assumption) | refine Below.trans ?_ (by assumption)))⟩

set_option maxRecDepth 100000 in
theorem cut_IndexFunc (x : Ev) (l : List Cut) (v : Value) (bo : Nat) (w : World) (h : CutsAt w v l) (ho : OwnAt w bo x) (hok : okL l) :
    Calls Try.prog 149 #[v, .func (.func 121) #[] #[.pointer (some ⟨bo, 0, none⟩)]] w fun e w' => ∃ r : Int, e = .returned (.int .i64 r) ∧ decide (0 ≤ r) = failL x l ∧ Below w.heap.size w w' := by
  obtain ⟨ao, cap, rfl, h1, h2, h3⟩ := h.opn
  unfold maxLen at h2
  go_enter Try.func149, Try.ntmps149
  go_wp2_with fail
  go_loopw [8] (fun i wr => ∃ k : Nat, k ≤ l.length ∧ i = .int .i64 k ∧ Hid (anyI (failC x) (l.take k) = false) ∧ Below w.heap.size w wr) (fun i _ => l.length - (intOf i).toNat)
  case atStart => exact ⟨0, Nat.zero_le _, rfl, hid (by simp [anyI]), Below.refl _ _⟩
  case round =>
    obtain ⟨k, hk, rfl, HZ, hbel⟩ := hrel
    have hzw := hbel.size
    by_cases hlt : k < l.length
    · obtain ⟨b, off, rfl, hb, hc⟩ := h3 k hlt
      obtain ⟨c0, c1, c2⟩ := hc k hlt
      obtain ⟨hcb, hfb⟩ := bcell hbel
      rw [← hcb b _ hb] at c0 c1 c2
      have ho' := ho.below hbel
      have HAT := hid (anyC_take (f := failC x) hlt)
      have HAA := hid (anyC_at (f := failC x) hlt)
      have hkc : okC (cutAt l k) := by rw [cutAt_lt hlt]; exact hok _ (List.getElem_mem hlt)
      obtain ⟨c, hx⟩ : ∃ c, c = cutAt l k := ⟨_, rfl⟩
      rw [← hx] at c0 c1 c2 HAT HAA hkc
      obtain ⟨f, lo, hi⟩ := c
      simp only at c0 c1 c2
      clear hc h3 hcb hfb hx h hok ho
      cases ht : failC x ⟨f, lo, hi⟩
      · have HT := hid ht
        go_wp2_with (go_at_call 121; refine (blind_selects1 x f lo hi bo _ ho' hkc).mono ?_; rintro _ w1 ⟨rfl, hb1⟩; obtain ⟨hc1, hf1⟩ := bcell hb1; have hz1 := hb1.size; (try simp only [World.size_alloc, World.heap_drewN] at hz1))
        go_roundw
        case rel => exact ⟨k + 1, by omega, by go_num, hid (by rw [HAT.out, HZ.out, HT.out]; rfl), by (repeat (with_reducible first | exact Below.refl _ _ | assumption | refine Below.drewN _ ?_ | refine Below.drew ?_ | refine Below_alloc ?_ _ | refine Below.alloc ?_ (by first | (simp; done) | (simp; omega) | omega) _ | refine Below.setCell ?_ (by first | (simp; done) | (simp; omega) | omega) _ | refine Below_call ?_ (by assumption) | refine Below.trans ?_ (by assumption)))⟩
        case measure => simp [intOf]; omega
      · have HT := hid ht
        go_wp2_with (go_at_call 121; refine (blind_selects1 x f lo hi bo _ ho' hkc).mono ?_; rintro _ w1 ⟨rfl, hb1⟩; obtain ⟨hc1, hf1⟩ := bcell hb1; have hz1 := hb1.size; (try simp only [World.size_alloc, World.heap_drewN] at hz1))
        go_ret
        exact ⟨k, rfl, by unfold failL; rw [HAA.out HT.out]; simp, by (repeat (with_reducible first | exact Below.refl _ _ | assumption | refine Below.drewN _ ?_ | refine Below.drew ?_ | refine Below_alloc ?_ _ | refine Below.alloc ?_ (by first | (simp; done) | (simp; omega) | omega) _ | refine Below.setCell ?_ (by first | (simp; done) | (simp; omega) | omega) _ | refine Below_call ?_ (by assumption) | refine Below.trans ?_ (by assumption)))⟩
    · have hkl : k = l.length := by omega
      subst hkl
      go_wp2_with fail
      go_ret
      refine ⟨-1, rfl, ?_, hbel⟩
      have := HZ.out
      rw [List.take_length] at this
      unfold failL
      rw [this]; rfl

theorem cut_ContainsFunc (x : Ev) (l : List Cut) (v : Value) (bo : Nat) (w : World) (h : CutsAt w v l) (ho : OwnAt w bo x) (hok : okL l) :
    Calls Try.prog 124 #[v, .func (.func 121) #[] #[.pointer (some ⟨bo, 0, none⟩)]] w fun e w' => e = .returned (.bool (failL x l)) ∧ Below w.heap.size w w' := by
  go_enter Try.func124, Try.ntmps124
  go_wp2_with (go_at_call 149; refine (cut_IndexFunc x _ _ _ _ h ho hok).mono ?_; rintro _ w1 ⟨r, rfl, hr, hb1⟩)
  go_ret
  exact ⟨ret_bool (by rw [← hr]), hb1⟩

theorem blind_selects2 (x : Ev) (l : List Cut) (v : Value) (bo bf : Nat) (w : World) (h : CutsAt w v l) (ho : OwnAt w bo x) (hok : okL l) (hfn : w.cell? ⟨bf, 0, none⟩ = some (.func (.func 121) #[] #[.pointer (some ⟨bo, 0, none⟩)])) :
    Calls Try.prog 123 #[v, .pointer (some ⟨bf, 0, none⟩)] w fun e w' => e = .returned (.bool (!failL x l)) ∧ Below w.heap.size w w' := by
  go_enter Try.func123, Try.ntmps123
  go_wp2_with (go_at_call 124; refine (cut_ContainsFunc x l _ bo _ h ho hok).mono ?_; rintro _ w1 ⟨rfl, hb1⟩; obtain ⟨hc1, hf1⟩ := bcell hb1; have hz1 := hb1.size; (try simp only [World.size_alloc, World.heap_drewN] at hz1))
  go_ret
  exact ⟨rfl, hb1⟩

set_option maxRecDepth 100000 in
theorem cl_IndexFunc (x : Ev) (l : List (List Cut)) (v : Value) (bo bf : Nat) (w : World) (h : ClausesAt w v l) (ho : OwnAt w bo x) (hok : okM l) (hbf : bf < w.heap.size) (hfn : w.cell? ⟨bf, 0, none⟩ = some (.func (.func 121) #[] #[.pointer (some ⟨bo, 0, none⟩)])) :
    Calls Try.prog 148 #[v, .func (.func 123) #[] #[.pointer (some ⟨bf, 0, none⟩)]] w fun e w' => ∃ r : Int, e = .returned (.int .i64 r) ∧ decide (0 ≤ r) = selL x l ∧ Below w.heap.size w w' := by
  obtain ⟨ao, cap, us, rfl, h1, h2, h3⟩ := h.opn
  unfold maxLen at h2
  go_enter Try.func148, Try.ntmps148
  go_wp2_with fail
  go_loopw [8] (fun i wr => ∃ k : Nat, k ≤ l.length ∧ i = .int .i64 k ∧ Hid (anyI (fun c => !failL x c) (l.take k) = false) ∧ Below w.heap.size w wr) (fun i _ => l.length - (intOf i).toNat)
  case atStart => exact ⟨0, Nat.zero_le _, rfl, hid (by simp [anyI]), Below.refl _ _⟩
  case round =>
    obtain ⟨k, hk, rfl, HZ, hbel⟩ := hrel
    have hzw := hbel.size
    by_cases hlt : k < l.length
    · obtain ⟨b, off, rfl, hb, hc⟩ := h3 k hlt
      obtain ⟨c0, hcu⟩ := hc k hlt
      obtain ⟨hcb, hfb⟩ := bcell hbel
      rw [← hcb b _ hb] at c0
      replace hcu := hcu.below hbel
      have ho' := ho.below hbel
      have hfn' := (hcb bf 0 hbf).trans hfn
      have HAT := hid (anyL_take (f := fun c => !failL x c) hlt)
      have HAA := hid (anyL_at (f := fun c => !failL x c) hlt)
      have hkc : okL (clAt l k) := by rw [clAt_lt hlt]; exact hok _ (List.getElem_mem hlt)
      obtain ⟨cl, hcl⟩ : ∃ cl, cl = clAt l k := ⟨_, rfl⟩
      rw [← hcl] at hcu HAT HAA hkc
      obtain ⟨u, hu⟩ : ∃ u, u = us k := ⟨_, rfl⟩
      rw [← hu] at hcu c0
      clear hc h3 hcb hfb hcl h hok ho hfn hu
      cases ht : failL x cl
      · have HT := hid ht
        go_wp2_with (go_at_call 123; refine (blind_selects2 x cl u bo bf _ hcu ho' hkc hfn').mono ?_; rintro _ w1 ⟨rfl, hb1⟩; obtain ⟨hc1, hf1⟩ := bcell hb1; have hz1 := hb1.size; (try simp only [World.size_alloc, World.heap_drewN] at hz1))
        go_ret
        exact ⟨k, rfl, by unfold selL; rw [HAA.out (by rw [HT.out]; rfl)]; simp, by (repeat (with_reducible first | exact Below.refl _ _ | assumption | refine Below.drewN _ ?_ | refine Below.drew ?_ | refine Below_alloc ?_ _ | refine Below.alloc ?_ (by first | (simp; done) | (simp; omega) | omega) _ | refine Below.setCell ?_ (by first | (simp; done) | (simp; omega) | omega) _ | refine Below_call ?_ (by assumption) | refine Below.trans ?_ (by assumption)))⟩
      · have HT := hid ht
        go_wp2_with (go_at_call 123; refine (blind_selects2 x cl u bo bf _ hcu ho' hkc hfn').mono ?_; rintro _ w1 ⟨rfl, hb1⟩; obtain ⟨hc1, hf1⟩ := bcell hb1; have hz1 := hb1.size; (try simp only [World.size_alloc, World.heap_drewN] at hz1))
        go_roundw
        case rel => exact ⟨k + 1, by omega, by go_num, hid (by rw [HAT.out, HZ.out, HT.out]; rfl), by (repeat (with_reducible first | exact Below.refl _ _ | assumption | refine Below.drewN _ ?_ | refine Below.drew ?_ | refine Below_alloc ?_ _ | refine Below.alloc ?_ (by first | (simp; done) | (simp; omega) | omega) _ | refine Below.setCell ?_ (by first | (simp; done) | (simp; omega) | omega) _ | refine Below_call ?_ (by assumption) | refine Below.trans ?_ (by assumption)))⟩
        case measure => simp [intOf]; omega
    · have hkl : k = l.length := by omega
      subst hkl
      go_wp2_with fail
      go_ret
      refine ⟨-1, rfl, ?_, hbel⟩
      have := HZ.out
      rw [List.take_length] at this
      unfold selL
      rw [this]; rfl

theorem cl_ContainsFunc (x : Ev) (l : List (List Cut)) (v : Value) (bo bf : Nat) (w : World) (h : ClausesAt w v l) (ho : OwnAt w bo x) (hok : okM l) (hbf : bf < w.heap.size) (hfn : w.cell? ⟨bf, 0, none⟩ = some (.func (.func 121) #[] #[.pointer (some ⟨bo, 0, none⟩)])) :
    Calls Try.prog 122 #[v, .func (.func 123) #[] #[.pointer (some ⟨bf, 0, none⟩)]] w fun e w' => e = .returned (.bool (selL x l)) ∧ Below w.heap.size w w' := by
  go_enter Try.func122, Try.ntmps122
  go_wp2_with (go_at_call 148; refine (cl_IndexFunc x _ _ _ _ _ h ho hok hbf hfn).mono ?_; rintro _ w1 ⟨r, rfl, hr, hb1⟩)
  go_ret
  exact ⟨ret_bool (by rw [← hr]), hb1⟩

end Go.Proofs.Ytllddidjiabegaa

/- What a method selects and counts: the program. -/
set_option linter.unusedVariables false
set_option linter.unusedSimpArgs false
namespace Go.Proofs.Ytllddidjiabegaa
open Go.RowKit

theorem clErr_okL {l : List Cut} (h : clErr l = 0) : okL l := by
  intro c hc
  unfold clErr at h
  rw [firstNZ_zero] at h
  have := h (cutErr c) (by simp only [List.mem_cons]; exact Or.inr (List.mem_map.2 ⟨c, hc, rfl⟩))
  unfold cutErr at this
  rw [firstNZ_zero] at this
  have h1 := this _ (List.mem_cons_self ..)
  unfold unl at h1
  split at h1
  · rename_i hb; exact inB_true.1 hb
  · cases h1
theorem methErr_okM {m : Meth} (h : methErr m = 0) : okM m.cs ∧ (m.cs.length ≤ 4 ∧ 0 < m.cs.length) ∧ (∀ l ∈ m.cs, clErr l = 0) ∧ winErr m.p m.fr m.to = 0 := by
  unfold methErr at h
  rw [firstNZ_zero] at h
  have h1 : cntErr m.cs.length = 0 := h _ (by simp)
  have h2 : scan (fun i => clErr (clAt m.cs i)) m.cs.length = 0 := h _ (by simp)
  have h3 : winErr m.p m.fr m.to = 0 := h _ (by simp)
  have h4 : ∀ l ∈ m.cs, clErr l = 0 := by
    intro l hl
    obtain ⟨j, hj, rfl⟩ := List.mem_iff_getElem.1 hl
    have := scan_zero h2 j hj
    rwa [clAt_lt hj] at this
  refine ⟨fun l hl => clErr_okL (h4 l hl), ?_, h4, h3⟩
  refine ⟨Nat.le_of_not_lt fun h5 => ?_, Nat.pos_of_ne_zero fun h5 => ?_⟩
  · rw [cntErr_big (by omega)] at h1; cases h1
  · rw [cntErr_zero (by omega)] at h1; cases h1
theorem winErr_ok {p fr to : Int} (h : winErr p fr to = 0) : (1 ≤ p ∧ p ≤ 100000) ∧ (0 ≤ fr ∧ fr ≤ p) ∧ (0 ≤ to ∧ to ≤ p) := by
  unfold winErr at h
  rw [firstNZ_zero] at h
  have h1 := h _ (List.mem_cons_self ..)
  unfold unl at h1
  split at h1
  · rename_i hb
    simp only [winB, Bool.and_eq_true, inB_true] at hb
    exact ⟨hb.1.1, hb.1.2, hb.2⟩
  · cases h1

def insB (t p fr to : Int) : Bool := inB (t % p) fr (to - 1)

theorem blind_fields (t en ze hi : Int) (w : World) : Calls Try.prog 120 #[.agg #[.int .i64 t, .int .i64 en, .int .i64 ze, .int .i64 hi]] w fun e w' => e = .returned (.agg #[.int .i64 en, .int .i64 ze, .int .i64 hi]) ∧ Below w.heap.size w w' := by
  go_enter Try.func120, Try.ntmps120
  go_wp2_with fail
  ((try simp only [Exit.inBlock, Exit.then]); refine bodyPost_ret (v := .agg #[.int .i64 en, .int .i64 ze, .int .i64 hi]) ?_ rfl ?_; (next => simp [results, Try.results120, go_sem]); refine ⟨?_, ?_⟩; (next => rfl); (next => (repeat (with_reducible first | exact Below.refl _ _ | assumption | refine Below.drewN _ ?_ | refine Below.drew ?_ | refine Below_alloc ?_ _ | refine Below.alloc ?_ (by first | (simp; done) | (simp; omega) | omega) _ | refine Below.setCell ?_ (by first | (simp; done) | (simp; omega) | omega) _ | refine Below_call ?_ (by assumption) | refine Below.trans ?_ (by assumption)))))

set_option maxRecDepth 100000 in
theorem blind_selects (cs : List (List Cut)) (cv : Value) (p fr to t en ze hi : Int) (w : World) (h : ClausesAt w cv cs) (hok : okM cs) :
    Calls Try.prog 81 #[.agg #[cv, .int .i64 p, .int .i64 fr, .int .i64 to], .agg #[.int .i64 t, .int .i64 en, .int .i64 ze, .int .i64 hi]] w fun e w' => e = .returned (.bool (selL ⟨t, en, ze, hi⟩ cs)) ∧ Below w.heap.size w w' := by
  have hmf : ∀ (fn : Fn) (first cap : Array Value) (w : World), (Instr.makeFunc fn first cap).run Try.prog w = .ok (.func fn first cap) w := fun _ _ _ _ => rfl
  have HC : Hid (∀ W bo bf, Below w.heap.size w W → OwnAt W bo ⟨t, en, ze, hi⟩ → bf < W.heap.size → W.cell? ⟨bf, 0, none⟩ = some (.func (.func 121) #[] #[.pointer (some ⟨bo, 0, none⟩)]) → Calls Try.prog 122 #[cv, .func (.func 123) #[] #[.pointer (some ⟨bf, 0, none⟩)]] W fun e w' => e = .returned (.bool (selL ⟨t, en, ze, hi⟩ cs)) ∧ Below W.heap.size W w') :=
    hid (fun W bo bf hW ho hbf hfn => cl_ContainsFunc ⟨t, en, ze, hi⟩ cs cv bo bf W (h.below hW) ho hok hbf hfn)
  clear h hok
  go_enter Try.func81, Try.ntmps81
  go_wp2_with (first | (go_at_call 120; refine (blind_fields t en ze hi _).mono ?_; rintro _ w1 ⟨rfl, hb1⟩; obtain ⟨hc1, hf1⟩ := bcell hb1; have hz1 := hb1.size; (try simp only [World.size_alloc, World.heap_drewN] at hz1); have hk1_0 : w.heap.size < w1.heap.size := (by omega); have q1_0_0 := hc1 (w.heap.size) 0 (by first | assumption | (simp; done) | (simp; omega)); (try simp at q1_0_0); have p1_0_0 := hf1 (w.heap.size) 0 (by first | assumption | (simp; done) | (simp; omega)); (try simp at p1_0_0); have q1_0_1 := hc1 (w.heap.size) 1 (by first | assumption | (simp; done) | (simp; omega)); (try simp at q1_0_1); have p1_0_1 := hf1 (w.heap.size) 1 (by first | assumption | (simp; done) | (simp; omega)); (try simp at p1_0_1); have q1_0_2 := hc1 (w.heap.size) 2 (by first | assumption | (simp; done) | (simp; omega)); (try simp at q1_0_2); have p1_0_2 := hf1 (w.heap.size) 2 (by first | assumption | (simp; done) | (simp; omega)); (try simp at p1_0_2); have q1_0_3 := hc1 (w.heap.size) 3 (by first | assumption | (simp; done) | (simp; omega)); (try simp at q1_0_3); have p1_0_3 := hf1 (w.heap.size) 3 (by first | assumption | (simp; done) | (simp; omega)); (try simp at p1_0_3)) | (go_at_call 122; refine (HC.out _ w1.heap.size (w1.heap.size + 1) ?_ ⟨?_, ?_, ?_, ?_⟩ ?_ ?_).mono ?_ ))
  · (repeat (with_reducible first | exact Below.refl _ _ | assumption | refine Below.drewN _ ?_ | refine Below.drew ?_ | refine Below_alloc ?_ _ | refine Below.alloc ?_ (by first | (simp; done) | (simp; omega) | omega) _ | refine Below.setCell ?_ (by first | (simp; done) | (simp; omega) | omega) _ | refine Below_call ?_ (by assumption) | refine Below.trans ?_ (by assumption)))
  all_goals try (first | (simp; done) | (simp; omega))
  rintro _ w2 ⟨rfl, hb2⟩
  go_wp2
  go_ret
  exact ⟨rfl, by (repeat (with_reducible first | exact Below.refl _ _ | assumption | refine Below.drewN _ ?_ | refine Below.drew ?_ | refine Below_alloc ?_ _ | refine Below.alloc ?_ (by first | (simp; done) | (simp; omega) | omega) _ | refine Below.setCell ?_ (by first | (simp; done) | (simp; omega) | omega) _ | refine Below_call ?_ (by assumption) | refine Below.trans ?_ (by assumption)))⟩

theorem blind_inside (cv : Value) (p fr to t en ze hi : Int) (w : World) (hp : 1 ≤ p) (ht : 0 ≤ t) (hto : 0 ≤ to) :
    Calls Try.prog 127 #[.agg #[cv, .int .i64 p, .int .i64 fr, .int .i64 to], .agg #[.int .i64 t, .int .i64 en, .int .i64 ze, .int .i64 hi]] w fun e w' => e = .returned (.bool (insB t p fr to)) ∧ Below w.heap.size w w' := by
  obtain ⟨a, ha⟩ : ∃ a, a = t % p := ⟨_, rfl⟩
  have HI : Hid (insB t p fr to = (decide (fr ≤ a) && decide (a < to))) := hid (by rw [ha]; simp only [insB, inB]; congr 1; rw [decide_eq_decide]; omega)
  have ha' : t % p = a := ha.symm
  clear ha
  have hmod : t.tmod p = a := by rw [← ha', Int.tmod_eq_emod_of_nonneg ht]
  by_cases h1 : fr ≤ a
  · go_enter Try.func127, Try.ntmps127
    go_wp2_with fail
    go_ret
    exact ⟨ret_bool (by rw [HI.out]; simp [h1]), by (repeat (with_reducible first | exact Below.refl _ _ | assumption | refine Below.drewN _ ?_ | refine Below.drew ?_ | refine Below_alloc ?_ _ | refine Below.alloc ?_ (by first | (simp; done) | (simp; omega) | omega) _ | refine Below.setCell ?_ (by first | (simp; done) | (simp; omega) | omega) _ | refine Below_call ?_ (by assumption) | refine Below.trans ?_ (by assumption)))⟩
  · go_enter Try.func127, Try.ntmps127
    go_wp2_with fail
    go_ret
    have h2 : ¬ fr ≤ a := by omega
    exact ⟨ret_bool (by rw [HI.out]; simp [h2]), by (repeat (with_reducible first | exact Below.refl _ _ | assumption | refine Below.drewN _ ?_ | refine Below.drew ?_ | refine Below_alloc ?_ _ | refine Below.alloc ?_ (by first | (simp; done) | (simp; omega) | omega) _ | refine Below.setCell ?_ (by first | (simp; done) | (simp; omega) | omega) _ | refine Below_call ?_ (by assumption) | refine Below.trans ?_ (by assumption)))⟩

end Go.Proofs.Ytllddidjiabegaa

/- Counts, and the selected ones: the program. -/
set_option linter.unusedVariables false
set_option linter.unusedSimpArgs false
namespace Go.Proofs.Ytllddidjiabegaa
open Go.RowKit

/-- a method lies in a block. -/
def BoxM (w : World) (b : Nat) (cv : Value) (m : Meth) : Prop := b < w.heap.size ∧ w.cell? ⟨b, 0, none⟩ = some cv ∧ w.cell? ⟨b, 1, none⟩ = some (.int .i64 m.p) ∧ w.cell? ⟨b, 2, none⟩ = some (.int .i64 m.fr) ∧ w.cell? ⟨b, 3, none⟩ = some (.int .i64 m.to)
theorem BoxM.below {w w' : World} {b : Nat} {cv : Value} {m : Meth} (h : BoxM w b cv m) (hb : Below w.heap.size w w') : BoxM w' b cv m :=
  ⟨Nat.lt_of_lt_of_le h.1 hb.size, (hb.cell (p := ⟨b, 0, none⟩) h.1).trans h.2.1, (hb.cell (p := ⟨b, 1, none⟩) h.1).trans h.2.2.1, (hb.cell (p := ⟨b, 2, none⟩) h.1).trans h.2.2.2.1, (hb.cell (p := ⟨b, 3, none⟩) h.1).trans h.2.2.2.2⟩

def cntB (m : Meth) (x : Ev) : Bool := selL x m.cs && insB x.t m.p m.fr m.to

set_option maxRecDepth 100000 in
theorem blind_count1 (m : Meth) (cv : Value) (bm : Nat) (t en ze hi : Int) (w : World) (h : ClausesAt w cv m.cs) (hok : okM m.cs) (hbx : BoxM w bm cv m) (hp : 1 ≤ m.p) (hto : 0 ≤ m.to) (ht : 0 ≤ t) :
    Calls Try.prog 126 #[.agg #[.int .i64 t, .int .i64 en, .int .i64 ze, .int .i64 hi], .pointer (some ⟨bm, 0, none⟩)] w fun e w' => e = .returned (.bool (cntB m ⟨t, en, ze, hi⟩)) ∧ Below w.heap.size w w' := by
  have HBX : Hid (BoxM (w.alloc (.cells #[.int .i64 t, .int .i64 en, .int .i64 ze, .int .i64 hi] 89)) bm cv m) := hid (hbx.below ((Below.refl _ _).alloc (Nat.le_refl _) _))
  obtain ⟨cs, p, fr, to⟩ := m
  simp only at h hok hp hto
  obtain ⟨hbm, b0, b1, b2, b3⟩ := hbx
  simp only at b1 b2 b3
  have HC : Hid (∀ W, Below w.heap.size w W → Calls Try.prog 81 #[.agg #[cv, .int .i64 p, .int .i64 fr, .int .i64 to], .agg #[.int .i64 t, .int .i64 en, .int .i64 ze, .int .i64 hi]] W fun e w' => e = .returned (.bool (selL ⟨t, en, ze, hi⟩ cs)) ∧ Below W.heap.size W w') := hid (fun W hW => blind_selects cs cv p fr to t en ze hi W (h.below hW) hok)
  have HV : Hid (cntB ⟨cs, p, fr, to⟩ ⟨t, en, ze, hi⟩ = (selL ⟨t, en, ze, hi⟩ cs && insB t p fr to)) := hid rfl
  clear h hok
  cases hs : selL ⟨t, en, ze, hi⟩ cs
  · have HS := hid hs
    go_enter Try.func126, Try.ntmps126
    go_wp2_with (go_at_call 81; refine (HC.out _ (by (repeat (with_reducible first | exact Below.refl _ _ | assumption | refine Below.drewN _ ?_ | refine Below.drew ?_ | refine Below_alloc ?_ _ | refine Below.alloc ?_ (by first | (simp; done) | (simp; omega) | omega) _ | refine Below.setCell ?_ (by first | (simp; done) | (simp; omega) | omega) _ | refine Below_call ?_ (by assumption) | refine Below.trans ?_ (by assumption))))).mono ?_; rintro _ w1 ⟨rfl, hb1⟩)
    go_ret
    exact ⟨ret_bool (by rw [HV.out, HS.out]; rfl), by (repeat (with_reducible first | exact Below.refl _ _ | assumption | refine Below.drewN _ ?_ | refine Below.drew ?_ | refine Below_alloc ?_ _ | refine Below.alloc ?_ (by first | (simp; done) | (simp; omega) | omega) _ | refine Below.setCell ?_ (by first | (simp; done) | (simp; omega) | omega) _ | refine Below_call ?_ (by assumption) | refine Below.trans ?_ (by assumption)))⟩
  · have HS := hid hs
    go_enter Try.func126, Try.ntmps126
    go_wp2_with (first | (go_at_call 81; refine (HC.out _ (by (repeat (with_reducible first | exact Below.refl _ _ | assumption | refine Below.drewN _ ?_ | refine Below.drew ?_ | refine Below_alloc ?_ _ | refine Below.alloc ?_ (by first | (simp; done) | (simp; omega) | omega) _ | refine Below.setCell ?_ (by first | (simp; done) | (simp; omega) | omega) _ | refine Below_call ?_ (by assumption) | refine Below.trans ?_ (by assumption))))).mono ?_; rintro _ w1 ⟨rfl, hb1⟩; have k2 : w.heap.size < (w.alloc (.cells #[.int .i64 t, .int .i64 en, .int .i64 ze, .int .i64 hi] 89)).heap.size := (by simp); obtain ⟨hc1, hf1⟩ := bcell hb1; obtain ⟨hbm1, x0, x1, x2, x3⟩ := HBX.out.below hb1; simp only at x1 x2 x3; have y0 := hc1 w.heap.size 0 k2; have y1 := hc1 w.heap.size 1 k2; have y2 := hc1 w.heap.size 2 k2; have y3 := hc1 w.heap.size 3 k2; simp at y0 y1 y2 y3; have hz1 := hb1.size; simp at hz1; clear hc1 hf1) | (go_at_call 127; refine (blind_inside cv p fr to t en ze hi _ hp ht hto).mono ?_; rintro _ w2 ⟨rfl, hb2⟩; obtain ⟨hc2, hf2⟩ := bcell hb2; have hz2 := hb2.size; (try simp only [World.size_alloc, World.heap_drewN] at hz2)))
    go_ret
    exact ⟨ret_bool (by rw [HV.out, HS.out]; rfl), by (repeat (with_reducible first | exact Below.refl _ _ | assumption | refine Below.drewN _ ?_ | refine Below.drew ?_ | refine Below_alloc ?_ _ | refine Below.alloc ?_ (by first | (simp; done) | (simp; omega) | omega) _ | refine Below.setCell ?_ (by first | (simp; done) | (simp; omega) | omega) _ | refine Below_call ?_ (by assumption) | refine Below.trans ?_ (by assumption)))⟩

/-- how many events of a list a test holds of. -/
def numI (f : Ev → Bool) (l : List Ev) : Nat := l.countP f
theorem numI_take {f : Ev → Bool} {l : List Ev} {k : Nat} (h : k < l.length) : numI f (l.take (k + 1)) = numI f (l.take k) + (if f (evAt l k) = true then 1 else 0) := by
  rw [evAt_take h]
  unfold numI
  rw [List.countP_append]
  by_cases e : f (evAt l k) = true <;> simp [e]
theorem numI_le {f : Ev → Bool} {l : List Ev} : numI f l ≤ l.length := List.countP_le_length

set_option maxRecDepth 100000 in
set_option maxHeartbeats 1000000 in
theorem blind_number (m : Meth) (cv : Value) (bm : Nat) (l : List Ev) (v : Value) (w : World) (hl : EventsAt w v l) (h : ClausesAt w cv m.cs) (hok : okM m.cs) (hbx : BoxM w bm cv m) (hp : 1 ≤ m.p) (hto : 0 ≤ m.to) (ht : ∀ x ∈ l, 0 ≤ x.t) (h1000 : l.length ≤ 1000) :
    Calls Try.prog 125 #[v, .func (.func 126) #[] #[.pointer (some ⟨bm, 0, none⟩)]] w fun e w' => e = .returned (.int .i64 (numI (cntB m) l : Nat)) ∧ Below w.heap.size w w' := by
  have HC : Hid (∀ W t en ze hi, Below w.heap.size w W → 0 ≤ t → Calls Try.prog 126 #[.agg #[.int .i64 t, .int .i64 en, .int .i64 ze, .int .i64 hi], .pointer (some ⟨bm, 0, none⟩)] W fun e w' => e = .returned (.bool (cntB m ⟨t, en, ze, hi⟩)) ∧ Below W.heap.size W w') := hid (fun W t en ze hi hW h0 => blind_count1 m cv bm t en ze hi W (h.below hW) hok (hbx.below hW) hp hto h0)
  obtain ⟨ao, cap, rfl, h1, h2, h3⟩ := hl.opn
  unfold maxLen at h2
  clear h hok hbx hp hto hl
  go_enter Try.func125, Try.ntmps125
  go_wp2_with fail
  go_loopw [5, 10] (fun o i wr => ∃ k : Nat, k ≤ l.length ∧ o = .int .i64 (numI (cntB m) (l.take k) : Nat) ∧ i = .int .i64 k ∧ Below w.heap.size w wr) (fun _ i _ => l.length - (intOf i).toNat)
  case atStart => exact ⟨0, Nat.zero_le _, rfl, rfl, Below.refl _ _⟩
  case round =>
    obtain ⟨k, hk, rfl, rfl, hbel⟩ := hrel
    have hzw := hbel.size
    by_cases hlt : k < l.length
    · obtain ⟨b, off, rfl, hb, hc⟩ := h3 k hlt
      obtain ⟨c0, c1, c2, c3⟩ := hc k hlt
      obtain ⟨hcb, hfb⟩ := bcell hbel
      rw [← hcb b _ hb] at c0 c1 c2 c3
      have HAT := hid (numI_take (f := cntB m) hlt)
      have hcnt : numI (cntB m) (l.take k) ≤ 1000 := Nat.le_trans numI_le (by simp; omega)
      have ht0 : 0 ≤ (evAt l k).t := by rw [evAt_lt hlt]; exact ht _ (List.getElem_mem hlt)
      obtain ⟨x, hx⟩ : ∃ x, x = evAt l k := ⟨_, rfl⟩
      rw [← hx] at c0 c1 c2 c3 HAT ht0
      obtain ⟨t, en, ze, hi⟩ := x
      simp only at c0 c1 c2 c3 ht0
      clear hc h3 hcb hfb hx ht
      cases hT : cntB m ⟨t, en, ze, hi⟩
      · have HT := hid hT
        go_wp2_with (go_at_call 126; refine (HC.out _ t en ze hi (by (repeat (with_reducible first | exact Below.refl _ _ | assumption | refine Below.drewN _ ?_ | refine Below.drew ?_ | refine Below_alloc ?_ _ | refine Below.alloc ?_ (by first | (simp; done) | (simp; omega) | omega) _ | refine Below.setCell ?_ (by first | (simp; done) | (simp; omega) | omega) _ | refine Below_call ?_ (by assumption) | refine Below.trans ?_ (by assumption)))) ht0).mono ?_; rintro _ w1 ⟨rfl, hb1⟩)
        go_roundw
        case rel => exact ⟨k + 1, by omega, by rw [HAT.out, HT.out]; rfl, by go_num, by (repeat (with_reducible first | exact Below.refl _ _ | assumption | refine Below.drewN _ ?_ | refine Below.drew ?_ | refine Below_alloc ?_ _ | refine Below.alloc ?_ (by first | (simp; done) | (simp; omega) | omega) _ | refine Below.setCell ?_ (by first | (simp; done) | (simp; omega) | omega) _ | refine Below_call ?_ (by assumption) | refine Below.trans ?_ (by assumption)))⟩
        case measure => simp [intOf]; omega
      · have HT := hid hT
        go_wp2_with (go_at_call 126; refine (HC.out _ t en ze hi (by (repeat (with_reducible first | exact Below.refl _ _ | assumption | refine Below.drewN _ ?_ | refine Below.drew ?_ | refine Below_alloc ?_ _ | refine Below.alloc ?_ (by first | (simp; done) | (simp; omega) | omega) _ | refine Below.setCell ?_ (by first | (simp; done) | (simp; omega) | omega) _ | refine Below_call ?_ (by assumption) | refine Below.trans ?_ (by assumption)))) ht0).mono ?_; rintro _ w1 ⟨rfl, hb1⟩)
        go_roundw
        case rel => exact ⟨k + 1, by omega, by rw [HAT.out, HT.out]; go_num, by go_num, by (repeat (with_reducible first | exact Below.refl _ _ | assumption | refine Below.drewN _ ?_ | refine Below.drew ?_ | refine Below_alloc ?_ _ | refine Below.alloc ?_ (by first | (simp; done) | (simp; omega) | omega) _ | refine Below.setCell ?_ (by first | (simp; done) | (simp; omega) | omega) _ | refine Below_call ?_ (by assumption) | refine Below.trans ?_ (by assumption)))⟩
        case measure => simp [intOf]; omega
    · have hkl : k = l.length := by omega
      go_wp2_with fail
      go_ret
      exact ⟨ret_int (by rw [hkl, List.take_length]), hbel⟩

theorem blind_count (m : Meth) (cv : Value) (l : List Ev) (v : Value) (w : World) (hl : EventsAt w v l) (h : ClausesAt w cv m.cs) (hok : okM m.cs) (hp : 1 ≤ m.p) (hto : 0 ≤ m.to) (ht : ∀ x ∈ l, 0 ≤ x.t) (h1000 : l.length ≤ 1000) :
    Calls Try.prog 82 #[methV cv m.p m.fr m.to, v] w fun e w' => e = .returned (.int .i64 (numI (cntB m) l : Nat)) ∧ Below w.heap.size w w' := by
  have hmf : ∀ (fn : Fn) (first cap : Array Value) (w : World), (Instr.makeFunc fn first cap).run Try.prog w = .ok (.func fn first cap) w := fun _ _ _ _ => rfl
  have HC : Hid (∀ W bm, Below w.heap.size w W → BoxM W bm cv m → Calls Try.prog 125 #[v, .func (.func 126) #[] #[.pointer (some ⟨bm, 0, none⟩)]] W fun e w' => e = .returned (.int .i64 (numI (cntB m) l : Nat)) ∧ Below W.heap.size W w') := hid (fun W bm hW hbx => blind_number m cv bm l v W (hl.below hW) (h.below hW) hok hbx hp hto ht h1000)
  clear h hok hp hto ht hl
  unfold methV
  go_enter Try.func82, Try.ntmps82
  go_wp2_with (go_at_call 125; refine (HC.out _ w.heap.size (by (repeat (with_reducible first | exact Below.refl _ _ | assumption | refine Below.drewN _ ?_ | refine Below.drew ?_ | refine Below_alloc ?_ _ | refine Below.alloc ?_ (by first | (simp; done) | (simp; omega) | omega) _ | refine Below.setCell ?_ (by first | (simp; done) | (simp; omega) | omega) _ | refine Below_call ?_ (by assumption) | refine Below.trans ?_ (by assumption)))) ⟨by simp, by simp, by simp, by simp, by simp⟩).mono ?_; rintro _ w1 ⟨rfl, hb1⟩)
  go_ret
  exact ⟨rfl, by (repeat (with_reducible first | exact Below.refl _ _ | assumption | refine Below.drewN _ ?_ | refine Below.drew ?_ | refine Below_alloc ?_ _ | refine Below.alloc ?_ (by first | (simp; done) | (simp; omega) | omega) _ | refine Below.setCell ?_ (by first | (simp; done) | (simp; omega) | omega) _ | refine Below_call ?_ (by assumption) | refine Below.trans ?_ (by assumption)))⟩

end Go.Proofs.Ytllddidjiabegaa

/- CountBy, SelectedBy. -/
set_option linter.unusedVariables false
set_option linter.unusedSimpArgs false
namespace Go.Proofs.Ytllddidjiabegaa
open Go.RowKit

def cbErr (m : Meth) (l : List Ev) : Int := firstNZ [methErr m, anyErr l]
def cbN (m : Meth) (l : List Ev) : Int := if cbErr m l = 0 then (numI (cntB m) l : Int) else 0
def selUp (m : Meth) (l : List Ev) : Nat → List Int
  | 0 => []
  | k + 1 => if selL (evAt l k) m.cs = true then selUp m l k ++ [(k : Int)] else selUp m l k
theorem selUp_len (m : Meth) (l : List Ev) (k : Nat) : (selUp m l k).length ≤ k := by
  induction k with
  | zero => simp [selUp]
  | succ k ih =>
    simp only [selUp]; split
    · simp; omega
    · omega
def sbList (m : Meth) (l : List Ev) : List Int := if cbErr m l = 0 then selUp m l l.length else []
theorem cbErr_ok {m : Meth} {l : List Ev} (h : cbErr m l = 0) : methErr m = 0 ∧ anyErr l = 0 := by
  unfold cbErr at h
  rw [firstNZ_zero] at h
  exact ⟨h _ (by simp), h _ (by simp)⟩

set_option maxRecDepth 100000 in
theorem blind_CountBy (m : Meth) (cv : Value) (l : List Ev) (v : Value) (w : World) (hl : EventsAt w v l) (h : ClausesAt w cv m.cs) :
    Calls Try.prog 18 #[methV cv m.p m.fr m.to, v] w fun e w' => e = .returned (.tuple #[.int .i64 (cbN m l), .int .i64 (cbErr m l)]) ∧ Below w.heap.size w w' := by
  have HM : Hid (∀ W, Below w.heap.size w W → Calls Try.prog 79 #[.agg #[cv, .int .i64 m.p, .int .i64 m.fr, .int .i64 m.to]] W fun e w' => e = .returned (.int .i64 (methErr m)) ∧ Below W.heap.size W w') := hid (fun W hW => blind_methodErr m cv W (h.below hW))
  have HL : Hid (∀ W, Below w.heap.size w W → Calls Try.prog 80 #[v] W fun e w' => e = .returned (.int .i64 (anyErr l)) ∧ Below W.heap.size W w') := hid (fun W hW => blind_looseErr l v W (hl.below hW))
  by_cases he : cbErr m l = 0
  · have hok := cbErr_ok he
    have hm := methErr_okM hok.1
    have hw := winErr_ok hm.2.2.2
    have ha := anyErr_ok hok.2
    have HC : Hid (∀ W, Below w.heap.size w W → Calls Try.prog 82 #[.agg #[cv, .int .i64 m.p, .int .i64 m.fr, .int .i64 m.to], v] W fun e w' => e = .returned (.int .i64 (numI (cntB m) l : Nat)) ∧ Below W.heap.size W w') := hid (fun W hW => blind_count m cv l v W (hl.below hW) (h.below hW) hm.1 hw.1.1 hw.2.2.1 (fun x hx => by
      have := ha.2 x hx
      simp only [evB, Bool.and_eq_true, inB_true] at this
      exact this.1.1.1.1) (by have := ha.1; omega))
    have he' : (firstNZ [methErr m, anyErr l] != 0) = false := by simpa [cbErr] using he
    have HE := hid he
    have HN : Hid (cbN m l = (numI (cntB m) l : Nat)) := hid (by simp [cbN, he])
    clear he hok hm hw ha h hl
    unfold methV
    go_enter Try.func18, Try.ntmps18
    go_wp2_with (first | (go_at_call 79; refine (HM.out _ (by (repeat (with_reducible first | exact Below.refl _ _ | assumption | refine Below.drewN _ ?_ | refine Below.drew ?_ | refine Below_alloc ?_ _ | refine Below.alloc ?_ (by first | (simp; done) | (simp; omega) | omega) _ | refine Below.setCell ?_ (by first | (simp; done) | (simp; omega) | omega) _ | refine Below_call ?_ (by assumption) | refine Below.trans ?_ (by assumption))))).mono ?_; rintro _ w1 ⟨rfl, hb1⟩; have y := bcell hb1; have y0 := y.1 w.heap.size 0 (by simp); have y1 := y.1 w.heap.size 1 (by simp); have y2 := y.1 w.heap.size 2 (by simp); have y3 := y.1 w.heap.size 3 (by simp); simp at y0 y1 y2 y3; have hz1 := hb1.size; simp at hz1; clear y) | (go_at_call 80; refine (HL.out _ (by (repeat (with_reducible first | exact Below.refl _ _ | assumption | refine Below.drewN _ ?_ | refine Below.drew ?_ | refine Below_alloc ?_ _ | refine Below.alloc ?_ (by first | (simp; done) | (simp; omega) | omega) _ | refine Below.setCell ?_ (by first | (simp; done) | (simp; omega) | omega) _ | refine Below_call ?_ (by assumption) | refine Below.trans ?_ (by assumption))))).mono ?_; rintro _ w2 ⟨rfl, hb2⟩; have z := bcell hb2; have z0 := (z.1 w.heap.size 0 (by omega)).trans y0; have z1 := (z.1 w.heap.size 1 (by omega)).trans y1; have z2 := (z.1 w.heap.size 2 (by omega)).trans y2; have z3 := (z.1 w.heap.size 3 (by omega)).trans y3; have hz2 := hb2.size; have hk2 : w.heap.size < w2.heap.size := (by omega); clear z) | (go_at_call 75; refine (blind_first [methErr m, anyErr l] _ _ (intsAt_new _ _ _ _ _ rfl (by simp) (by simp))).mono ?_; rintro _ _ ⟨rfl, rfl⟩) | (go_at_call 82; refine (HC.out _ (by (repeat (with_reducible first | exact Below.refl _ _ | assumption | refine Below.drewN _ ?_ | refine Below.drew ?_ | refine Below_alloc ?_ _ | refine Below.alloc ?_ (by first | (simp; done) | (simp; omega) | omega) _ | refine Below.setCell ?_ (by first | (simp; done) | (simp; omega) | omega) _ | refine Below_call ?_ (by assumption) | refine Below.trans ?_ (by assumption))))).mono ?_; rintro _ w3 ⟨rfl, hb3⟩))
    go_ret2
    exact ⟨by simp [HN.out, HE.out], by (repeat (with_reducible first | exact Below.refl _ _ | assumption | refine Below.drewN _ ?_ | refine Below.drew ?_ | refine Below_alloc ?_ _ | refine Below.alloc ?_ (by first | (simp; done) | (simp; omega) | omega) _ | refine Below.setCell ?_ (by first | (simp; done) | (simp; omega) | omega) _ | refine Below_call ?_ (by assumption) | refine Below.trans ?_ (by assumption)))⟩
  · have he' : (firstNZ [methErr m, anyErr l] != 0) = true := by simpa [cbErr] using he
    have HE := hid he
    clear he h hl
    unfold methV
    go_enter Try.func18, Try.ntmps18
    go_wp2_with (first | (go_at_call 79; refine (HM.out _ (by (repeat (with_reducible first | exact Below.refl _ _ | assumption | refine Below.drewN _ ?_ | refine Below.drew ?_ | refine Below_alloc ?_ _ | refine Below.alloc ?_ (by first | (simp; done) | (simp; omega) | omega) _ | refine Below.setCell ?_ (by first | (simp; done) | (simp; omega) | omega) _ | refine Below_call ?_ (by assumption) | refine Below.trans ?_ (by assumption))))).mono ?_; rintro _ w1 ⟨rfl, hb1⟩) | (go_at_call 80; refine (HL.out _ (by (repeat (with_reducible first | exact Below.refl _ _ | assumption | refine Below.drewN _ ?_ | refine Below.drew ?_ | refine Below_alloc ?_ _ | refine Below.alloc ?_ (by first | (simp; done) | (simp; omega) | omega) _ | refine Below.setCell ?_ (by first | (simp; done) | (simp; omega) | omega) _ | refine Below_call ?_ (by assumption) | refine Below.trans ?_ (by assumption))))).mono ?_; rintro _ w2 ⟨rfl, hb2⟩) | (go_at_call 75; refine (blind_first [methErr m, anyErr l] _ _ (intsAt_new _ _ _ _ _ rfl (by simp) (by simp))).mono ?_; rintro _ _ ⟨rfl, rfl⟩))
    go_ret2
    exact ⟨by simp [cbN, HE.out]; rfl, by (repeat (with_reducible first | exact Below.refl _ _ | assumption | refine Below.drewN _ ?_ | refine Below.drew ?_ | refine Below_alloc ?_ _ | refine Below.alloc ?_ (by first | (simp; done) | (simp; omega) | omega) _ | refine Below.setCell ?_ (by first | (simp; done) | (simp; omega) | omega) _ | refine Below_call ?_ (by assumption) | refine Below.trans ?_ (by assumption)))⟩

set_option maxRecDepth 100000 in
set_option maxHeartbeats 1000000 in
theorem blind_SelectedBy (m : Meth) (cv : Value) (l : List Ev) (v : Value) (w : World) (hl : EventsAt w v l) (h : ClausesAt w cv m.cs) :
    Calls Try.prog 16 #[methV cv m.p m.fr m.to, v] w (RetIntsE w (sbList m l) (cbErr m l)) := by
  have HM : Hid (∀ W, Below w.heap.size w W → Calls Try.prog 79 #[.agg #[cv, .int .i64 m.p, .int .i64 m.fr, .int .i64 m.to]] W fun e w' => e = .returned (.int .i64 (methErr m)) ∧ Below W.heap.size W w') := hid (fun W hW => blind_methodErr m cv W (h.below hW))
  have HL : Hid (∀ W, Below w.heap.size w W → Calls Try.prog 80 #[v] W fun e w' => e = .returned (.int .i64 (anyErr l)) ∧ Below W.heap.size W w') := hid (fun W hW => blind_looseErr l v W (hl.below hW))
  by_cases he : cbErr m l = 0
  · have hok := cbErr_ok he
    have hm := methErr_okM hok.1
    have ha := anyErr_ok hok.2
    have hl12 := ha.1
    obtain ⟨ao, cap, rfl, h1, h2, h3⟩ := hl.opn
    unfold maxLen at h2
    have HC : Hid (∀ W t en ze hi, Below w.heap.size w W → Calls Try.prog 81 #[.agg #[cv, .int .i64 m.p, .int .i64 m.fr, .int .i64 m.to], .agg #[.int .i64 t, .int .i64 en, .int .i64 ze, .int .i64 hi]] W fun e w' => e = .returned (.bool (selL ⟨t, en, ze, hi⟩ m.cs)) ∧ Below W.heap.size W w') := hid (fun W t en ze hi hW => blind_selects m.cs cv m.p m.fr m.to t en ze hi W (h.below hW) hm.1)
    have he' : (firstNZ [methErr m, anyErr l] != 0) = false := by simpa [cbErr] using he
    have HE := hid he
    have HN : Hid (sbList m l = selUp m l l.length) := hid (by simp [sbList, he])
    clear he hok hm ha h hl
    unfold methV
    go_enter Try.func16, Try.ntmps16
    go_wp2_with (first | (go_at_call 79; refine (HM.out _ (by (repeat (with_reducible first | exact Below.refl _ _ | assumption | refine Below.drewN _ ?_ | refine Below.drew ?_ | refine Below_alloc ?_ _ | refine Below.alloc ?_ (by first | (simp; done) | (simp; omega) | omega) _ | refine Below.setCell ?_ (by first | (simp; done) | (simp; omega) | omega) _ | refine Below_call ?_ (by assumption) | refine Below.trans ?_ (by assumption))))).mono ?_; rintro _ w1 ⟨rfl, hb1⟩; have y := bcell hb1; have y0 := y.1 w.heap.size 0 (by simp); have y1 := y.1 w.heap.size 1 (by simp); have y2 := y.1 w.heap.size 2 (by simp); have y3 := y.1 w.heap.size 3 (by simp); simp at y0 y1 y2 y3; have hz1 := hb1.size; simp at hz1; clear y) | (go_at_call 80; refine (HL.out _ (by (repeat (with_reducible first | exact Below.refl _ _ | assumption | refine Below.drewN _ ?_ | refine Below.drew ?_ | refine Below_alloc ?_ _ | refine Below.alloc ?_ (by first | (simp; done) | (simp; omega) | omega) _ | refine Below.setCell ?_ (by first | (simp; done) | (simp; omega) | omega) _ | refine Below_call ?_ (by assumption) | refine Below.trans ?_ (by assumption))))).mono ?_; rintro _ w2 ⟨rfl, hb2⟩; have z := bcell hb2; have z0 := (z.1 w.heap.size 0 (by omega)).trans y0; have z1 := (z.1 w.heap.size 1 (by omega)).trans y1; have z2 := (z.1 w.heap.size 2 (by omega)).trans y2; have z3 := (z.1 w.heap.size 3 (by omega)).trans y3; have hz2 := hb2.size; have hk2 : w.heap.size < w2.heap.size := (by omega); clear z) | (go_at_call 75; refine (blind_first [methErr m, anyErr l] _ _ (intsAt_new _ _ _ _ _ rfl (by simp) (by simp))).mono ?_; rintro _ _ ⟨rfl, rfl⟩))
    obtain ⟨W0, hW0⟩ : ∃ W0, W0 = w2.alloc (.cells #[.int .i64 (methErr m), .int .i64 (anyErr l)] 29) := ⟨_, rfl⟩
    rw [← hW0]
    have hbW : Below w2.heap.size w2 W0 := by rw [hW0]; exact (Below.refl _ _).alloc (Nat.le_refl _) _
    have s0 := ((bcell hbW).1 _ 0 hk2).trans z0
    have s1 := ((bcell hbW).1 _ 1 hk2).trans z1
    have s2 := ((bcell hbW).1 _ 2 hk2).trans z2
    have s3 := ((bcell hbW).1 _ 3 hk2).trans z3
    have hk0 : w.heap.size < W0.heap.size := Nat.lt_of_lt_of_le hk2 hbW.size
    have hBW : Below w.heap.size w W0 := by (repeat (with_reducible first | exact Below.refl _ _ | assumption | refine Below.drewN _ ?_ | refine Below.drew ?_ | refine Below_alloc ?_ _ | refine Below.alloc ?_ (by first | (simp; done) | (simp; omega) | omega) _ | refine Below.setCell ?_ (by first | (simp; done) | (simp; omega) | omega) _ | refine Below_call ?_ (by assumption) | refine Below.trans ?_ (by assumption)))
    clear hW0 z0 z1 z2 z3 y0 y1 y2 y3 hbW hb1 hb2 hz1 hz2 hk2
    go_loopw [7, 21] (fun o i wr => ∃ k : Nat, k ≤ l.length ∧ i = .int .i64 k ∧ wr.ownsRow W0.heap.size 3 1 o (selUp m l k).length ((selUp m l k).map (Value.int .i64)) ∧ Below W0.heap.size W0 wr) (fun _ i _ => l.length - (intOf i).toNat)
    case atStart => exact ⟨0, Nat.zero_le _, rfl, World.ownsRow_nil _ _ _ _, Below.refl _ _⟩
    case round =>
      obtain ⟨k, hk, rfl, hown, hbel⟩ := hrel
      have hzw := hbel.size
      by_cases hlt : k < l.length
      · obtain ⟨b, off, rfl, hb, hc⟩ := h3 k hlt
        obtain ⟨c0, c1, c2, c3⟩ := hc k hlt
        have hB : Below w.heap.size w wr := hBW.trans (hbel.mono hBW.size)
        obtain ⟨hcb, hfb⟩ := bcell hB
        rw [← hcb b _ hb] at c0 c1 c2 c3
        obtain ⟨hcb2, hfb2⟩ := bcell hbel
        have t0 := (hcb2 _ 0 hk0).trans s0
        have t1 := (hcb2 _ 1 hk0).trans s1
        have t2 := (hcb2 _ 2 hk0).trans s2
        have t3 := (hcb2 _ 3 hk0).trans s3
        have hkw : w.heap.size < wr.heap.size := by omega
        obtain ⟨x, hx⟩ : ∃ x, x = evAt l k := ⟨_, rfl⟩
        have HSU : Hid (selUp m l (k + 1) = if selL x m.cs = true then selUp m l k ++ [(k : Int)] else selUp m l k) := hid (by rw [hx]; rfl)
        have hlen := selUp_len m l k
        rw [← hx] at c0 c1 c2 c3
        obtain ⟨t, en, ze, hi⟩ := x
        simp only at c0 c1 c2 c3
        clear hc h3 hcb hfb hcb2 hfb2 hx
        cases hT : selL ⟨t, en, ze, hi⟩ m.cs
        · have HT := hid hT
          go_wp2_with (go_at_call 81; refine (HC.out _ t en ze hi (by (repeat (with_reducible first | exact Below.refl _ _ | assumption | refine Below.drewN _ ?_ | refine Below.drew ?_ | refine Below_alloc ?_ _ | refine Below.alloc ?_ (by first | (simp; done) | (simp; omega) | omega) _ | refine Below.setCell ?_ (by first | (simp; done) | (simp; omega) | omega) _ | refine Below_call ?_ (by assumption) | refine Below.trans ?_ (by assumption))))).mono ?_; rintro _ w3 ⟨rfl, hb3⟩)
          go_roundw
          case rel => exact ⟨k + 1, by omega, by go_num, by rw [HSU.out, HT.out]; exact ownsRow_below (ownsRow_below hown ((Below.refl _ _).alloc (Nat.le_refl _) _)) hb3, by (repeat (with_reducible first | exact Below.refl _ _ | assumption | refine Below.drewN _ ?_ | refine Below.drew ?_ | refine Below_alloc ?_ _ | refine Below.alloc ?_ (by first | (simp; done) | (simp; omega) | omega) _ | refine Below.setCell ?_ (by first | (simp; done) | (simp; omega) | omega) _ | refine Below_call ?_ (by assumption) | refine Below.trans ?_ (by assumption)))⟩
          case measure => simp [intOf]; omega
        · have HT := hid hT
          go_wp2_with (first | (go_at_call 81; refine (HC.out _ t en ze hi (by (repeat (with_reducible first | exact Below.refl _ _ | assumption | refine Below.drewN _ ?_ | refine Below.drew ?_ | refine Below_alloc ?_ _ | refine Below.alloc ?_ (by first | (simp; done) | (simp; omega) | omega) _ | refine Below.setCell ?_ (by first | (simp; done) | (simp; omega) | omega) _ | refine Below_call ?_ (by assumption) | refine Below.trans ?_ (by assumption))))).mono ?_; rintro _ w3 ⟨rfl, hb3⟩; have hown' := (ownsRow_below (ownsRow_below hown ((Below.refl _ _).alloc (Nat.le_refl _) _)) hb3); have hz3 : W0.heap.size ≤ w3.heap.size := (by have := hb3.size; simp at this; omega)) | (at_builtin; refine wpList_push rfl _ _ _ rfl elemInt W0.heap.size _ (selUp m l k).length _ rfl w3 hown' [.int .i64 k] rfl (by simp [Value.oneCell']) rfl _ rfl rfl (by omega) (by unfold maxLen; omega) hz3 ?_; intro v1 w4 hown3 hb4 _ _))
          go_roundw
          case rel =>
            refine ⟨k + 1, by omega, by go_num, ?_, ?_⟩
            · rw [HSU.out, HT.out, if_pos rfl, List.map_append, List.length_append]; exact hown3
            · exact (Below_call (Below_alloc hbel _) hb3).trans hb4
          case measure => simp [intOf]; omega
      · have hkl : k = l.length := by omega
        go_wp2_with fail
        go_ret2
        rw [HN.out, HE.out]
        refine ⟨_, rfl, ?_, hBW.trans (hbel.mono hBW.size)⟩
        rw [← hkl]
        exact ownsRow_ints hown
  · have he' : (firstNZ [methErr m, anyErr l] != 0) = true := by simpa [cbErr] using he
    have HE := hid he
    clear he h hl
    unfold methV
    go_enter Try.func16, Try.ntmps16
    go_wp2_with (first | (go_at_call 79; refine (HM.out _ (by (repeat (with_reducible first | exact Below.refl _ _ | assumption | refine Below.drewN _ ?_ | refine Below.drew ?_ | refine Below_alloc ?_ _ | refine Below.alloc ?_ (by first | (simp; done) | (simp; omega) | omega) _ | refine Below.setCell ?_ (by first | (simp; done) | (simp; omega) | omega) _ | refine Below_call ?_ (by assumption) | refine Below.trans ?_ (by assumption))))).mono ?_; rintro _ w1 ⟨rfl, hb1⟩) | (go_at_call 80; refine (HL.out _ (by (repeat (with_reducible first | exact Below.refl _ _ | assumption | refine Below.drewN _ ?_ | refine Below.drew ?_ | refine Below_alloc ?_ _ | refine Below.alloc ?_ (by first | (simp; done) | (simp; omega) | omega) _ | refine Below.setCell ?_ (by first | (simp; done) | (simp; omega) | omega) _ | refine Below_call ?_ (by assumption) | refine Below.trans ?_ (by assumption))))).mono ?_; rintro _ w2 ⟨rfl, hb2⟩) | (go_at_call 75; refine (blind_first [methErr m, anyErr l] _ _ (intsAt_new _ _ _ _ _ rfl (by simp) (by simp))).mono ?_; rintro _ _ ⟨rfl, rfl⟩))
    go_ret2
    rw [show sbList m l = [] from by simp [sbList, HE.out]]
    exact ⟨_, rfl, IntsAt.nil _, by (repeat (with_reducible first | exact Below.refl _ _ | assumption | refine Below.drewN _ ?_ | refine Below.drew ?_ | refine Below_alloc ?_ _ | refine Below.alloc ?_ (by first | (simp; done) | (simp; omega) | omega) _ | refine Below.setCell ?_ (by first | (simp; done) | (simp; omega) | omega) _ | refine Below_call ?_ (by assumption) | refine Below.trans ?_ (by assumption)))⟩

end Go.Proofs.Ytllddidjiabegaa

/- The chapter's examples: a method, events, a sum. -/
set_option linter.unusedVariables false
set_option linter.unusedSimpArgs false
namespace Go.Proofs.Ytllddidjiabegaa
open Go.RowKit

def exL : List Ev := [⟨10, 50, 0, 4⟩, ⟨13, 20, 5, 9⟩, ⟨25, 70, 2, 6⟩]
def exM : Meth := ⟨[[⟨0, 40, 99⟩, ⟨2, 0, 5⟩], [⟨2, 6, 99⟩]], 10, 3, 6⟩

theorem law_Events (w : World) : Calls Try.prog 71 #[] w (RetEvents w exL) := by
  go_enter Try.func71, Try.ntmps71
  go_wp2_with fail
  go_ret
  refine ⟨_, rfl, ⟨_, _, rfl, by decide, by simp [maxLen], fun _ => ⟨w.heap.size, 0, rfl, by simp, fun i j hi hj => ?_⟩, fun h => by cases h⟩, by (repeat (with_reducible first | exact Below.refl _ _ | assumption | refine Below.drewN _ ?_ | refine Below.drew ?_ | refine Below_alloc ?_ _ | refine Below.alloc ?_ (by first | (simp; done) | (simp; omega) | omega) _ | refine Below.setCell ?_ (by first | (simp; done) | (simp; omega) | omega) _ | refine Below_call ?_ (by assumption) | refine Below.trans ?_ (by assumption)))⟩
  have hi' : i < 3 := hi
  rcases (by omega : i = 0 ∨ i = 1 ∨ i = 2) with rfl | rfl | rfl <;> rcases (by omega : j = 0 ∨ j = 1 ∨ j = 2 ∨ j = 3) with rfl | rfl | rfl | rfl <;> simp [exL, evAt, Ev.cell, List.getD]

theorem law_Method (w : World) : Calls Try.prog 70 #[] w fun e w' => ∃ cv, e = .returned (methV cv 10 3 6) ∧ ClausesAt w' cv exM.cs ∧ Below w.heap.size w w' := by
  go_enter Try.func70, Try.ntmps70
  go_wp2_with fail
  (try simp only [Exit.inBlock, Exit.then])
  refine bodyPost_ret (v := methV (.slice (some ⟨w.heap.size + 1 + 1 + 1, 0, none⟩) 2 2) 10 3 6) ?_ rfl ?_
  · simp [results, Try.results70, go_sem, methV]
  refine ⟨_, rfl, ⟨fun i => match i with
    | 0 => .slice (some ⟨w.heap.size + 1, 0, none⟩) 2 2
    | _ => .slice (some ⟨w.heap.size + 1 + 1, 0, none⟩) 1 1, ⟨_, _, rfl, by decide, by simp [maxLen], fun _ => ⟨w.heap.size + 1 + 1 + 1, 0, rfl, by simp, fun i j hi hj => ?_⟩, fun h => by cases h⟩, fun i hi => ?_⟩, by (repeat (with_reducible first | exact Below.refl _ _ | assumption | refine Below.drewN _ ?_ | refine Below.drew ?_ | refine Below_alloc ?_ _ | refine Below.alloc ?_ (by first | (simp; done) | (simp; omega) | omega) _ | refine Below.setCell ?_ (by first | (simp; done) | (simp; omega) | omega) _ | refine Below_call ?_ (by assumption) | refine Below.trans ?_ (by assumption)))⟩
  · have hi' : i < 2 := hi
    obtain rfl : j = 0 := by omega
    rcases (by omega : i = 0 ∨ i = 1) with rfl | rfl <;> simp [World.cell?_alloc_at, World.cell?_alloc_past]
  · have hi' : i < 2 := hi
    rcases (by omega : i = 0 ∨ i = 1) with rfl | rfl
    · refine ⟨_, _, rfl, by decide, by simp [maxLen], fun _ => ⟨w.heap.size + 1, 0, rfl, by first | (simp; done) | (simp; omega), fun i j hi hj => ?_⟩, fun h => by cases h⟩
      have hi' : i < 2 := hi
      rcases (by omega : i = 0 ∨ i = 1) with rfl | rfl <;> rcases (by omega : j = 0 ∨ j = 1 ∨ j = 2) with rfl | rfl | rfl <;> simp [exM, clAt, cutAt, Cut.cell, List.getD, World.cell?_alloc_at, World.cell?_alloc_past]
    · refine ⟨_, _, rfl, by decide, by simp [maxLen], fun _ => ⟨w.heap.size + 1 + 1, 0, rfl, by first | (simp; done) | (simp; omega), fun i j hi hj => ?_⟩, fun h => by cases h⟩
      have hi' : i < 1 := hi
      obtain rfl : i = 0 := by omega
      rcases (by omega : j = 0 ∨ j = 1 ∨ j = 2) with rfl | rfl | rfl <;> simp [exM, clAt, cutAt, Cut.cell, List.getD, World.cell?_alloc_at, World.cell?_alloc_past]

end Go.Proofs.Ytllddidjiabegaa

/- The sum of the example. -/
set_option linter.unusedVariables false
set_option linter.unusedSimpArgs false
namespace Go.Proofs.Ytllddidjiabegaa
open Go.RowKit

theorem conv_ab (w : World) : ∃ cap W, (convert 9 128 (.string ⟨#[97, 98]⟩)).run Try.prog w = .ok (.slice (some ⟨w.heap.size, 0, none⟩) 2 cap) W ∧ W.cell? ⟨w.heap.size, 0, none⟩ = some (.int .u8 97) ∧ W.cell? ⟨w.heap.size, 1, none⟩ = some (.int .u8 98) ∧ Below w.heap.size w W := by
  have h := run_bytes_of_string (P := Try.prog) w 9 128 5 ⟨#[97, 98]⟩ Try.underlying9 Try.underlying128 Try.underlying5
  refine ⟨_, _, h, ?_, ?_, ?_⟩
  · rw [show w.heap.size = w.drew.heap.size from rfl, World.cell?_alloc_mark]; simp [bytesRow, Array.getElem?_append]
  · rw [show w.heap.size = w.drew.heap.size from rfl, World.cell?_alloc_mark]; simp [bytesRow, Array.getElem?_append]
  · exact (Below.drewN 1 (Below.refl _ _)).alloc (Nat.le_refl _) _

theorem blind_SumOf_ab (w : World) : Calls Try.prog 73 #[.string ⟨#[97, 98]⟩] w fun e w' => e = .returned (.int .i64 22933) ∧ Below w.heap.size w w' := by
  obtain ⟨cap, W, hrun, c0, c1, hb⟩ := conv_ab w
  go_enter Try.func73, Try.ntmps73
  go_wp2_with fail
  go_loop [3, 9] (fun s i => (s = .int .i64 0 ∧ i = .int .i64 0) ∨ (s = .int .i64 98 ∧ i = .int .i64 1) ∨ (s = .int .i64 22933 ∧ i = .int .i64 2)) (fun _ i => 2 - (intOf i).toNat)
  case atStart => exact Or.inl ⟨rfl, rfl⟩
  case round =>
    rcases hrel with ⟨rfl, rfl⟩ | ⟨rfl, rfl⟩ | ⟨rfl, rfl⟩
    · go_wp2_with fail
      go_round
      case rel => exact Or.inr (Or.inl ⟨rfl, rfl⟩)
      case measure => simp [intOf]
    · go_wp2_with fail
      go_round
      case rel => exact Or.inr (Or.inr ⟨rfl, rfl⟩)
      case measure => simp [intOf]
    · go_wp2_with fail
      go_ret
      exact ⟨rfl, hb⟩

end Go.Proofs.Ytllddidjiabegaa

/- The chapter's examples hold. -/
set_option linter.unusedVariables false
set_option linter.unusedSimpArgs false
namespace Go.Proofs.Ytllddidjiabegaa
open Go.RowKit

theorem aw1 : pofErr 3 4 = 0 := by decide
theorem aw2 : pofList 3 4 = [1, 2, 0] := by decide
theorem aw3 : cbErr exM exL = 0 := by decide
theorem aw4 : cbN exM exL = 2 := by decide
theorem aw5 : sbList exM exL = [0, 1, 2] := by decide
theorem aw6 : chanceV 4 2 2 1 = .tuple #[.agg #[.int .i64 5, .int .i64 6], .int .i64 0] := by rfl
theorem aw7 : lowNum 5 6 = 5 ∧ lowDen 5 6 = 6 := by decide
theorem aw8 : limForV 2 2 100 = .tuple #[.agg #[.int .i64 3, .int .i64 10], .int .i64 0] := by rfl

set_option maxRecDepth 100000 in
set_option maxHeartbeats 1000000 in
theorem law_awake (w : World) : Calls Try.prog 11 #[] w fun e w' => e = .returned (.bool true) ∧ Below w.heap.size w w' := by
  have HP : Hid (∀ W, Calls Try.prog 60 #[.int .i64 3, .int .i64 4] W (RetIntsE W [1, 2, 0] 0)) := hid (fun W => by have := blind_PermutationOf 3 4 W; rwa [aw1, aw2] at this)
  have HC : Hid (∀ W cv v, EventsAt W v exL → ClausesAt W cv exM.cs → Calls Try.prog 18 #[.agg #[cv, .int .i64 10, .int .i64 3, .int .i64 6], v] W fun e w' => e = .returned (.tuple #[.int .i64 2, .int .i64 0]) ∧ Below W.heap.size W w') := hid (fun W cv v hl hc => by have := blind_CountBy exM cv exL v W hl hc; rwa [aw3, aw4] at this)
  have HX : Hid (∀ W, Calls Try.prog 24 #[.agg #[.int .i64 4, .int .i64 2, .int .i64 2, .int .i64 1]] W fun e w' => e = .returned (.tuple #[.agg #[.int .i64 5, .int .i64 6], .int .i64 0]) ∧ Below W.heap.size W w') := hid (fun W => by have := blind_ChanceOf 4 2 2 1 W; rwa [aw6] at this)
  have HL : Hid (∀ W, Calls Try.prog 47 #[.int .i64 2, .int .i64 2, .int .i64 100] W fun e w' => e = .returned (.tuple #[.agg #[.int .i64 3, .int .i64 10], .int .i64 0]) ∧ Below W.heap.size W w') := hid (fun W => by have := blind_LimitsFor 2 2 100 W; rwa [aw8] at this)
  have HS : Hid (∀ W cv v, EventsAt W v exL → ClausesAt W cv exM.cs → Calls Try.prog 16 #[.agg #[cv, .int .i64 10, .int .i64 3, .int .i64 6], v] W (RetIntsE W [0, 1, 2] 0)) := hid (fun W cv v hl hc => by have := blind_SelectedBy exM cv exL v W hl hc; rwa [aw3, aw5] at this)
  have HI : Hid (∀ W v u l, IntsAt W v l → IntsAt W u l → Calls Try.prog 21 #[v, u] W fun e w' => e = .returned (.bool true) ∧ Below W.heap.size W w') := hid (fun W v u l h h' => (base_Ints l l v u W h h').mono (by rintro _ _ ⟨rfl, k, rfl⟩; exact ⟨by simp, Below.drewN _ (Below.refl _ _)⟩))
  have HLo : Hid (∀ W, Calls Try.prog 72 #[.int .i64 5, .int .i64 6] W fun e w' => e = .returned (.agg #[.int .i64 5, .int .i64 6]) ∧ Below W.heap.size W w') := hid (fun W => by have := base_Lowest 5 6 W (by omega) (by omega) (by omega) (by omega); rwa [aw7.1, aw7.2] at this)
  go_enter Try.func11, Try.ntmps11
  go_wp2_with (go_at_call 60; refine (HP.out _).mono ?_; rintro _ w1 ⟨pv, rfl, hp1, hb1⟩)
  go_wp2_with (go_at_call 70; refine (law_Method _).mono ?_; rintro _ w2 ⟨cv, rfl, hcl, hb2⟩; unfold methV)
  go_wp2_with (first | (go_at_call 71; refine (law_Events _).mono ?_; rintro _ w3 ⟨lv, rfl, hlv, hb3⟩) | (go_at_call 18; refine (HC.out _ _ _ hlv (hcl.below hb3)).mono ?_; rintro _ w4 ⟨rfl, hb4⟩) | (go_at_call 24; refine (HX.out _).mono ?_; rintro _ w5 ⟨rfl, hb5⟩) | (go_at_call 47; refine (HL.out _).mono ?_; rintro _ w6 ⟨rfl, hb6⟩))
  refine (law_Method _).mono ?_
  rintro _ w7 ⟨cv2, rfl, hcl2, hb7⟩
  unfold methV
  go_wp2_with (first | (go_at_call 71; refine (law_Events _).mono ?_; rintro _ w8 ⟨lv2, rfl, hlv2, hb8⟩) | (go_at_call 16; refine (HS.out _ _ _ hlv2 (hcl2.below hb8)).mono ?_; rintro _ w9 ⟨sv, rfl, hsv, hb9⟩))
  obtain ⟨hB1, hBw, hB5, hB6⟩ : Below w1.heap.size w1 w9 ∧ Below w.heap.size w w9 ∧ Below (w5.alloc (.cells #[.int .i64 5, .int .i64 6] 48)).heap.size (w5.alloc (.cells #[.int .i64 5, .int .i64 6] 48)) w9 ∧ Below (w6.alloc (.cells #[.int .i64 3, .int .i64 10] 74)).heap.size (w6.alloc (.cells #[.int .i64 3, .int .i64 10] 74)) w9 := ⟨by (repeat (with_reducible first | exact Below.refl _ _ | assumption | refine Below.drewN _ ?_ | refine Below.drew ?_ | refine Below_alloc ?_ _ | refine Below.alloc ?_ (by first | (simp; done) | (simp; omega) | omega) _ | refine Below.setCell ?_ (by first | (simp; done) | (simp; omega) | omega) _ | refine Below_call ?_ (by assumption) | refine Below.trans ?_ (by assumption))), by (repeat (with_reducible first | exact Below.refl _ _ | assumption | refine Below.drewN _ ?_ | refine Below.drew ?_ | refine Below_alloc ?_ _ | refine Below.alloc ?_ (by first | (simp; done) | (simp; omega) | omega) _ | refine Below.setCell ?_ (by first | (simp; done) | (simp; omega) | omega) _ | refine Below_call ?_ (by assumption) | refine Below.trans ?_ (by assumption))), by (repeat (with_reducible first | exact Below.refl _ _ | assumption | refine Below.drewN _ ?_ | refine Below.drew ?_ | refine Below_alloc ?_ _ | refine Below.alloc ?_ (by first | (simp; done) | (simp; omega) | omega) _ | refine Below.setCell ?_ (by first | (simp; done) | (simp; omega) | omega) _ | refine Below_call ?_ (by assumption) | refine Below.trans ?_ (by assumption))), by (repeat (with_reducible first | exact Below.refl _ _ | assumption | refine Below.drewN _ ?_ | refine Below.drew ?_ | refine Below_alloc ?_ _ | refine Below.alloc ?_ (by first | (simp; done) | (simp; omega) | omega) _ | refine Below.setCell ?_ (by first | (simp; done) | (simp; omega) | omega) _ | refine Below_call ?_ (by assumption) | refine Below.trans ?_ (by assumption)))⟩
  have a0 := (bcell hB5).1 w5.heap.size 0 (by simp)
  have a1 := (bcell hB5).1 w5.heap.size 1 (by simp)
  have b0 := (bcell hB6).1 w6.heap.size 0 (by simp)
  have b1 := (bcell hB6).1 w6.heap.size 1 (by simp)
  simp at a0 a1 b0 b1
  have k5 : w5.heap.size < w9.heap.size := by have := hB5.size; simp at this; omega
  have k6 : w6.heap.size < w9.heap.size := by have := hB6.size; simp at this; omega
  have hpv := hp1.below hB1
  clear hB1 hB5 hB6 hb1 hb2 hb3 hb4 hb5 hb6 hb7 hb8 hb9 hcl hcl2 hlv hlv2
  refine wp_mix [.f [0, 1, 2], .q [3], .f [4, 5, 6, 7, 8, 9, 10, 11, 12, 13, 14, 15, 16, 17, 18, 19], .p 20 21, .f [22, 23, 24, 25, 26, 27, 28], .q [30], .f [29, 31, 32, 33, 34, 35, 36, 37], .q [38], .f [39, 40, 41, 42, 43, 44, 45, 46]] (by kernel_rfl) (by kernel_rfl) ?_
  intro Q' hQ'
  have hnew : IntsAt (w9.alloc (.cells #[.int .i64 1, .int .i64 2, .int .i64 0] 3)).drew (.slice (some ⟨w9.heap.size, 0, none⟩) 3 3) [1, 2, 0] := (intsAt_new w9 3 [1, 2, 0] 3 _ rfl (by decide) rfl).below (Below.drew (Below.refl _ _))
  rw [wpMix]
  simp only [pick, List.drop_succ_cons, List.drop_zero, List.head?_cons, Option.toList_some, List.cons_append, List.nil_append]
  go_wp2_with fail
  rw [contF]
  rw [wpMix]
  simp only [pick, List.drop_succ_cons, List.drop_zero, List.head?_cons, Option.toList_some, List.cons_append, List.nil_append]
  repeat (first | (go_big_quiet_step (fail)) | (quiet_step (fail)))
  try refine wpQuiet_nil ?_
  rw [wpMix]
  simp only [pick, List.drop_succ_cons, List.drop_zero, List.head?_cons, Option.toList_some, List.cons_append, List.nil_append]
  go_wp2_with (go_at_call 21; go_loud (refine (HI.out _ pv _ [1, 2, 0] (hpv.below (by (repeat (with_reducible first | exact Below.refl _ _ | assumption | refine Below.drewN _ ?_ | refine Below.drew ?_ | refine Below_alloc ?_ _ | refine Below.alloc ?_ (by first | (simp; done) | (simp; omega) | omega) _ | refine Below.setCell ?_ (by first | (simp; done) | (simp; omega) | omega) _ | refine Below_call ?_ (by assumption) | refine Below.trans ?_ (by assumption))))) hnew).mono ?_); rintro _ w10 ⟨rfl, hb10⟩)
  rw [contF]
  have hB9 : Below w9.heap.size w9 w10 := by (repeat (with_reducible first | exact Below.refl _ _ | assumption | refine Below.drewN _ ?_ | refine Below.drew ?_ | refine Below_alloc ?_ _ | refine Below.alloc ?_ (by first | (simp; done) | (simp; omega) | omega) _ | refine Below.setCell ?_ (by first | (simp; done) | (simp; omega) | omega) _ | refine Below_call ?_ (by assumption) | refine Below.trans ?_ (by assumption)))
  have a0' := ((bcell hB9).1 _ 0 k5).trans a0
  have a1' := ((bcell hB9).1 _ 1 k5).trans a1
  have b0' := ((bcell hB9).1 _ 0 k6).trans b0
  have b1' := ((bcell hB9).1 _ 1 k6).trans b1
  have k5' : w5.heap.size < w10.heap.size := Nat.lt_of_lt_of_le k5 hB9.size
  have k6' : w6.heap.size < w10.heap.size := Nat.lt_of_lt_of_le k6 hB9.size
  have hBw' : Below w.heap.size w w10 := hBw.trans (hB9.mono hBw.size)
  have hsv' := hsv.below hB9
  clear hb10 hB9 a0 a1 b0 b1 k5 k6 hBw hsv hpv
  rw [wpMix]
  refine ⟨?_, ?_⟩
  all_goals
    simp only [pick, List.drop_succ_cons, List.drop_zero, List.head?_cons, Option.toList_some, List.cons_append, List.nil_append]
    go_wp2_with (go_at_call 72; go_loud (refine (HLo.out _).mono ?_); go_loud (rintro _ w11 ⟨rfl, hb11⟩); go_loud (have k5 : w5.heap.size < w11.heap.size := Nat.lt_of_lt_of_le k5' hb11.size); have k6 : w6.heap.size < w11.heap.size := (Nat.lt_of_lt_of_le k6' hb11.size); have a0 := ((bcell hb11).1 _ 0 k5').trans a0'; have a1 := ((bcell hb11).1 _ 1 k5').trans a1'; have b0 := ((bcell hb11).1 _ 0 k6').trans b0'; have b1 := ((bcell hb11).1 _ 1 k6').trans b1')
    rw [contF]
    rw [wpMix]
    simp only [pick, List.drop_succ_cons, List.drop_zero, List.head?_cons, Option.toList_some, List.cons_append, List.nil_append]
    go_wp2_with fail
    rw [contF]
    rw [wpMix]
    simp only [pick, List.drop_succ_cons, List.drop_zero, List.head?_cons, Option.toList_some, List.cons_append, List.nil_append]
    repeat (first | (go_big_quiet_step (fail)) | (quiet_step (fail)))
    try refine wpQuiet_nil ?_
    rw [wpMix]
    simp only [pick, List.drop_succ_cons, List.drop_zero, List.head?_cons, Option.toList_some, List.cons_append, List.nil_append]
    go_wp2_with fail
    rw [contF]
    rw [wpMix]
    simp only [pick, List.drop_succ_cons, List.drop_zero, List.head?_cons, Option.toList_some, List.cons_append, List.nil_append]
    repeat (first | (go_big_quiet_step (fail)) | (quiet_step (fail)))
    try refine wpQuiet_nil ?_
    rw [wpMix]
    simp only [pick, List.drop_succ_cons, List.drop_zero, List.head?_cons, Option.toList_some, List.cons_append, List.nil_append]
    go_wp2_with (first | (go_at_call 21; refine (HI.out _ sv _ [0, 1, 2] (hsv'.below (by (repeat (with_reducible first | exact Below.refl _ _ | assumption | refine Below.drewN _ ?_ | refine Below.drew ?_ | refine Below_alloc ?_ _ | refine Below.alloc ?_ (by first | (simp; done) | (simp; omega) | omega) _ | refine Below.setCell ?_ (by first | (simp; done) | (simp; omega) | omega) _ | refine Below_call ?_ (by assumption) | refine Below.trans ?_ (by assumption))))) (intsAt_new _ _ _ _ _ rfl (by first | decide | simp) (by first | rfl | simp))).mono ?_; rintro _ w12 ⟨rfl, hb12⟩) | (go_at_call 73; refine (blind_SumOf_ab _).mono ?_; rintro _ w13 ⟨rfl, hb13⟩))
    rw [contF]
    rw [wpMix]
    refine hQ' _ _ ?_
    go_wp2
    go_ret
    exact ⟨rfl, by (repeat (with_reducible first | exact Below.refl _ _ | assumption | refine Below.drewN _ ?_ | refine Below.drew ?_ | refine Below_alloc ?_ _ | refine Below.alloc ?_ (by first | (simp; done) | (simp; omega) | omega) _ | refine Below.setCell ?_ (by first | (simp; done) | (simp; omega) | omega) _ | refine Below_call ?_ (by assumption) | refine Below.trans ?_ (by assumption)))⟩

end Go.Proofs.Ytllddidjiabegaa

/- The law of limits: the first error of a list. -/
set_option linter.unusedVariables false
set_option linter.unusedSimpArgs false
namespace Go.Proofs.Ytllddidjiabegaa
open Go.RowKit

theorem law_first (l : List Int) (v : Value) (w : World) (h : IntsAt w v l) :
    Calls Try.prog 49 #[v] w fun e w' => e = .returned (.int .i64 (firstNZ l)) ∧ w = w' := by
  obtain ⟨ao, cap, rfl, h1, h2, h3⟩ := h.opn
  unfold maxLen at h2
  go_enter Try.func49, Try.ntmps49
  go_wp2_with fail
  go_loop [3] (fun i => ∃ k : Nat, k ≤ l.length ∧ i = .int .i64 k ∧ Hid (∀ x ∈ l.take k, x = 0)) (fun i => l.length - (intOf i).toNat)
  case atStart => exact ⟨0, Nat.zero_le _, rfl, hid (by simp)⟩
  case round =>
    obtain ⟨k, hk, rfl, HZ⟩ := hrel
    by_cases hlt : k < l.length
    · obtain ⟨b, off, rfl, hb, hc⟩ := h3 k hlt
      have hck := hc k hlt
      obtain ⟨y, hy⟩ : ∃ y, y = nth l k := ⟨_, rfl⟩
      rw [← hy] at hck
      have HY := hid hy
      clear hc h3 hy
      cases ht : (y != 0)
      · have HT := hid ht
        go_wp2_with fail
        go_round
        case rel =>
          refine ⟨k + 1, by omega, by go_num, hid (fun x hx => ?_)⟩
          rw [take_nth hlt, List.mem_append, List.mem_singleton] at hx
          rcases hx with hx | rfl
          · exact HZ.out x hx
          · rw [← HY.out]; simpa using HT.out
        case measure => simp [intOf]; omega
      · have HT := hid ht
        go_wp2_with fail
        go_ret
        refine ⟨ret_int ?_, rfl⟩
        have hne : y ≠ 0 := by simpa using HT.out
        rw [cut_nth hlt, firstNZ_append_zero HZ.out]
        simp only [firstNZ]
        rw [← HY.out, if_neg hne]
    · have hkl : k = l.length := by omega
      subst hkl
      go_wp2_with fail
      go_ret
      refine ⟨ret_int ?_, rfl⟩
      have := HZ.out
      rw [List.take_length] at this
      exact (firstNZ_zero.2 this).symm

end Go.Proofs.Ytllddidjiabegaa

/- The law of limits, walked: small notions. -/
set_option linter.unusedVariables false
set_option linter.unusedSimpArgs false
namespace Go.Proofs.Ytllddidjiabegaa
open Go.RowKit

theorem first_list (l : List Int) (n N : Nat) (W : World) (e : TypeId) (hn : n = l.length) (hm : n ≤ 1000) (hN : W.heap.size = N) :
    Calls Try.prog 49 #[.slice (some ⟨N, 0, none⟩) n n] (W.alloc (.cells (l.map (Value.int .i64)).toArray e)) fun e' w' => e' = .returned (.int .i64 (firstNZ l)) ∧ W.alloc (.cells (l.map (Value.int .i64)).toArray e) = w' :=
  law_first l _ _ (intsAt_new W e l n N hn hm hN)
/-- a block of two cells. -/
def Pair2 (w : World) (b : Nat) (x y : Value) : Prop := b < w.heap.size ∧ w.cell? ⟨b, 0, none⟩ = some x ∧ w.cell? ⟨b, 1, none⟩ = some y
theorem Pair2.below {w w' : World} {b : Nat} {x y : Value} (h : Pair2 w b x y) (hb : Below w.heap.size w w') : Pair2 w' b x y :=
  ⟨Nat.lt_of_lt_of_le h.1 hb.size, (hb.cell (p := ⟨b, 0, none⟩) h.1).trans h.2.1, (hb.cell (p := ⟨b, 1, none⟩) h.1).trans h.2.2⟩

end Go.Proofs.Ytllddidjiabegaa

/- Trials: their errors and chances. -/
set_option linter.unusedVariables false
set_option linter.unusedSimpArgs false
namespace Go.Proofs.Ytllddidjiabegaa
open Go.RowKit

/-- in lowest terms; parts in their range; the error of a chance and trials. -/
def lowB (n d : Int) : Bool := decide (0 < d) && ((Int.gcd n d : Int) == 1)
def parB (n d : Int) : Bool := inB n 0 d && decide (d ≤ 1000000000)
def triErr (n d t : Int) : Int := firstNZ [unl (lowB n d) 3, unl (parB n d) 2, trErr t]

set_option maxRecDepth 100000 in
theorem base_IsLowest (n d : Int) (w : World) (h1 : -9223372036854775808 ≤ n) (h2 : n ≤ 9223372036854775807) (h3 : d ≤ 9223372036854775807) :
    Calls Try.prog 30 #[.agg #[.int .i64 n, .int .i64 d]] w fun e w' => e = .returned (.bool (lowB n d)) ∧ Below w.heap.size w w' := by
  by_cases hd : 0 < d
  · have HL : Hid (lowB n d = ((Int.gcd n d : Int) == 1)) := hid (by simp [lowB, hd])
    have hdd : decide ((0 : Int) < d) = true := by simpa using hd
    go_enter Try.func30, Try.ntmps30
    go_wp2_with (go_at_call 92; refine (base_Gcd _ _ _ h1 h2 hd h3).mono ?_; rintro _ _ ⟨rfl, m2, rfl⟩)
    go_ret
    exact ⟨by rw [HL.out]; rfl, by (repeat (with_reducible first | exact Below.refl _ _ | assumption | refine Below.drewN _ ?_ | refine Below.drew ?_ | refine Below_alloc ?_ _ | refine Below.alloc ?_ (by first | (simp; done) | (simp; omega) | omega) _ | refine Below.setCell ?_ (by first | (simp; done) | (simp; omega) | omega) _ | refine Below_call ?_ (by assumption) | refine Below.trans ?_ (by assumption)))⟩
  · have HL : Hid (lowB n d = false) := hid (by simp [lowB, hd])
    have hdd : decide ((0 : Int) < d) = false := by simpa using hd
    go_enter Try.func30, Try.ntmps30
    go_wp2_with fail
    go_ret
    exact ⟨by rw [HL.out]; rfl, by (repeat (with_reducible first | exact Below.refl _ _ | assumption | refine Below.drewN _ ?_ | refine Below.drew ?_ | refine Below_alloc ?_ _ | refine Below.alloc ?_ (by first | (simp; done) | (simp; omega) | omega) _ | refine Below.setCell ?_ (by first | (simp; done) | (simp; omega) | omega) _ | refine Below_call ?_ (by assumption) | refine Below.trans ?_ (by assumption)))⟩

theorem triErr_low {n d t : Int} (h : lowB n d = false) : triErr n d t = 3 := by simp [triErr, h, unl, firstNZ]
theorem triErr_par {n d t : Int} (h : lowB n d = true) (h2 : parB n d = false) : triErr n d t = 2 := by simp [triErr, h, h2, unl, firstNZ]
theorem triErr_rest {n d t : Int} (h : lowB n d = true) (h2 : parB n d = true) : triErr n d t = trErr t := by
  simp only [triErr, h, h2, unl, firstNZ, if_true]
  split
  · rename_i e; exact e.symm
  · rfl

set_option maxRecDepth 100000 in
set_option maxHeartbeats 1000000 in
theorem ref_TrialsErr (n d t : Int) (w : World) (h1 : -9223372036854775808 ≤ n) (h2 : n ≤ 9223372036854775807) (h3 : d ≤ 9223372036854775807) :
    Calls Try.prog 28 #[.agg #[.int .i64 n, .int .i64 d], .int .i64 t] w fun e w' => e = .returned (.int .i64 (triErr n d t)) ∧ Below w.heap.size w w' := by
  have HIL : Hid (∀ W, Calls Try.prog 30 #[.agg #[.int .i64 n, .int .i64 d]] W fun e w' => e = .returned (.bool (lowB n d)) ∧ Below W.heap.size W w') := hid (fun W => base_IsLowest n d W h1 h2 h3)
  cases hl : lowB n d
  · have HE : Hid (triErr n d t = 3) := hid (triErr_low hl)
    rw [hl] at HIL
    clear hl
    go_enter Try.func28, Try.ntmps28
    go_wp2_with (go_at_call 30; refine (HIL.out _).mono ?_; rintro _ w1 ⟨rfl, hb1⟩)
    go_ret
    exact ⟨by rw [HE.out]; rfl, by (repeat (with_reducible first | exact Below.refl _ _ | assumption | refine Below.drewN _ ?_ | refine Below.drew ?_ | refine Below_alloc ?_ _ | refine Below.alloc ?_ (by first | (simp; done) | (simp; omega) | omega) _ | refine Below.setCell ?_ (by first | (simp; done) | (simp; omega) | omega) _ | refine Below_call ?_ (by assumption) | refine Below.trans ?_ (by assumption)))⟩
  · have HLL := hid hl
    rw [hl] at HIL
    clear hl
    by_cases hp : 0 ≤ n ∧ n ≤ d ∧ d ≤ 1000000000
    · obtain ⟨p1, p2, p3⟩ := hp
      have HP : Hid (triErr n d t = trErr t) := hid (triErr_rest HLL.out (by simp only [parB, inB, Bool.and_eq_true, decide_eq_true_iff]; omega))
      cases hb : inB t 1 12
      all_goals
        have HT : Hid (trErr t = unl (inB t 1 12) 2) := hid rfl
        rw [hb] at HT
        go_enter Try.func28, Try.ntmps28
        go_wp2_with (first | (go_at_call 30; refine (HIL.out _).mono ?_; rintro _ w1 ⟨rfl, hb1⟩; obtain ⟨hc1, hf1⟩ := bcell hb1; have hz1 := hb1.size; (try simp only [World.size_alloc, World.heap_drewN] at hz1); have hk1_0 : w.heap.size < w1.heap.size := (by omega); have q1_0_0 := hc1 (w.heap.size) 0 (by first | assumption | (simp; done) | (simp; omega)); (try simp at q1_0_0); have p1_0_0 := hf1 (w.heap.size) 0 (by first | assumption | (simp; done) | (simp; omega)); (try simp at p1_0_0); have q1_0_1 := hc1 (w.heap.size) 1 (by first | assumption | (simp; done) | (simp; omega)); (try simp at q1_0_1); have p1_0_1 := hf1 (w.heap.size) 1 (by first | assumption | (simp; done) | (simp; omega)); (try simp at p1_0_1)) | (go_at_call 44; refine (base_Within _ _ _ _).mono ?_; rintro _ _ ⟨rfl, rfl⟩))
        go_ret
        exact ⟨by rw [HP.out, HT.out]; rfl, by (repeat (with_reducible first | exact Below.refl _ _ | assumption | refine Below.drewN _ ?_ | refine Below.drew ?_ | refine Below_alloc ?_ _ | refine Below.alloc ?_ (by first | (simp; done) | (simp; omega) | omega) _ | refine Below.setCell ?_ (by first | (simp; done) | (simp; omega) | omega) _ | refine Below_call ?_ (by assumption) | refine Below.trans ?_ (by assumption)))⟩
    · have HP : Hid (triErr n d t = 2) := hid (triErr_par HLL.out (by
        cases e : parB n d
        · rfl
        · simp only [parB, inB, Bool.and_eq_true, decide_eq_true_iff] at e; omega))
      go_enter Try.func28, Try.ntmps28
      go_wp2_with (first | (go_at_call 30; refine (HIL.out _).mono ?_; rintro _ w1 ⟨rfl, hb1⟩; obtain ⟨hc1, hf1⟩ := bcell hb1; have hz1 := hb1.size; (try simp only [World.size_alloc, World.heap_drewN] at hz1); have hk1_0 : w.heap.size < w1.heap.size := (by omega); have q1_0_0 := hc1 (w.heap.size) 0 (by first | assumption | (simp; done) | (simp; omega)); (try simp at q1_0_0); have p1_0_0 := hf1 (w.heap.size) 0 (by first | assumption | (simp; done) | (simp; omega)); (try simp at p1_0_0); have q1_0_1 := hc1 (w.heap.size) 1 (by first | assumption | (simp; done) | (simp; omega)); (try simp at q1_0_1); have p1_0_1 := hf1 (w.heap.size) 1 (by first | assumption | (simp; done) | (simp; omega)); (try simp at p1_0_1)) | (go_at_call 44; refine (base_Within _ _ _ _).mono ?_; rintro _ _ ⟨rfl, rfl⟩))
      all_goals first
        | (exfalso; omega)
        | skip
      all_goals go_ret
      all_goals exact ⟨by rw [HP.out]; rfl, by (repeat (with_reducible first | exact Below.refl _ _ | assumption | refine Below.drewN _ ?_ | refine Below.drew ?_ | refine Below_alloc ?_ _ | refine Below.alloc ?_ (by first | (simp; done) | (simp; omega) | omega) _ | refine Below.setCell ?_ (by first | (simp; done) | (simp; omega) | omega) _ | refine Below_call ?_ (by assumption) | refine Below.trans ?_ (by assumption)))⟩

end Go.Proofs.Ytllddidjiabegaa

