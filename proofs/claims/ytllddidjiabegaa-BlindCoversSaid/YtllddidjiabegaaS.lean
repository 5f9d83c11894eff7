/- Events in any order: their error, and copies. -/
import Derived.Test.YtllddidjiabegaaR
set_option linter.unusedVariables false
set_option linter.unusedSimpArgs false
namespace Go.Proofs.Ytllddidjiabegaa
open Go.RowKit

theorem evErr_two (x : Ev) : evErr x = 0 ∨ evErr x = 2 := by
  unfold evErr unl; split <;> simp

theorem scan_any (l : List Ev) : scan (fun i => evErr (evAt l i)) l.length = unl (!anyI (fun x => evErr x != 0) l) 2 := by
  cases h : anyI (fun x => evErr x != 0) l
  · have h' : ∀ x ∈ l, evErr x = 0 := by
      intro x hx
      rcases evErr_two x with e | e
      · exact e
      · have : anyI (fun x => evErr x != 0) l = true := by
          simp only [anyI, List.any_eq_true]; exact ⟨x, hx, by rw [e]; rfl⟩
        rw [h] at this; cases this
    rw [scan_end fun j hj => by rw [evAt_lt hj]; exact h' _ (List.getElem_mem hj)]
    rfl
  · have h2 : scan (fun i => evErr (evAt l i)) l.length ≠ 0 := by
      intro e
      have hz := scan_zero e
      simp only [anyI, List.any_eq_true] at h
      obtain ⟨x, hx, hne⟩ := h
      obtain ⟨j, hj, rfl⟩ := List.mem_iff_getElem.1 hx
      have := hz j hj
      rw [evAt_lt hj] at this
      rw [this] at hne
      cases hne
    have h3 : ∀ y ∈ (List.range l.length).map (fun i => evErr (evAt l i)), y = 0 ∨ y = 2 := by
      intro y hy
      obtain ⟨j, _, rfl⟩ := List.mem_map.1 hy
      exact evErr_two _
    have h4 : ∀ m : List Int, (∀ y ∈ m, y = 0 ∨ y = 2) → firstNZ m ≠ 0 → firstNZ m = 2 := by
      intro m
      induction m with
      | nil => intro _ h; exact absurd rfl h
      | cons a m ih =>
        intro h1 h5
        simp only [firstNZ] at h5 ⊢
        split
        · rename_i ha; rw [if_pos ha] at h5; exact ih (fun y hy => h1 y (by simp [hy])) h5
        · rename_i ha; exact (h1 a (by simp)).resolve_left ha
    exact h4 _ h3 h2

theorem anyErr_first (l : List Ev) : anyErr l = firstNZ [unl (decide ((l.length : Int) ≤ 12)) 8, unl (!anyI (fun x => evErr x != 0) l) 2] := by
  unfold anyErr
  rw [scan_any]
  by_cases h : 12 < l.length
  · have h' : ¬ (l.length : Int) ≤ 12 := by omega
    rw [if_pos h]; simp [h', unl, firstNZ]
  · have h' : (l.length : Int) ≤ 12 := by omega
    rw [if_neg h]; simp [h', unl, firstNZ]

theorem anyErr_ok {l : List Ev} (h : anyErr l = 0) : l.length ≤ 12 ∧ ∀ x ∈ l, evB x = true := by
  unfold anyErr at h
  split at h
  · cases h
  · refine ⟨by omega, fun x hx => ?_⟩
    obtain ⟨j, hj, rfl⟩ := List.mem_iff_getElem.1 hx
    have := scan_zero h j hj
    rw [evAt_lt hj] at this
    unfold evErr unl at this
    split at this
    · assumption
    · cases this

theorem blind_looseErr (l : List Ev) (v : Value) (w : World) (h : EventsAt w v l) :
    Calls Try.prog 80 #[v] w fun e w' => e = .returned (.int .i64 (anyErr l)) ∧ Below w.heap.size w w' := by
  obtain ⟨ao, cap, rfl, h1, h2, h3⟩ := h.opn
  unfold maxLen at h2
  have HA := hid (anyErr_first l)
  clear h3
  go_enter Try.func80, Try.ntmps80
  go_wp2_with (first | (go_at_call 118; refine (ev_ContainsFunc l _ _ h).mono ?_; rintro _ w1 ⟨rfl, hb1⟩; obtain ⟨hc1, hf1⟩ := bcell hb1; have hz1 := hb1.size; (try simp only [World.size_alloc, World.heap_drewN] at hz1)) | (go_at_call 78; refine (blind_unless _ _ _).mono ?_; rintro _ _ ⟨rfl, rfl⟩) | (go_at_call 75; refine (blind_first [unl (decide ((l.length : Int) ≤ 12)) 8, unl (!anyI (fun x => evErr x != 0) l) 2] _ _ (intsAt_new _ _ _ _ _ rfl (by simp) (by simp))).mono ?_; rintro _ _ ⟨rfl, rfl⟩))
  go_ret
  exact ⟨ret_int HA.out.symm, by (repeat (with_reducible first | exact Below.refl _ _ | assumption | refine Below.drewN _ ?_ | refine Below.drew ?_ | refine Below_alloc ?_ _ | refine Below.alloc ?_ (by first | (simp; done) | (simp; omega) | omega) _ | refine Below.setCell ?_ (by first | (simp; done) | (simp; omega) | omega) _ | refine Below_call ?_ (by assumption) | refine Below.trans ?_ (by assumption)))⟩

set_option maxRecDepth 100000 in
theorem ref_AnyErr (l : List Ev) (v : Value) (w : World) (h : EventsAt w v l) :
    Calls Try.prog 20 #[v] w fun e w' => e = .returned (.int .i64 (anyErr l)) ∧ Below w.heap.size w w' := by
  obtain ⟨ao, cap, rfl, h1, h2, h3⟩ := h.opn
  unfold maxLen at h2
  by_cases hbig : 12 < l.length
  · go_enter Try.func20, Try.ntmps20
    go_wp2_with fail
    go_ret
    exact ⟨ret_int (by simp only [anyErr]; rw [if_pos hbig]), Below.refl _ _⟩
  · go_enter Try.func20, Try.ntmps20
    go_wp2_with fail
    go_loopw [3] (fun i wr => ∃ k : Nat, k ≤ l.length ∧ i = .int .i64 k ∧ Hid (∀ j, j < k → evErr (evAt l j) = 0) ∧ Below w.heap.size w wr) (fun i _ => l.length - (intOf i).toNat)
    case atStart => exact ⟨0, Nat.zero_le _, rfl, hid (fun j hj => by omega), Below.refl _ _⟩
    case round =>
      obtain ⟨k, hk, rfl, HZ, hbel⟩ := hrel
      have hzw := hbel.size
      by_cases hlt : k < l.length
      · obtain ⟨b, off, rfl, hb, hc⟩ := h3 k hlt
        obtain ⟨c0, c1, c2, c3⟩ := hc k hlt
        obtain ⟨hcb, hfb⟩ := bcell hbel
        rw [← hcb b _ hb] at c0 c1 c2 c3
        obtain ⟨x, hx⟩ : ∃ x, x = evAt l k := ⟨_, rfl⟩
        rw [← hx] at c0 c1 c2 c3
        have HX := hid hx
        obtain ⟨t, en, ze, hi⟩ := x
        simp only at c0 c1 c2 c3
        clear hc h3 hcb hfb hx h
        cases ht : (evErr ⟨t, en, ze, hi⟩ != 0)
        · have HT := hid ht
          go_wp2_with (go_at_call 84; refine (ref_eventErr t en ze hi _).mono ?_; rintro _ w1 ⟨rfl, hb1⟩; obtain ⟨hc1, hf1⟩ := bcell hb1; have hz1 := hb1.size; (try simp only [World.size_alloc, World.heap_drewN] at hz1))
          go_roundw
          case rel =>
            refine ⟨k + 1, by omega, by go_num, hid (fun j hj => ?_), by (repeat (with_reducible first | exact Below.refl _ _ | assumption | refine Below.drewN _ ?_ | refine Below.drew ?_ | refine Below_alloc ?_ _ | refine Below.alloc ?_ (by first | (simp; done) | (simp; omega) | omega) _ | refine Below.setCell ?_ (by first | (simp; done) | (simp; omega) | omega) _ | refine Below_call ?_ (by assumption) | refine Below.trans ?_ (by assumption)))⟩
            rcases Nat.lt_or_ge j k with h | h
            · exact HZ.out j h
            · rw [show j = k from by omega, ← HX.out]; simpa using HT.out
          case measure => simp [intOf]; omega
        · have HT := hid ht
          go_wp2_with (go_at_call 84; refine (ref_eventErr t en ze hi _).mono ?_; rintro _ w1 ⟨rfl, hb1⟩; obtain ⟨hc1, hf1⟩ := bcell hb1; have hz1 := hb1.size; (try simp only [World.size_alloc, World.heap_drewN] at hz1))
          go_ret
          refine ⟨ret_int ?_, by (repeat (with_reducible first | exact Below.refl _ _ | assumption | refine Below.drewN _ ?_ | refine Below.drew ?_ | refine Below_alloc ?_ _ | refine Below.alloc ?_ (by first | (simp; done) | (simp; omega) | omega) _ | refine Below.setCell ?_ (by first | (simp; done) | (simp; omega) | omega) _ | refine Below_call ?_ (by assumption) | refine Below.trans ?_ (by assumption)))⟩
          have hne : evErr (evAt l k) ≠ 0 := by rw [← HX.out]; simpa using HT.out
          simp only [anyErr]
          rw [if_neg hbig, scan_at (f := fun i => evErr (evAt l i)) HZ.out hlt hne, ← HX.out]
      · go_wp2_with fail
        go_ret
        exact ⟨ret_int (by simp only [anyErr]; rw [if_neg hbig, scan_end fun j hj => HZ.out j (by omega)]), hbel⟩

theorem law_few (l : List Ev) (v : Value) (w : World) (h : EventsAt w v l) :
    Calls Try.prog 12 #[v] w fun e w' => e = .returned (.bool (decide ((l.length : Int) ≤ 14))) ∧ w = w' := by
  obtain ⟨ao, cap, rfl, h1, h2, h3⟩ := h.opn
  unfold maxLen at h2
  go_enter Try.func12, Try.ntmps12
  go_wp2_with fail
  go_ret
  exact ⟨ret_bool rfl, rfl⟩

theorem elemEv : Elem Try.prog 25 89 4 32 := Elem.mk (z := .agg #[.int .i64 0, .int .i64 0, .int .i64 0, .int .i64 0]) Try.underlying25 (by kernel_rfl) rfl (by decide)

/-- the call's own row, opened. -/
theorem ownsRow_sl {w : World} {base : Nat} {e : TypeId} {v : Value} {n sz : Nat} {c : Nat → Nat → Value} (h : w.ownsRow base e sz v n (flat n sz c)) : SlAt w v n sz c := by
  obtain ⟨h1, h2⟩ := h
  rcases h2 with ⟨rfl, h0⟩ | ⟨g, cap, cur, rfl, hb, hg, hn, hm, hs, ht⟩
  · subst h0
    exact ⟨none, 0, rfl, by simp, by simp, fun h => by omega, fun _ => rfl⟩
  · refine ⟨some ⟨g, 0, none⟩, cap, rfl, hn, hm, fun h0 => ⟨g, 0, rfl, (Array.getElem?_eq_some_iff.1 hg).1, fun i j hi hj => ?_⟩, fun h => by cases h⟩
    rw [cell_of_row w g _ cur e (0, 0) hg]
    have hq : i * sz + j < n * sz := by
      have : (i + 1) * sz ≤ n * sz := Nat.mul_le_mul_right _ hi
      rw [Nat.add_mul] at this; omega
    have e1 : (cur.toList.take (n * sz))[i * sz + j]? = some (c i j) := by
      rw [ht, flat_get hq]
      rw [Nat.mul_comm i sz, Nat.mul_add_div (by omega), Nat.div_eq_of_lt hj, Nat.mul_add_mod, Nat.mod_eq_of_lt hj, Nat.add_zero]
    rw [List.getElem?_take, if_pos hq] at e1
    simpa using e1

def RetEvents (w : World) (l : List Ev) (e : Ending) (w' : World) : Prop := ∃ v, e = .returned v ∧ EventsAt w' v l ∧ Below w.heap.size w w'

theorem flat_one {n sz : Nat} {c : Nat → Nat → Value} (h : ∀ i j, i < n → j < sz → (c i j).oneCell' = true) : ∀ u ∈ flat n sz c, u.oneCell' = true := by
  intro u hu
  obtain ⟨q, hq, rfl⟩ := List.mem_map.1 hu
  have hq' : q < n * sz := List.mem_range.1 hq
  have hs : 0 < sz := Nat.pos_of_ne_zero (by rintro rfl; simp at hq')
  exact h _ _ (Nat.div_lt_of_lt_mul (by rwa [Nat.mul_comm])) (Nat.mod_lt _ hs)
theorem cell_one (x : Ev) (j : Nat) : (x.cell j).oneCell' = true := by
  unfold Ev.cell; split <;> rfl

set_option maxRecDepth 100000 in
theorem ref_CopyEvents (l : List Ev) (v : Value) (w : World) (h : EventsAt w v l) (hl : l.length ≤ 100) :
    Calls Try.prog 17 #[v] w (RetEvents w l) := by
  obtain ⟨ao, cap, rfl, h1, h2, h3⟩ := SlAt.src h
  have HE : (w.alloc (.cells #[] 89)).ownsRow w.heap.size 89 4 (.slice (some ⟨w.heap.size, 0, none⟩) 0 0) 0 [] := ownsRow_empty w elemEv
  have HS := h3 (w.alloc (.cells #[] 89)) ((Below.refl _ _).alloc (Nat.le_refl _) _)
  clear h3
  go_enter Try.func17, Try.ntmps17
  go_wp2_with (at_builtin; go_must (refine wpList_append_list rfl (.tmp 3) (.tmp 4) _ rfl elemEv w.heap.size (.slice (some ⟨w.heap.size, 0, none⟩) 0 0) 0 [] rfl HE ao l.length cap _ rfl (flat_len _ _ _) (flat_one fun i j _ _ => cell_one _ j) HS (by omega) (by unfold maxLen; omega) (by simp) ?_); intro v3 w3 hown4 hp4 _)
  go_ret
  refine ⟨v3, rfl, ?_, ((Below.refl _ _).alloc (Nat.le_refl _) _).trans hp4.below⟩
  rw [Nat.zero_add, List.nil_append] at hown4
  exact ownsRow_sl hown4

end Go.Proofs.Ytllddidjiabegaa
