/- Copies of methods. -/
import Derived.Test.YtllddidjiabegaaBM2
set_option linter.unusedVariables false
set_option linter.unusedSimpArgs false
namespace Go.Proofs.Ytllddidjiabegaa
open Go.RowKit

/-- a slice whose row lies in a block of a kind. -/
def SlIn (w : World) (v : Value) (n sz : Nat) (c : Nat → Nat → Value) (N : Nat → Prop) : Prop :=
  ∃ ao cap, v = .slice ao n cap ∧ n ≤ cap ∧ cap ≤ maxLen ∧
    (0 < n → ∃ b off, ao = some ⟨b, off, none⟩ ∧ b < w.heap.size ∧ N b ∧ ∀ i j, i < n → j < sz → w.cell? ⟨b, off + i * sz + j, none⟩ = some (c i j)) ∧ (ao = none → cap = 0)
theorem SlIn.sl {w : World} {v : Value} {n sz : Nat} {c : Nat → Nat → Value} {N : Nat → Prop} (h : SlIn w v n sz c N) : SlAt w v n sz c := by
  obtain ⟨ao, cap, rfl, h1, h2, h3, h4⟩ := h
  refine ⟨ao, cap, rfl, h1, h2, fun h0 => ?_, h4⟩
  obtain ⟨b, off, e, hlt, _, hc⟩ := h3 h0
  exact ⟨b, off, e, hlt, hc⟩
theorem cell_of_heap {w w' : World} {b o : Nat} (h : w'.heap[b]? = w.heap[b]?) : w'.cell? ⟨b, o, none⟩ = w.cell? ⟨b, o, none⟩ := by
  simp only [World.cell?, h]
theorem SlIn.keep {w w' : World} {v : Value} {n sz : Nat} {c : Nat → Nat → Value} {N N' : Nat → Prop} (h : SlIn w v n sz c N) (hs : w.heap.size ≤ w'.heap.size) (hk : ∀ b, b < w.heap.size → N b → w'.heap[b]? = w.heap[b]? ∧ N' b) : SlIn w' v n sz c N' := by
  obtain ⟨ao, cap, rfl, h1, h2, h3, h4⟩ := h
  refine ⟨ao, cap, rfl, h1, h2, fun h0 => ?_, h4⟩
  obtain ⟨b, off, e, hlt, hN, hc⟩ := h3 h0
  obtain ⟨h5, h6⟩ := hk b hlt hN
  exact ⟨b, off, e, Nat.lt_of_lt_of_le hlt hs, h6, fun i j hi hj => (cell_of_heap h5).trans (hc i j hi hj)⟩
theorem ownsRow_in {w : World} {base : Nat} {e : TypeId} {v : Value} {n sz : Nat} {c : Nat → Nat → Value} (h : w.ownsRow base e sz v n (flat n sz c)) : SlIn w v n sz c (fun b => base ≤ b ∧ v.ownBlock = some b) := by
  obtain ⟨h1, h2⟩ := h
  rcases h2 with ⟨rfl, h0⟩ | ⟨g, cap, cur, rfl, hb, hg, hn, hm, hs, ht⟩
  · subst h0
    exact ⟨none, 0, rfl, by simp, by simp, fun h => by omega, fun _ => rfl⟩
  · refine ⟨some ⟨g, 0, none⟩, cap, rfl, hn, hm, fun h0 => ⟨g, 0, rfl, (Array.getElem?_eq_some_iff.1 hg).1, ⟨hb, rfl⟩, fun i j hi hj => ?_⟩, fun h => by cases h⟩
    rw [cell_of_row w g _ cur e (0, 0) hg]
    have hq : i * sz + j < n * sz := by
      have : (i + 1) * sz ≤ n * sz := Nat.mul_le_mul_right _ hi
      rw [Nat.add_mul] at this; omega
    have e1 : (cur.toList.take (n * sz))[i * sz + j]? = some (c i j) := by
      rw [ht, flat_get hq]
      rw [Nat.mul_comm i sz, Nat.mul_add_div (by omega), Nat.div_eq_of_lt hj, Nat.mul_add_mod, Nat.mod_eq_of_lt hj, Nat.add_zero]
    rw [List.getElem?_take, if_pos hq] at e1
    simpa using e1
theorem flat_us (us : List Value) : us = flat us.length 1 (fun i _ => us.getD i undef) := by
  apply List.ext_getElem (by simp [flat])
  intro i h1 h2
  simp [flat, List.getD, h1]
theorem ownsRow_one {w : World} {base : Nat} {e : TypeId} {v : Value} {n sz : Nat} {xs : List Value} (h : w.ownsRow base e sz v n xs) : v.oneCell' = true := by
  rcases h.2 with ⟨rfl, h0⟩ | ⟨g, cap, cur, rfl, _⟩ <;> rfl
theorem ownsRow_shape {w : World} {base : Nat} {e : TypeId} {v : Value} {n sz : Nat} {xs : List Value} (h : w.ownsRow base e sz v n xs) : ∃ ao k c, v = .slice ao k c := by
  rcases h.2 with ⟨rfl, h0⟩ | ⟨g, cap, cur, rfl, _⟩
  · exact ⟨_, _, _, rfl⟩
  · exact ⟨_, _, _, rfl⟩
theorem cutcell_one (x : Cut) (j : Nat) : (x.cell j).oneCell' = true := by
  unfold Cut.cell; split <;> rfl
theorem elemCut : Elem Try.prog 105 108 3 24 := Elem.mk (z := .agg #[.int .i64 0, .int .i64 0, .int .i64 0]) Try.underlying105 (by kernel_rfl) rfl (by decide)
theorem elemCl : Elem Try.prog 22 105 1 24 := Elem.mk (z := .slice none 0 0) Try.underlying22 (by kernel_rfl) rfl (by decide)

/-- the rows copied so far. -/
structure CopyM (w : World) (bo base : Nat) (v : Value) (us : List Value) (k : Nat) (cs : List (List Cut)) (p fr to : Int) : Prop where
  out : w.heap[bo]? = some (.cells #[v, .int .i64 p, .int .i64 fr, .int .i64 to] 24 (0, 0))
  own : w.ownsRow base 105 1 v k us
  rows : ∀ i, i < k → SlIn w (us.getD i undef) (clAt cs i).length 3 (fun q j => (cutAt (clAt cs i) q).cell j) (fun b => base ≤ b ∧ v.ownBlock ≠ some b)

set_option maxRecDepth 100000 in
set_option maxHeartbeats 2000000 in
theorem ref_CopyMethod (cs : List (List Cut)) (cv : Value) (p fr to : Int) (w : World) (h : ClausesAt w cv cs) (hs : smallB cs = true) :
    Calls Try.prog 15 #[.agg #[cv, .int .i64 p, .int .i64 fr, .int .i64 to]] w fun e w' => ∃ u, e = .returned (methV u p fr to) ∧ ClausesAt w' u cs ∧ Below w.heap.size w w' := by
  obtain ⟨hn6, HL6⟩ := smallB_ok hs
  have HL := hid HL6
  clear HL6 hs
  obtain ⟨ao, cap, us0, rfl, h1, h2, h3⟩ := h.opn
  unfold maxLen at h2
  go_enter Try.func15, Try.ntmps15
  go_wp2_with fail
  obtain ⟨A, hA⟩ : ∃ A : Obj, A = .cells #[.slice ao cs.length cap, .int .i64 p, .int .i64 fr, .int .i64 to] 24 := ⟨_, rfl⟩
  obtain ⟨B, hB⟩ : ∃ B : Obj, B = .cells #[.slice none 0 0, .int .i64 0, .int .i64 0, .int .i64 0] 24 := ⟨_, rfl⟩
  obtain ⟨C, hC⟩ : ∃ C : Obj, C = .cells #[.slice none 0 0, .int .i64 p, .int .i64 fr, .int .i64 to] 24 := ⟨_, rfl⟩
  rw [← hA, ← hB, ← hC]
  obtain ⟨W0, hW0⟩ : ∃ W0, W0 = ((w.alloc A).alloc B).alloc C := ⟨_, rfl⟩
  have hz0 : W0.heap.size = w.heap.size + 3 := by rw [hW0]; simp
  have HO : Hid (W0.heap[w.heap.size + 2]? = some (.cells #[.slice none 0 0, .int .i64 p, .int .i64 fr, .int .i64 to] 24 (0, 0))) := hid (by
    have := heap_alloc_new ((w.alloc A).alloc B) C
    rw [World.size_alloc, World.size_alloc, ← hW0] at this
    rw [this, hC])
  have HR : Hid (W0.heap[w.heap.size + 1]? = some (.cells #[.slice none 0 0, .int .i64 0, .int .i64 0, .int .i64 0] 24 (0, 0))) := hid (by
    have := heap_alloc_new (w.alloc A) B
    rw [World.size_alloc] at this
    rw [hW0, Below.heap_alloc _ _ _ (by simp), this, hB])
  have r0 : W0.cell? ⟨w.heap.size, 0, none⟩ = some (.slice ao cs.length cap) := by
    have := heap_alloc_new w A
    have e : W0.heap[w.heap.size]? = some A := by rw [hW0, Below.heap_alloc _ _ _ (by simp; omega), Below.heap_alloc _ _ _ (by simp), this]
    rw [hA] at e
    rw [cell_of_row W0 _ 0 _ _ (0, 0) e]; rfl
  have hBW : Below w.heap.size w W0 := by rw [hW0]; (repeat (with_reducible first | exact Below.refl _ _ | assumption | refine Below.drewN _ ?_ | refine Below.drew ?_ | refine Below_alloc ?_ _ | refine Below.alloc ?_ (by first | (simp; done) | (simp; omega) | omega) _ | refine Below.setCell ?_ (by first | (simp; done) | (simp; omega) | omega) _ | refine Below_call ?_ (by assumption) | refine Below.trans ?_ (by assumption)))
  rw [← hW0]
  clear hW0 hA hB hC
  have hz0' : w.heap.size + 3 ≤ W0.heap.size := by omega
  have HZ0 := hid hz0
  clear hz0
  go_loopw [4] (fun i wr => ∃ k : Nat, k ≤ cs.length ∧ i = .int .i64 k ∧ Below (w.heap.size + 2) W0 wr ∧ w.heap.size + 3 ≤ wr.heap.size ∧ ∃ v us, CopyM wr (w.heap.size + 2) (w.heap.size + 3) v us k cs p fr to) (fun i _ => cs.length - (intOf i).toNat)
  case atStart => exact ⟨0, Nat.zero_le _, rfl, Below.refl _ _, hz0', _, [], HO.out, World.ownsRow_nil _ _ _ _, fun i hi => absurd hi (by omega)⟩
  case round =>
    obtain ⟨k, hk, rfl, hbel, hzw, v, us, hout, hown, hrows⟩ := hrel
    have hB : Below w.heap.size w wr := hBW.trans (hbel.mono (by omega))
    have s0 := (hbel.cell (p := ⟨w.heap.size, 0, none⟩) (show w.heap.size < w.heap.size + 2 by omega)).trans r0
    have HR' : Hid (wr.heap[w.heap.size + 1]? = some (.cells #[.slice none 0 0, .int .i64 0, .int .i64 0, .int .i64 0] 24 (0, 0))) := hid ((hbel.block _ (by omega)).trans HR.out)
    have o0 : wr.cell? ⟨w.heap.size + 2, 0, none⟩ = some v := by rw [cell_of_row wr _ 0 _ _ (0, 0) hout]; rfl
    have o1 : wr.cell? ⟨w.heap.size + 2, 1, none⟩ = some (.int .i64 p) := by rw [cell_of_row wr _ 1 _ _ (0, 0) hout]; rfl
    have o2 : wr.cell? ⟨w.heap.size + 2, 2, none⟩ = some (.int .i64 fr) := by rw [cell_of_row wr _ 2 _ _ (0, 0) hout]; rfl
    have o3 : wr.cell? ⟨w.heap.size + 2, 3, none⟩ = some (.int .i64 to) := by rw [cell_of_row wr _ 3 _ _ (0, 0) hout]; rfl
    have HOUT := hid hout
    clear hout
    by_cases hlt : k < cs.length
    · obtain ⟨b, off, rfl, hb, hc⟩ := h3 k hlt
      obtain ⟨c0, hcu⟩ := hc k hlt
      rw [← hB.cell (p := ⟨b, off + k, none⟩) hb] at c0
      replace hcu := hcu.below hB
      have hl6 := HL.out k hlt
      obtain ⟨cl, hcl⟩ : ∃ cl, cl = clAt cs k := ⟨_, rfl⟩
      rw [← hcl] at hcu hl6
      have HCL := hid hcl
      obtain ⟨ao2, cap2, hus, g1, g2, g3⟩ := SlAt.src hcu
      rw [hus] at c0
      have HE : (wr.drew.alloc (.cells #[] 108)).ownsRow wr.heap.size 108 3 (.slice (some ⟨wr.heap.size, 0, none⟩) 0 0) 0 [] := ownsRow_empty wr.drew elemCut
      have HS := g3 (wr.drew.alloc (.cells #[] 108)) (by (repeat (with_reducible first | exact Below.refl _ _ | assumption | refine Below.drewN _ ?_ | refine Below.drew ?_ | refine Below_alloc ?_ _ | refine Below.alloc ?_ (by first | (simp; done) | (simp; omega) | omega) _ | refine Below.setCell ?_ (by first | (simp; done) | (simp; omega) | omega) _ | refine Below_call ?_ (by assumption) | refine Below.trans ?_ (by assumption))))
      have huk : us.length = k := by have := hown.1; omega
      have HUK := hid huk
      have HRW := hid hrows
      have HHZ := hid hzw
      have hbk : b < w.heap.size + 3 := by omega
      clear hc h3 hcl h hcu hus g3 hrows huk
      go_wp2_with fail
      refine wp_mixC (fun wc => Below (w.heap.size + 3) wr wc) 11 [.q [0, 1, 3, 4, 5, 6, 7], .f [2, 8, 9, 10]] [.q [11], .f [12]] (by kernel_rfl) (by kernel_rfl) ((Below.refl _ _).drew) ?_
      intro Q' hQ'
      (rw [wpMixC]; simp only [pick, List.drop_succ_cons, List.drop_zero, List.head?_cons, Option.toList_some, List.cons_append, List.nil_append])
      (repeat (first | go_big_quiet_skip | (go_big_quiet_want; refine quiet_simple rfl ?_; go_big_quiet_op; go_big_quiet_on) | (go_big_quiet_want; refine quiet_cellB (ty := 22) rfl rfl (by kernel_rfl) (by assumption) (by first | omega | (simp; omega)) ?_; simp only [Act.put, List.setIfInBounds_toArray, List.set_cons_succ, List.set_cons_zero]; go_big_quiet_on) | (go_big_quiet_want; refine quiet_cellB (ty := 105) rfl rfl (by kernel_rfl) (by assumption) (by first | omega | (simp; omega)) ?_; simp only [Act.put, List.setIfInBounds_toArray, List.set_cons_succ, List.set_cons_zero]; go_big_quiet_on)))
      (try refine wpQuiet_nil ?_)
      (rw [wpMixC]; simp only [pick, List.drop_succ_cons, List.drop_zero, List.head?_cons, Option.toList_some, List.cons_append, List.nil_append])
      (rw [wpSteps]; go_wp2_with (first | (at_builtin; refine wpList_append_list rfl (.tmp 16) (.tmp 21) _ rfl elemCut wr.heap.size (.slice (some ⟨wr.heap.size, 0, none⟩) 0 0) 0 [] rfl HE ao2 cl.length cap2 _ rfl (flat_len _ _ _) (flat_one fun i j _ _ => cutcell_one _ j) HS (by omega) (by unfold maxLen; omega) (by simp) ?_; intro v3 w3 hown4 hp4 _; obtain ⟨ao3, n3, c3, rfl⟩ := ownsRow_shape hown4; have hB3 : Below wr.heap.size wr w3 := ((Below.refl _ _).drew.alloc (Nat.le_refl _) _).trans hp4.below; have hown3 := ownsRow_below hown hB3; have hq3 : Below (w.heap.size + 3) wr w3 := hB3.mono hzw; have hz3 : w.heap.size + 3 ≤ w3.heap.size := Nat.le_trans hzw hB3.size) | (at_builtin; refine wpList_push rfl (.tmp 15) (.tmp 23) _ rfl elemCl (w.heap.size + 3) v k us rfl w3 hown3 [.slice ao3 n3 c3] rfl (by simp [Value.oneCell']) rfl _ rfl rfl (by omega) (by unfold maxLen; omega) hz3 ?_; intro v4 w4 hown5 hb5 hoth hlies; obtain ⟨ao4, n4, c4, rfl⟩ := ownsRow_shape hown5; have hq4 : Below (w.heap.size + 3) wr w4 := hq3.trans hb5; have hblk := (hq4.block (w.heap.size + 2) (by omega)).trans HOUT.out; have oo : w4.cell? ⟨w.heap.size + 1 + 1, 0, none⟩ = some v := (by rw [cell_of_row w4 _ 0 _ _ (0, 0) hblk]; rfl); have ff : w4.frozen? ⟨w.heap.size + 1 + 1, 0, none⟩ = false := frozen_of_row w4 _ 0 _ _ hblk; have HBLK := hid hblk; clear hblk; have hz4 : w.heap.size + 3 ≤ w4.heap.size := Nat.le_trans hz3 hb5.size)); rw [contF]; refine ⟨?_, ?_⟩; (next => (first | exact hq4 | (repeat (with_reducible first | exact Below.refl _ _ | assumption | refine Below.drewN _ ?_ | refine Below.drew ?_ | refine Below_alloc ?_ _ | refine Below.alloc ?_ (by first | (simp; done) | (simp; omega) | omega) _ | refine Below.setCell ?_ (by first | (simp; done) | (simp; omega) | omega) _ | refine Below_call ?_ (by assumption) | refine Below.trans ?_ (by assumption))))))
      (rw [wpSteps]; go_wp2_with (first | (at_builtin; refine wpList_append_list rfl (.tmp 16) (.tmp 21) _ rfl elemCut wr.heap.size (.slice (some ⟨wr.heap.size, 0, none⟩) 0 0) 0 [] rfl HE ao2 cl.length cap2 _ rfl (flat_len _ _ _) (flat_one fun i j _ _ => cutcell_one _ j) HS (by omega) (by unfold maxLen; omega) (by simp) ?_; intro v3 w3 hown4 hp4 _; obtain ⟨ao3, n3, c3, rfl⟩ := ownsRow_shape hown4; have hB3 : Below wr.heap.size wr w3 := ((Below.refl _ _).drew.alloc (Nat.le_refl _) _).trans hp4.below; have hown3 := ownsRow_below hown hB3; have hq3 : Below (w.heap.size + 3) wr w3 := hB3.mono hzw; have hz3 : w.heap.size + 3 ≤ w3.heap.size := Nat.le_trans hzw hB3.size) | (at_builtin; refine wpList_push rfl (.tmp 15) (.tmp 23) _ rfl elemCl (w.heap.size + 3) v k us rfl w3 hown3 [.slice ao3 n3 c3] rfl (by simp [Value.oneCell']) rfl _ rfl rfl (by omega) (by unfold maxLen; omega) hz3 ?_; intro v4 w4 hown5 hb5 hoth hlies; obtain ⟨ao4, n4, c4, rfl⟩ := ownsRow_shape hown5; have hq4 : Below (w.heap.size + 3) wr w4 := hq3.trans hb5; have hblk := (hq4.block (w.heap.size + 2) (by omega)).trans HOUT.out; have oo : w4.cell? ⟨w.heap.size + 1 + 1, 0, none⟩ = some v := (by rw [cell_of_row w4 _ 0 _ _ (0, 0) hblk]; rfl); have ff : w4.frozen? ⟨w.heap.size + 1 + 1, 0, none⟩ = false := frozen_of_row w4 _ 0 _ _ hblk; have HBLK := hid hblk; clear hblk; have hz4 : w.heap.size + 3 ≤ w4.heap.size := Nat.le_trans hz3 hb5.size)); rw [contF]; refine ⟨?_, ?_⟩; (next => (first | exact hq4 | (repeat (with_reducible first | exact Below.refl _ _ | assumption | refine Below.drewN _ ?_ | refine Below.drew ?_ | refine Below_alloc ?_ _ | refine Below.alloc ?_ (by first | (simp; done) | (simp; omega) | omega) _ | refine Below.setCell ?_ (by first | (simp; done) | (simp; omega) | omega) _ | refine Below_call ?_ (by assumption) | refine Below.trans ?_ (by assumption))))))
      (rw [wpSteps]; go_wp2_with (first | (at_builtin; refine wpList_append_list rfl (.tmp 16) (.tmp 21) _ rfl elemCut wr.heap.size (.slice (some ⟨wr.heap.size, 0, none⟩) 0 0) 0 [] rfl HE ao2 cl.length cap2 _ rfl (flat_len _ _ _) (flat_one fun i j _ _ => cutcell_one _ j) HS (by omega) (by unfold maxLen; omega) (by simp) ?_; intro v3 w3 hown4 hp4 _; obtain ⟨ao3, n3, c3, rfl⟩ := ownsRow_shape hown4; have hB3 : Below wr.heap.size wr w3 := ((Below.refl _ _).drew.alloc (Nat.le_refl _) _).trans hp4.below; have hown3 := ownsRow_below hown hB3; have hq3 : Below (w.heap.size + 3) wr w3 := hB3.mono hzw; have hz3 : w.heap.size + 3 ≤ w3.heap.size := Nat.le_trans hzw hB3.size) | (at_builtin; refine wpList_push rfl (.tmp 15) (.tmp 23) _ rfl elemCl (w.heap.size + 3) v k us rfl w3 hown3 [.slice ao3 n3 c3] rfl (by simp [Value.oneCell']) rfl _ rfl rfl (by omega) (by unfold maxLen; omega) hz3 ?_; intro v4 w4 hown5 hb5 hoth hlies; obtain ⟨ao4, n4, c4, rfl⟩ := ownsRow_shape hown5; have hq4 : Below (w.heap.size + 3) wr w4 := hq3.trans hb5; have hblk := (hq4.block (w.heap.size + 2) (by omega)).trans HOUT.out; have oo : w4.cell? ⟨w.heap.size + 1 + 1, 0, none⟩ = some v := (by rw [cell_of_row w4 _ 0 _ _ (0, 0) hblk]; rfl); have ff : w4.frozen? ⟨w.heap.size + 1 + 1, 0, none⟩ = false := frozen_of_row w4 _ 0 _ _ hblk; have HBLK := hid hblk; clear hblk; have hz4 : w.heap.size + 3 ≤ w4.heap.size := Nat.le_trans hz3 hb5.size)); rw [contF]; refine ⟨?_, ?_⟩; (next => (first | exact hq4 | (repeat (with_reducible first | exact Below.refl _ _ | assumption | refine Below.drewN _ ?_ | refine Below.drew ?_ | refine Below_alloc ?_ _ | refine Below.alloc ?_ (by first | (simp; done) | (simp; omega) | omega) _ | refine Below.setCell ?_ (by first | (simp; done) | (simp; omega) | omega) _ | refine Below_call ?_ (by assumption) | refine Below.trans ?_ (by assumption))))))
      (rw [wpSteps]; go_wp2_with (first | (at_builtin; refine wpList_append_list rfl (.tmp 16) (.tmp 21) _ rfl elemCut wr.heap.size (.slice (some ⟨wr.heap.size, 0, none⟩) 0 0) 0 [] rfl HE ao2 cl.length cap2 _ rfl (flat_len _ _ _) (flat_one fun i j _ _ => cutcell_one _ j) HS (by omega) (by unfold maxLen; omega) (by simp) ?_; intro v3 w3 hown4 hp4 _; obtain ⟨ao3, n3, c3, rfl⟩ := ownsRow_shape hown4; have hB3 : Below wr.heap.size wr w3 := ((Below.refl _ _).drew.alloc (Nat.le_refl _) _).trans hp4.below; have hown3 := ownsRow_below hown hB3; have hq3 : Below (w.heap.size + 3) wr w3 := hB3.mono hzw; have hz3 : w.heap.size + 3 ≤ w3.heap.size := Nat.le_trans hzw hB3.size) | (at_builtin; refine wpList_push rfl (.tmp 15) (.tmp 23) _ rfl elemCl (w.heap.size + 3) v k us rfl w3 hown3 [.slice ao3 n3 c3] rfl (by simp [Value.oneCell']) rfl _ rfl rfl (by omega) (by unfold maxLen; omega) hz3 ?_; intro v4 w4 hown5 hb5 hoth hlies; obtain ⟨ao4, n4, c4, rfl⟩ := ownsRow_shape hown5; have hq4 : Below (w.heap.size + 3) wr w4 := hq3.trans hb5; have hblk := (hq4.block (w.heap.size + 2) (by omega)).trans HOUT.out; have oo : w4.cell? ⟨w.heap.size + 1 + 1, 0, none⟩ = some v := (by rw [cell_of_row w4 _ 0 _ _ (0, 0) hblk]; rfl); have ff : w4.frozen? ⟨w.heap.size + 1 + 1, 0, none⟩ = false := frozen_of_row w4 _ 0 _ _ hblk; have HBLK := hid hblk; clear hblk; have hz4 : w.heap.size + 3 ≤ w4.heap.size := Nat.le_trans hz3 hb5.size)); rw [contF]; refine ⟨?_, ?_⟩; (next => (first | exact hq4 | (repeat (with_reducible first | exact Below.refl _ _ | assumption | refine Below.drewN _ ?_ | refine Below.drew ?_ | refine Below_alloc ?_ _ | refine Below.alloc ?_ (by first | (simp; done) | (simp; omega) | omega) _ | refine Below.setCell ?_ (by first | (simp; done) | (simp; omega) | omega) _ | refine Below_call ?_ (by assumption) | refine Below.trans ?_ (by assumption))))))
      (rw [wpSteps])
      (rw [wpMixC])
      (rw [wpMix]; simp only [pick, List.drop_succ_cons, List.drop_zero, List.head?_cons, Option.toList_some, List.cons_append, List.nil_append])
      (repeat (first | (go_big_quiet_step (fail)) | (quiet_step (fail))))
      (try refine wpQuiet_nil ?_)
      (rw [wpMix]; simp only [pick, List.drop_succ_cons, List.drop_zero, List.head?_cons, Option.toList_some, List.cons_append, List.nil_append])
      (go_wp2_with (first | (at_builtin; refine wpList_append_list rfl (.tmp 16) (.tmp 21) _ rfl elemCut wr.heap.size (.slice (some ⟨wr.heap.size, 0, none⟩) 0 0) 0 [] rfl HE ao2 cl.length cap2 _ rfl (flat_len _ _ _) (flat_one fun i j _ _ => cutcell_one _ j) HS (by omega) (by unfold maxLen; omega) (by simp) ?_; intro v3 w3 hown4 hp4 _; obtain ⟨ao3, n3, c3, rfl⟩ := ownsRow_shape hown4; have hB3 : Below wr.heap.size wr w3 := ((Below.refl _ _).drew.alloc (Nat.le_refl _) _).trans hp4.below; have hown3 := ownsRow_below hown hB3; have hq3 : Below (w.heap.size + 3) wr w3 := hB3.mono hzw; have hz3 : w.heap.size + 3 ≤ w3.heap.size := Nat.le_trans hzw hB3.size) | (at_builtin; refine wpList_push rfl (.tmp 15) (.tmp 23) _ rfl elemCl (w.heap.size + 3) v k us rfl w3 hown3 [.slice ao3 n3 c3] rfl (by simp [Value.oneCell']) rfl _ rfl rfl (by omega) (by unfold maxLen; omega) hz3 ?_; intro v4 w4 hown5 hb5 hoth hlies; obtain ⟨ao4, n4, c4, rfl⟩ := ownsRow_shape hown5; have hq4 : Below (w.heap.size + 3) wr w4 := hq3.trans hb5; have hblk := (hq4.block (w.heap.size + 2) (by omega)).trans HOUT.out; have oo : w4.cell? ⟨w.heap.size + 1 + 1, 0, none⟩ = some v := (by rw [cell_of_row w4 _ 0 _ _ (0, 0) hblk]; rfl); have ff : w4.frozen? ⟨w.heap.size + 1 + 1, 0, none⟩ = false := frozen_of_row w4 _ 0 _ _ hblk; have HBLK := hid hblk; clear hblk; have hz4 : w.heap.size + 3 ≤ w4.heap.size := Nat.le_trans hz3 hb5.size)); rw [contF])
      (rw [wpMix])
      (refine hQ' _ _ ?_)
      go_wp2_with fail
      go_roundw
      case rel =>
        refine ⟨k + 1, by omega, by go_num, (hbel.trans (hq4.mono (by omega))).setCell (by simp) _, by simpa using hz4, .slice ao4 n4 c4, us ++ [.slice ao3 n3 c3], ?_, ?_, fun i hi => ?_⟩
        · exact heap_setCell_same w4 _ 0 _ _ _ HBLK.out
        · exact ownsRow_setCell_below hown5 (by simp) _
        · have hother : ∀ b, b < wr.heap.size → w3.heap[b]? = wr.heap[b]? := fun b hb => hB3.block b hb
          rcases Nat.lt_or_ge i k with hik | hik
          · have h1 := HRW.out i hik
            have e1 : (us ++ [Value.slice ao3 n3 c3]).getD i undef = us.getD i undef := by
              simp [List.getD, List.getElem?_append_left (show i < us.length by rw [HUK.out]; exact hik)]
            rw [e1]
            refine h1.keep (by have := hb5.size; have := hB3.size; simp; omega) (fun b hb hN => ⟨?_, hN.1, fun e => ?_⟩)
            · have hb3 : b < w3.heap.size := Nat.lt_of_lt_of_le hb hB3.size
              rw [heap_setCell_other _ _ _ _ (by show b ≠ w.heap.size + 1 + 1; have := hN.1; omega), hoth b hb3 (fun e => hN.2 e.symm), hother b hb]
            · rcases hlies b e with e | e
              · exact hN.2 e
              · have := hB3.size; omega
          · have hik : i = k := by omega
            have e1 : (us ++ [Value.slice ao3 n3 c3]).getD i undef = .slice ao3 n3 c3 := by
              rw [hik, ← HUK.out]; simp [List.getD]
            rw [e1, hik, ← HCL.out]
            have hown6 : w3.ownsRow wr.heap.size 108 3 (.slice ao3 n3 c3) cl.length (flat cl.length 3 (fun q j => (cutAt cl q).cell j)) := by simpa using hown4
            refine (ownsRow_in hown6).keep (by have := hb5.size; simp; omega) (fun b hb hN => ⟨?_, by have := hN.1; omega, fun e => ?_⟩)
            · have hv : v.ownBlock ≠ some b := fun e => by have := (hown.lt b e).2; have := hN.1; omega
              rw [heap_setCell_other _ _ _ _ (by show b ≠ w.heap.size + 1 + 1; have := hN.1; omega), hoth b hb (fun e => hv e.symm)]
            · rcases hlies b e with e | e
              · have := (hown.lt b e).2; have := hN.1; omega
              · omega
      case measure => simp [intOf]; omega
    · have hkl : k = cs.length := by omega
      have o0' : wr.cell? ⟨w.heap.size + 1 + 1, 0, none⟩ = some v := o0
      have o1' : wr.cell? ⟨w.heap.size + 1 + 1, 1, none⟩ = some (.int .i64 p) := o1
      have o2' : wr.cell? ⟨w.heap.size + 1 + 1, 2, none⟩ = some (.int .i64 fr) := o2
      have o3' : wr.cell? ⟨w.heap.size + 1 + 1, 3, none⟩ = some (.int .i64 to) := o3
      have q0 : wr.cell? ⟨w.heap.size + 1, 0, none⟩ = some (.slice none 0 0) := by rw [cell_of_row wr _ 0 _ _ (0, 0) HR'.out]; rfl
      have q1 : wr.cell? ⟨w.heap.size + 1, 1, none⟩ = some (.int .i64 0) := by rw [cell_of_row wr _ 1 _ _ (0, 0) HR'.out]; rfl
      have q2 : wr.cell? ⟨w.heap.size + 1, 2, none⟩ = some (.int .i64 0) := by rw [cell_of_row wr _ 2 _ _ (0, 0) HR'.out]; rfl
      have q3 : wr.cell? ⟨w.heap.size + 1, 3, none⟩ = some (.int .i64 0) := by rw [cell_of_row wr _ 3 _ _ (0, 0) HR'.out]; rfl
      have f0 : ∀ j, wr.frozen? ⟨w.heap.size + 1, j, none⟩ = false := fun j => frozen_of_row wr _ j _ _ HR'.out
      have HRW := hid hrows
      have huk : us.length = cs.length := by have := hown.1; omega
      have e2 := flat_us us
      rw [huk] at e2
      rw [e2, hkl] at hown
      have HIN := hid (ownsRow_in hown)
      obtain ⟨ao3, n3, c3, rfl⟩ := ownsRow_shape hown
      have HX : Hid (∀ i, i < cs.length → SlIn wr (us.getD i undef) (clAt cs i).length 3 (fun q j => (cutAt (clAt cs i) q).cell j) (fun b => w.heap.size + 3 ≤ b ∧ (Value.slice ao3 n3 c3).ownBlock ≠ some b)) := hid (fun i hi => hrows i (by omega))
      clear o0 o1 o2 o3 hrows h h3 huk e2 hown
      go_wp2_with fail
      have hkb : ∀ b, w.heap.size + 3 ≤ b → ((((wr.setCell ⟨w.heap.size + 1, 0, none⟩ (.slice ao3 n3 c3)).setCell ⟨w.heap.size + 1, 1, none⟩ (.int .i64 p)).setCell ⟨w.heap.size + 1, 2, none⟩ (.int .i64 fr)).setCell ⟨w.heap.size + 1, 3, none⟩ (.int .i64 to)).heap[b]? = wr.heap[b]? := by
        intro b hb
        have hne : b ≠ w.heap.size + 1 := by omega
        rw [heap_setCell_other _ _ _ _ hne, heap_setCell_other _ _ _ _ hne, heap_setCell_other _ _ _ _ hne, heap_setCell_other _ _ _ _ hne]
      have HK := hid hkb
      clear hkb
      (try simp only [Exit.inBlock, Exit.then])
      refine bodyPost_ret (v := methV (.slice ao3 n3 c3) p fr to) ?_ rfl ?_
      · simp [results, Try.results15, go_sem, methV, q0, q1, q2, q3]
      · refine ⟨_, rfl, ⟨fun i => us.getD i undef, (HIN.out.keep (N' := fun _ => True) (by simp) (fun b hb hN => ⟨HK.out b hN.1, trivial⟩)).sl, fun i hi => ((HX.out i hi).keep (N' := fun _ => True) (by simp) (fun b hb hN => ⟨HK.out b hN.1, trivial⟩)).sl⟩, ?_⟩
        exact (((hB.setCell (by simp) _).setCell (by simp) _).setCell (by simp) _).setCell (by simp) _

end Go.Proofs.Ytllddidjiabegaa
