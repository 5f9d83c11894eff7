/- Copies of methods. -/
import Derived.Test.YtllddidjiabegaaK6
import Derived.Test.YtllddidjiabegaaK1
set_option linter.unusedVariables false
set_option linter.unusedSimpArgs false
namespace Go.Proofs.Ytllddidjiabegaa
open Go.RowKit

/-- a slice whose row lies in a block of a kind. -/
def SlIn (w : World) (v : Value) (n sz : Nat) (c : Nat → Nat → Value) (N : Nat → Prop) : Prop :=
  ∃ ao cap, v = .slice ao n cap ∧ n ≤ cap ∧ cap ≤ maxLen ∧
    (0 < n → ∃ b off, ao = some ⟨b, off, none⟩ ∧ b < w.heap.size ∧ N b ∧ ∀ i j, i < n → j < sz → w.cell? ⟨b, off + i * sz + j, none⟩ = some (c i j)) ∧ (ao = none → cap = 0)
theorem SlIn.sl {w : World} {v : Value} {n sz : Nat} {c : Nat → Nat → Value} {N : Nat → Prop} (h : SlIn w v n sz c N) : SlAt w v n sz c := by
  obtain ⟨ao, cap, rfl, h1, h2, h3, h4⟩ := h
  refine ⟨ao, cap, rfl, h1, h2, fun h0 => ?_, h4⟩
  obtain ⟨b, off, e, hlt, _, hc⟩ := h3 h0
  exact ⟨b, off, e, hlt, hc⟩
theorem cell_of_heap {w w' : World} {b o : Nat} (h : w'.heap[b]? = w.heap[b]?) : w'.cell? ⟨b, o, none⟩ = w.cell? ⟨b, o, none⟩ := by
  simp only [World.cell?, h]
theorem SlIn.keep {w w' : World} {v : Value} {n sz : Nat} {c : Nat → Nat → Value} {N N' : Nat → Prop} (h : SlIn w v n sz c N) (hs : w.heap.size ≤ w'.heap.size) (hk : ∀ b, b < w.heap.size → N b → w'.heap[b]? = w.heap[b]? ∧ N' b) : SlIn w' v n sz c N' := by
  obtain ⟨ao, cap, rfl, h1, h2, h3, h4⟩ := h
  refine ⟨ao, cap, rfl, h1, h2, fun h0 => ?_, h4⟩
  obtain ⟨b, off, e, hlt, hN, hc⟩ := h3 h0
  obtain ⟨h5, h6⟩ := hk b hlt hN
  exact ⟨b, off, e, Nat.lt_of_lt_of_le hlt hs, h6, fun i j hi hj => (cell_of_heap h5).trans (hc i j hi hj)⟩
theorem ownsRow_in {w : World} {base : Nat} {e : TypeId} {v : Value} {n sz : Nat} {c : Nat → Nat → Value} (h : w.ownsRow base e sz v n (flat n sz c)) : SlIn w v n sz c (fun b => base ≤ b ∧ v.ownBlock = some b) := by
  obtain ⟨h1, h2⟩ := h
  rcases h2 with ⟨rfl, h0⟩ | ⟨g, cap, cur, rfl, hb, hg, hn, hm, hs, ht⟩
  · subst h0
    exact ⟨none, 0, rfl, by simp, by simp, fun h => by omega, fun _ => rfl⟩
  · refine ⟨some ⟨g, 0, none⟩, cap, rfl, hn, hm, fun h0 => ⟨g, 0, rfl, (Array.getElem?_eq_some_iff.1 hg).1, ⟨hb, rfl⟩, fun i j hi hj => ?_⟩, fun h => by cases h⟩
    rw [cell_of_row w g _ cur e (0, 0) hg]
    have hq : i * sz + j < n * sz := by
      have : (i + 1) * sz ≤ n * sz := Nat.mul_le_mul_right _ hi
      rw [Nat.add_mul] at this; omega
    have e1 : (cur.toList.take (n * sz))[i * sz + j]? = some (c i j) := by
      rw [ht, flat_get hq]
      rw [Nat.mul_comm i sz, Nat.mul_add_div (by omega), Nat.div_eq_of_lt hj, Nat.mul_add_mod, Nat.mod_eq_of_lt hj, Nat.add_zero]
    rw [List.getElem?_take, if_pos hq] at e1
    simpa using e1
theorem flat_us (us : List Value) : us = flat us.length 1 (fun i _ => us.getD i undef) := by
  apply List.ext_getElem (by simp [flat])
  intro i h1 h2
  simp [flat, List.getD, h1]
theorem ownsRow_one {w : World} {base : Nat} {e : TypeId} {v : Value} {n sz : Nat} {xs : List Value} (h : w.ownsRow base e sz v n xs) : v.oneCell' = true := by
  rcases h.2 with ⟨rfl, h0⟩ | ⟨g, cap, cur, rfl, _⟩ <;> rfl
theorem ownsRow_shape {w : World} {base : Nat} {e : TypeId} {v : Value} {n sz : Nat} {xs : List Value} (h : w.ownsRow base e sz v n xs) : ∃ ao k c, v = .slice ao k c := by
  rcases h.2 with ⟨rfl, h0⟩ | ⟨g, cap, cur, rfl, _⟩
  · exact ⟨_, _, _, rfl⟩
  · exact ⟨_, _, _, rfl⟩
theorem cutcell_one (x : Cut) (j : Nat) : (x.cell j).oneCell' = true := by
  unfold Cut.cell; split <;> rfl
theorem elemCut : Elem Try.prog 105 108 3 24 := Elem.mk (z := .agg #[.int .i64 0, .int .i64 0, .int .i64 0]) Try.underlying105 (by kernel_rfl) rfl (by decide)
theorem elemCl : Elem Try.prog 22 105 1 24 := Elem.mk (z := .slice none 0 0) Try.underlying22 (by kernel_rfl) rfl (by decide)

/-- the rows copied so far. -/
structure CopyM (w : World) (bo base : Nat) (v : Value) (us : List Value) (k : Nat) (cs : List (List Cut)) (p fr to : Int) : Prop where
  out : w.heap[bo]? = some (.cells #[v, .int .i64 p, .int .i64 fr, .int .i64 to] 24 (0, 0))
  own : w.ownsRow base 105 1 v k us
  rows : ∀ i, i < k → SlIn w (us.getD i undef) (clAt cs i).length 3 (fun q j => (cutAt (clAt cs i) q).cell j) (fun b => base ≤ b ∧ v.ownBlock ≠ some b)

set_option maxRecDepth 100000 in
set_option maxHeartbeats 2000000 in
theorem ref_CopyMethod (cs : List (List Cut)) (cv : Value) (p fr to : Int) (w : World) (h : ClausesAt w cv cs) (hs : smallB cs = true) :
    Calls Try.prog 15 #[.agg #[cv, .int .i64 p, .int .i64 fr, .int .i64 to]] w fun e w' => ∃ u, e = .returned (methV u p fr to) ∧ ClausesAt w' u cs ∧ Below w.heap.size w w' := by
  obtain ⟨hn6, HL6⟩ := smallB_ok hs
  have HL := hid HL6
  clear HL6 hs
  obtain ⟨ao, cap, us0, rfl, h1, h2, h3⟩ := h.opn
  unfold maxLen at h2
  go_enter Try.func15, Try.ntmps15
  go_wp2_with fail
  obtain ⟨A, hA⟩ : ∃ A : Obj, A = .cells #[.slice ao cs.length cap, .int .i64 p, .int .i64 fr, .int .i64 to] 24 := ⟨_, rfl⟩
  obtain ⟨B, hB⟩ : ∃ B : Obj, B = .cells #[.slice none 0 0, .int .i64 0, .int .i64 0, .int .i64 0] 24 := ⟨_, rfl⟩
  obtain ⟨C, hC⟩ : ∃ C : Obj, C = .cells #[.slice none 0 0, .int .i64 p, .int .i64 fr, .int .i64 to] 24 := ⟨_, rfl⟩
  rw [← hA, ← hB, ← hC]
  obtain ⟨W0, hW0⟩ : ∃ W0, W0 = ((w.alloc A).alloc B).alloc C := ⟨_, rfl⟩
  have hz0 : W0.heap.size = w.heap.size + 3 := by rw [hW0]; simp
  have HO : Hid (W0.heap[w.heap.size + 2]? = some (.cells #[.slice none 0 0, .int .i64 p, .int .i64 fr, .int .i64 to] 24 (0, 0))) := hid (by
    have := heap_alloc_new ((w.alloc A).alloc B) C
    rw [World.size_alloc, World.size_alloc, ← hW0] at this
    rw [this, hC])
  have HR : Hid (W0.heap[w.heap.size + 1]? = some (.cells #[.slice none 0 0, .int .i64 0, .int .i64 0, .int .i64 0] 24 (0, 0))) := hid (by
    have := heap_alloc_new (w.alloc A) B
    rw [World.size_alloc] at this
    rw [hW0, Below.heap_alloc _ _ _ (by simp), this, hB])
  have r0 : W0.cell? ⟨w.heap.size, 0, none⟩ = some (.slice ao cs.length cap) := by
    have := heap_alloc_new w A
    have e : W0.heap[w.heap.size]? = some A := by rw [hW0, Below.heap_alloc _ _ _ (by simp; omega), Below.heap_alloc _ _ _ (by simp), this]
    rw [hA] at e
    rw [cell_of_row W0 _ 0 _ _ (0, 0) e]; rfl
  have hBW : Below w.heap.size w W0 := by rw [hW0]; (repeat (with_reducible first | exact Below.refl _ _ | assumption | refine Below.drewN _ ?_ | refine Below.drew ?_ | refine Below_alloc ?_ _ | refine Below.alloc ?_ (by first | (simp; done) | (simp; omega) | omega) _ | refine Below.setCell ?_ (by first | (simp; done) | (simp; omega) | omega) _ | refine Below_call ?_ (by assumption) | refine Below.trans ?_ (by assumption)))
  rw [← hW0]
  clear hW0 hA hB hC
  have hz0' : w.heap.size + 3 ≤ W0.heap.size := by omega
  have HZ0 := hid hz0
  clear hz0
  go_loopw [4] (fun i wr => ∃ k : Nat, k ≤ cs.length ∧ i = .int .i64 k ∧ Below (w.heap.size + 2) W0 wr ∧ w.heap.size + 3 ≤ wr.heap.size ∧ ∃ v us, CopyM wr (w.heap.size + 2) (w.heap.size + 3) v us k cs p fr to) (fun i _ => cs.length - (intOf i).toNat)
  case atStart => exact ⟨0, Nat.zero_le _, rfl, Below.refl _ _, hz0', _, [], HO.out, World.ownsRow_nil _ _ _ _, fun i hi => absurd hi (by omega)⟩
  case round =>
    obtain ⟨k, hk, rfl, hbel, hzw, v, us, hout, hown, hrows⟩ := hrel
    have hB : Below w.heap.size w wr := hBW.trans (hbel.mono (by omega))
    have s0 := (hbel.cell (p := ⟨w.heap.size, 0, none⟩) (show w.heap.size < w.heap.size + 2 by omega)).trans r0
    have HR' : Hid (wr.heap[w.heap.size + 1]? = some (.cells #[.slice none 0 0, .int .i64 0, .int .i64 0, .int .i64 0] 24 (0, 0))) := hid ((hbel.block _ (by omega)).trans HR.out)
    have o0 : wr.cell? ⟨w.heap.size + 2, 0, none⟩ = some v := by rw [cell_of_row wr _ 0 _ _ (0, 0) hout]; rfl
    have o1 : wr.cell? ⟨w.heap.size + 2, 1, none⟩ = some (.int .i64 p) := by rw [cell_of_row wr _ 1 _ _ (0, 0) hout]; rfl
    have o2 : wr.cell? ⟨w.heap.size + 2, 2, none⟩ = some (.int .i64 fr) := by rw [cell_of_row wr _ 2 _ _ (0, 0) hout]; rfl
    have o3 : wr.cell? ⟨w.heap.size + 2, 3, none⟩ = some (.int .i64 to) := by rw [cell_of_row wr _ 3 _ _ (0, 0) hout]; rfl
    have HOUT := hid hout
    clear hout
    by_cases hlt : k < cs.length
    · obtain ⟨b, off, rfl, hb, hc⟩ := h3 k hlt
      obtain ⟨c0, hcu⟩ := hc k hlt
      rw [← hB.cell (p := ⟨b, off + k, none⟩) hb] at c0
      replace hcu := hcu.below hB
      have hl6 := HL.out k hlt
      obtain ⟨cl, hcl⟩ : ∃ cl, cl = clAt cs k := ⟨_, rfl⟩
      rw [← hcl] at hcu hl6
      have HCL := hid hcl
      obtain ⟨ao2, cap2, hus, g1, g2, g3⟩ := SlAt.src hcu
      rw [hus] at c0
      have HE : (wr.drew.alloc (.cells #[] 108)).ownsRow wr.heap.size 108 3 (.slice (some ⟨wr.heap.size, 0, none⟩) 0 0) 0 [] := ownsRow_empty wr.drew elemCut
      have HS := g3 (wr.drew.alloc (.cells #[] 108)) (by (repeat (with_reducible first | exact Below.refl _ _ | assumption | refine Below.drewN _ ?_ | refine Below.drew ?_ | refine Below_alloc ?_ _ | refine Below.alloc ?_ (by first | (simp; done) | (simp; omega) | omega) _ | refine Below.setCell ?_ (by first | (simp; done) | (simp; omega) | omega) _ | refine Below_call ?_ (by assumption) | refine Below.trans ?_ (by assumption))))
      have huk : us.length = k := by have := hown.1; omega
      have HUK := hid huk
      have HRW := hid hrows
      have HHZ := hid hzw
      have hbk : b < w.heap.size + 3 := by omega
      clear hc h3 hcl h hcu hus g3 hrows huk
      go_wp2_with fail
      refine wp_mixC (fun wc => Below (w.heap.size + 3) wr wc) 11 [.q [0, 1, 3, 4, 5, 6, 7], .f [2, 8, 9, 10]] [.q [11], .f [12]] (by kernel_rfl) (by kernel_rfl) ((Below.refl _ _).drew) ?_
      intro Q' hQ'
      (rw [wpMixC]; simp only [pick, List.drop_succ_cons, List.drop_zero, List.head?_cons, Option.toList_some, List.cons_append, List.nil_append])
      (repeat (first | go_big_quiet_skip | (go_big_quiet_want; refine quiet_simple rfl ?_; go_big_quiet_op; go_big_quiet_on) | (go_big_quiet_want; refine quiet_cellB (ty := 22) rfl rfl (by kernel_rfl) (by assumption) (by first | omega | (simp; omega)) ?_; simp only [Act.put, List.setIfInBounds_toArray, List.set_cons_succ, List.set_cons_zero]; go_big_quiet_on) | (go_big_quiet_want; refine quiet_cellB (ty := 105) rfl rfl (by kernel_rfl) (by assumption) (by first | omega | (simp; omega)) ?_; simp only [Act.put, List.setIfInBounds_toArray, List.set_cons_succ, List.set_cons_zero]; go_big_quiet_on)))
      (try refine wpQuiet_nil ?_)
      (rw [wpMixC]; simp only [pick, List.drop_succ_cons, List.drop_zero, List.head?_cons, Option.toList_some, List.cons_append, List.nil_append])
      (rw [wpSteps]; go_wp2_with (first | (at_builtin; refine wpList_append_list rfl (.tmp 16) (.tmp 21) _ rfl elemCut wr.heap.size (.slice (some ⟨wr.heap.size, 0, none⟩) 0 0) 0 [] rfl HE ao2 cl.length cap2 _ rfl (flat_len _ _ _) (flat_one fun i j _ _ => cutcell_one _ j) HS (by omega) (by unfold maxLen; omega) (by simp) ?_; intro v3 w3 hown4 hp4 _; obtain ⟨ao3, n3, c3, rfl⟩ := ownsRow_shape hown4; have hB3 : Below wr.heap.size wr w3 := ((Below.refl _ _).drew.alloc (Nat.le_refl _) _).trans hp4.below; have hown3 := ownsRow_below hown hB3; have hq3 : Below (w.heap.size + 3) wr w3 := hB3.mono hzw; have hz3 : w.heap.size + 3 ≤ w3.heap.size := Nat.le_trans hzw hB3.size) | (at_builtin; refine wpList_push rfl (.tmp 15) (.tmp 23) _ rfl elemCl (w.heap.size + 3) v k us rfl w3 hown3 [.slice ao3 n3 c3] rfl (by simp [Value.oneCell']) rfl _ rfl rfl (by omega) (by unfold maxLen; omega) hz3 ?_; intro v4 w4 hown5 hb5 hoth hlies; obtain ⟨ao4, n4, c4, rfl⟩ := ownsRow_shape hown5; have hq4 : Below (w.heap.size + 3) wr w4 := hq3.trans hb5; have hblk := (hq4.block (w.heap.size + 2) (by omega)).trans HOUT.out; have oo : w4.cell? ⟨w.heap.size + 1 + 1, 0, none⟩ = some v := (by rw [cell_of_row w4 _ 0 _ _ (0, 0) hblk]; rfl); have ff : w4.frozen? ⟨w.heap.size + 1 + 1, 0, none⟩ = false := frozen_of_row w4 _ 0 _ _ hblk; have HBLK := hid hblk; clear hblk; have hz4 : w.heap.size + 3 ≤ w4.heap.size := Nat.le_trans hz3 hb5.size)); rw [contF]; refine ⟨?_, ?_⟩; (next => (first | exact hq4 | (repeat (with_reducible first | exact Below.refl _ _ | assumption | refine Below.drewN _ ?_ | refine Below.drew ?_ | refine Below_alloc ?_ _ | refine Below.alloc ?_ (by first | (simp; done) | (simp; omega) | omega) _ | refine Below.setCell ?_ (by first | (simp; done) | (simp; omega) | omega) _ | refine Below_call ?_ (by assumption) | refine Below.trans ?_ (by assumption))))))
      (rw [wpSteps]; go_wp2_with (first | (at_builtin; refine wpList_append_list rfl (.tmp 16) (.tmp 21) _ rfl elemCut wr.heap.size (.slice (some ⟨wr.heap.size, 0, none⟩) 0 0) 0 [] rfl HE ao2 cl.length cap2 _ rfl (flat_len _ _ _) (flat_one fun i j _ _ => cutcell_one _ j) HS (by omega) (by unfold maxLen; omega) (by simp) ?_; intro v3 w3 hown4 hp4 _; obtain ⟨ao3, n3, c3, rfl⟩ := ownsRow_shape hown4; have hB3 : Below wr.heap.size wr w3 := ((Below.refl _ _).drew.alloc (Nat.le_refl _) _).trans hp4.below; have hown3 := ownsRow_below hown hB3; have hq3 : Below (w.heap.size + 3) wr w3 := hB3.mono hzw; have hz3 : w.heap.size + 3 ≤ w3.heap.size := Nat.le_trans hzw hB3.size) | (at_builtin; refine wpList_push rfl (.tmp 15) (.tmp 23) _ rfl elemCl (w.heap.size + 3) v k us rfl w3 hown3 [.slice ao3 n3 c3] rfl (by simp [Value.oneCell']) rfl _ rfl rfl (by omega) (by unfold maxLen; omega) hz3 ?_; intro v4 w4 hown5 hb5 hoth hlies; obtain ⟨ao4, n4, c4, rfl⟩ := ownsRow_shape hown5; have hq4 : Below (w.heap.size + 3) wr w4 := hq3.trans hb5; have hblk := (hq4.block (w.heap.size + 2) (by omega)).trans HOUT.out; have oo : w4.cell? ⟨w.heap.size + 1 + 1, 0, none⟩ = some v := (by rw [cell_of_row w4 _ 0 _ _ (0, 0) hblk]; rfl); have ff : w4.frozen? ⟨w.heap.size + 1 + 1, 0, none⟩ = false := frozen_of_row w4 _ 0 _ _ hblk; have HBLK := hid hblk; clear hblk; have hz4 : w.heap.size + 3 ≤ w4.heap.size := Nat.le_trans hz3 hb5.size)); rw [contF]; refine ⟨?_, ?_⟩; (next => (first | exact hq4 | (repeat (with_reducible first | exact Below.refl _ _ | assumption | refine Below.drewN _ ?_ | refine Below.drew ?_ | refine Below_alloc ?_ _ | refine Below.alloc ?_ (by first | (simp; done) | (simp; omega) | omega) _ | refine Below.setCell ?_ (by first | (simp; done) | (simp; omega) | omega) _ | refine Below_call ?_ (by assumption) | refine Below.trans ?_ (by assumption))))))
      (rw [wpSteps]; go_wp2_with (first | (at_builtin; refine wpList_append_list rfl (.tmp 16) (.tmp 21) _ rfl elemCut wr.heap.size (.slice (some ⟨wr.heap.size, 0, none⟩) 0 0) 0 [] rfl HE ao2 cl.length cap2 _ rfl (flat_len _ _ _) (flat_one fun i j _ _ => cutcell_one _ j) HS (by omega) (by unfold maxLen; omega) (by simp) ?_; intro v3 w3 hown4 hp4 _; obtain ⟨ao3, n3, c3, rfl⟩ := ownsRow_shape hown4; have hB3 : Below wr.heap.size wr w3 := ((Below.refl _ _).drew.alloc (Nat.le_refl _) _).trans hp4.below; have hown3 := ownsRow_below hown hB3; have hq3 : Below (w.heap.size + 3) wr w3 := hB3.mono hzw; have hz3 : w.heap.size + 3 ≤ w3.heap.size := Nat.le_trans hzw hB3.size) | (at_builtin; refine wpList_push rfl (.tmp 15) (.tmp 23) _ rfl elemCl (w.heap.size + 3) v k us rfl w3 hown3 [.slice ao3 n3 c3] rfl (by simp [Value.oneCell']) rfl _ rfl rfl (by omega) (by unfold maxLen; omega) hz3 ?_; intro v4 w4 hown5 hb5 hoth hlies; obtain ⟨ao4, n4, c4, rfl⟩ := ownsRow_shape hown5; have hq4 : Below (w.heap.size + 3) wr w4 := hq3.trans hb5; have hblk := (hq4.block (w.heap.size + 2) (by omega)).trans HOUT.out; have oo : w4.cell? ⟨w.heap.size + 1 + 1, 0, none⟩ = some v := (by rw [cell_of_row w4 _ 0 _ _ (0, 0) hblk]; rfl); have ff : w4.frozen? ⟨w.heap.size + 1 + 1, 0, none⟩ = false := frozen_of_row w4 _ 0 _ _ hblk; have HBLK := hid hblk; clear hblk; have hz4 : w.heap.size + 3 ≤ w4.heap.size := Nat.le_trans hz3 hb5.size)); rw [contF]; refine ⟨?_, ?_⟩; (next => (first | exact hq4 | (repeat (with_reducible first | exact Below.refl _ _ | assumption | refine Below.drewN _ ?_ | refine Below.drew ?_ | refine Below_alloc ?_ _ | refine Below.alloc ?_ (by first | (simp; done) | (simp; omega) | omega) _ | refine Below.setCell ?_ (by first | (simp; done) | (simp; omega) | omega) _ | refine Below_call ?_ (by assumption) | refine Below.trans ?_ (by assumption))))))
      (rw [wpSteps]; go_wp2_with (first | (at_builtin; refine wpList_append_list rfl (.tmp 16) (.tmp 21) _ rfl elemCut wr.heap.size (.slice (some ⟨wr.heap.size, 0, none⟩) 0 0) 0 [] rfl HE ao2 cl.length cap2 _ rfl (flat_len _ _ _) (flat_one fun i j _ _ => cutcell_one _ j) HS (by omega) (by unfold maxLen; omega) (by simp) ?_; intro v3 w3 hown4 hp4 _; obtain ⟨ao3, n3, c3, rfl⟩ := ownsRow_shape hown4; have hB3 : Below wr.heap.size wr w3 := ((Below.refl _ _).drew.alloc (Nat.le_refl _) _).trans hp4.below; have hown3 := ownsRow_below hown hB3; have hq3 : Below (w.heap.size + 3) wr w3 := hB3.mono hzw; have hz3 : w.heap.size + 3 ≤ w3.heap.size := Nat.le_trans hzw hB3.size) | (at_builtin; refine wpList_push rfl (.tmp 15) (.tmp 23) _ rfl elemCl (w.heap.size + 3) v k us rfl w3 hown3 [.slice ao3 n3 c3] rfl (by simp [Value.oneCell']) rfl _ rfl rfl (by omega) (by unfold maxLen; omega) hz3 ?_; intro v4 w4 hown5 hb5 hoth hlies; obtain ⟨ao4, n4, c4, rfl⟩ := ownsRow_shape hown5; have hq4 : Below (w.heap.size + 3) wr w4 := hq3.trans hb5; have hblk := (hq4.block (w.heap.size + 2) (by omega)).trans HOUT.out; have oo : w4.cell? ⟨w.heap.size + 1 + 1, 0, none⟩ = some v := (by rw [cell_of_row w4 _ 0 _ _ (0, 0) hblk]; rfl); have ff : w4.frozen? ⟨w.heap.size + 1 + 1, 0, none⟩ = false := frozen_of_row w4 _ 0 _ _ hblk; have HBLK := hid hblk; clear hblk; have hz4 : w.heap.size + 3 ≤ w4.heap.size := Nat.le_trans hz3 hb5.size)); rw [contF]; refine ⟨?_, ?_⟩; (next => (first | exact hq4 | (repeat (with_reducible first | exact Below.refl _ _ | assumption | refine Below.drewN _ ?_ | refine Below.drew ?_ | refine Below_alloc ?_ _ | refine Below.alloc ?_ (by first | (simp; done) | (simp; omega) | omega) _ | refine Below.setCell ?_ (by first | (simp; done) | (simp; omega) | omega) _ | refine Below_call ?_ (by assumption) | refine Below.trans ?_ (by assumption))))))
      (rw [wpSteps])
      (rw [wpMixC])
      (rw [wpMix]; simp only [pick, List.drop_succ_cons, List.drop_zero, List.head?_cons, Option.toList_some, List.cons_append, List.nil_append])
      (repeat (first | (go_big_quiet_step (fail)) | (quiet_step (fail))))
      (try refine wpQuiet_nil ?_)
      (rw [wpMix]; simp only [pick, List.drop_succ_cons, List.drop_zero, List.head?_cons, Option.toList_some, List.cons_append, List.nil_append])
      (go_wp2_with (first | (at_builtin; refine wpList_append_list rfl (.tmp 16) (.tmp 21) _ rfl elemCut wr.heap.size (.slice (some ⟨wr.heap.size, 0, none⟩) 0 0) 0 [] rfl HE ao2 cl.length cap2 _ rfl (flat_len _ _ _) (flat_one fun i j _ _ => cutcell_one _ j) HS (by omega) (by unfold maxLen; omega) (by simp) ?_; intro v3 w3 hown4 hp4 _; obtain ⟨ao3, n3, c3, rfl⟩ := ownsRow_shape hown4; have hB3 : Below wr.heap.size wr w3 := ((Below.refl _ _).drew.alloc (Nat.le_refl _) _).trans hp4.below; have hown3 := ownsRow_below hown hB3; have hq3 : Below (w.heap.size + 3) wr w3 := hB3.mono hzw; have hz3 : w.heap.size + 3 ≤ w3.heap.size := Nat.le_trans hzw hB3.size) | (at_builtin; refine wpList_push rfl (.tmp 15) (.tmp 23) _ rfl elemCl (w.heap.size + 3) v k us rfl w3 hown3 [.slice ao3 n3 c3] rfl (by simp [Value.oneCell']) rfl _ rfl rfl (by omega) (by unfold maxLen; omega) hz3 ?_; intro v4 w4 hown5 hb5 hoth hlies; obtain ⟨ao4, n4, c4, rfl⟩ := ownsRow_shape hown5; have hq4 : Below (w.heap.size + 3) wr w4 := hq3.trans hb5; have hblk := (hq4.block (w.heap.size + 2) (by omega)).trans HOUT.out; have oo : w4.cell? ⟨w.heap.size + 1 + 1, 0, none⟩ = some v := (by rw [cell_of_row w4 _ 0 _ _ (0, 0) hblk]; rfl); have ff : w4.frozen? ⟨w.heap.size + 1 + 1, 0, none⟩ = false := frozen_of_row w4 _ 0 _ _ hblk; have HBLK := hid hblk; clear hblk; have hz4 : w.heap.size + 3 ≤ w4.heap.size := Nat.le_trans hz3 hb5.size)); rw [contF])
      (rw [wpMix])
      (refine hQ' _ _ ?_)
      go_wp2_with fail
      go_roundw
      case rel =>
        refine ⟨k + 1, by omega, by go_num, (hbel.trans (hq4.mono (by omega))).setCell (by simp) _, by simpa using hz4, .slice ao4 n4 c4, us ++ [.slice ao3 n3 c3], ?_, ?_, fun i hi => ?_⟩
        · exact heap_setCell_same w4 _ 0 _ _ _ HBLK.out
        · exact ownsRow_setCell_below hown5 (by simp) _
        · have hother : ∀ b, b < wr.heap.size → w3.heap[b]? = wr.heap[b]? := fun b hb => hB3.block b hb
          rcases Nat.lt_or_ge i k with hik | hik
          · have h1 := HRW.out i hik
            have e1 : (us ++ [Value.slice ao3 n3 c3]).getD i undef = us.getD i undef := by
              simp [List.getD, List.getElem?_append_left (show i < us.length by rw [HUK.out]; exact hik)]
            rw [e1]
            refine h1.keep (by have := hb5.size; have := hB3.size; simp; omega) (fun b hb hN => ⟨?_, hN.1, fun e => ?_⟩)
            · have hb3 : b < w3.heap.size := Nat.lt_of_lt_of_le hb hB3.size
              rw [heap_setCell_other _ _ _ _ (by show b ≠ w.heap.size + 1 + 1; have := hN.1; omega), hoth b hb3 (fun e => hN.2 e.symm), hother b hb]
            · rcases hlies b e with e | e
              · exact hN.2 e
              · have := hB3.size; omega
          · have hik : i = k := by omega
            have e1 : (us ++ [Value.slice ao3 n3 c3]).getD i undef = .slice ao3 n3 c3 := by
              rw [hik, ← HUK.out]; simp [List.getD]
            rw [e1, hik, ← HCL.out]
            have hown6 : w3.ownsRow wr.heap.size 108 3 (.slice ao3 n3 c3) cl.length (flat cl.length 3 (fun q j => (cutAt cl q).cell j)) := by simpa using hown4
            refine (ownsRow_in hown6).keep (by have := hb5.size; simp; omega) (fun b hb hN => ⟨?_, by have := hN.1; omega, fun e => ?_⟩)
            · have hv : v.ownBlock ≠ some b := fun e => by have := (hown.lt b e).2; have := hN.1; omega
              rw [heap_setCell_other _ _ _ _ (by show b ≠ w.heap.size + 1 + 1; have := hN.1; omega), hoth b hb (fun e => hv e.symm)]
            · rcases hlies b e with e | e
              · have := (hown.lt b e).2; have := hN.1; omega
              · omega
      case measure => simp [intOf]; omega
    · have hkl : k = cs.length := by omega
      have o0' : wr.cell? ⟨w.heap.size + 1 + 1, 0, none⟩ = some v := o0
      have o1' : wr.cell? ⟨w.heap.size + 1 + 1, 1, none⟩ = some (.int .i64 p) := o1
      have o2' : wr.cell? ⟨w.heap.size + 1 + 1, 2, none⟩ = some (.int .i64 fr) := o2
      have o3' : wr.cell? ⟨w.heap.size + 1 + 1, 3, none⟩ = some (.int .i64 to) := o3
      have q0 : wr.cell? ⟨w.heap.size + 1, 0, none⟩ = some (.slice none 0 0) := by rw [cell_of_row wr _ 0 _ _ (0, 0) HR'.out]; rfl
      have q1 : wr.cell? ⟨w.heap.size + 1, 1, none⟩ = some (.int .i64 0) := by rw [cell_of_row wr _ 1 _ _ (0, 0) HR'.out]; rfl
      have q2 : wr.cell? ⟨w.heap.size + 1, 2, none⟩ = some (.int .i64 0) := by rw [cell_of_row wr _ 2 _ _ (0, 0) HR'.out]; rfl
      have q3 : wr.cell? ⟨w.heap.size + 1, 3, none⟩ = some (.int .i64 0) := by rw [cell_of_row wr _ 3 _ _ (0, 0) HR'.out]; rfl
      have f0 : ∀ j, wr.frozen? ⟨w.heap.size + 1, j, none⟩ = false := fun j => frozen_of_row wr _ j _ _ HR'.out
      have HRW := hid hrows
      have huk : us.length = cs.length := by have := hown.1; omega
      have e2 := flat_us us
      rw [huk] at e2
      rw [e2, hkl] at hown
      have HIN := hid (ownsRow_in hown)
      obtain ⟨ao3, n3, c3, rfl⟩ := ownsRow_shape hown
      have HX : Hid (∀ i, i < cs.length → SlIn wr (us.getD i undef) (clAt cs i).length 3 (fun q j => (cutAt (clAt cs i) q).cell j) (fun b => w.heap.size + 3 ≤ b ∧ (Value.slice ao3 n3 c3).ownBlock ≠ some b)) := hid (fun i hi => hrows i (by omega))
      clear o0 o1 o2 o3 hrows h h3 huk e2 hown
      go_wp2_with fail
      have hkb : ∀ b, w.heap.size + 3 ≤ b → ((((wr.setCell ⟨w.heap.size + 1, 0, none⟩ (.slice ao3 n3 c3)).setCell ⟨w.heap.size + 1, 1, none⟩ (.int .i64 p)).setCell ⟨w.heap.size + 1, 2, none⟩ (.int .i64 fr)).setCell ⟨w.heap.size + 1, 3, none⟩ (.int .i64 to)).heap[b]? = wr.heap[b]? := by
        intro b hb
        have hne : b ≠ w.heap.size + 1 := by omega
        rw [heap_setCell_other _ _ _ _ hne, heap_setCell_other _ _ _ _ hne, heap_setCell_other _ _ _ _ hne, heap_setCell_other _ _ _ _ hne]
      have HK := hid hkb
      clear hkb
      (try simp only [Exit.inBlock, Exit.then])
      refine bodyPost_ret (v := methV (.slice ao3 n3 c3) p fr to) ?_ rfl ?_
      · simp [results, Try.results15, go_sem, methV, q0, q1, q2, q3]
      · refine ⟨_, rfl, ⟨fun i => us.getD i undef, (HIN.out.keep (N' := fun _ => True) (by simp) (fun b hb hN => ⟨HK.out b hN.1, trivial⟩)).sl, fun i hi => ((HX.out i hi).keep (N' := fun _ => True) (by simp) (fun b hb hN => ⟨HK.out b hN.1, trivial⟩)).sl⟩, ?_⟩
        exact (((hB.setCell (by simp) _).setCell (by simp) _).setCell (by simp) _).setCell (by simp) _

end Go.Proofs.Ytllddidjiabegaa

/- The chain of seat 9 under the wide numbers. -/

/- Wide numbers: a value that is one; digits trimmed, compared, read. -/
set_option linter.unusedVariables false
set_option linter.unusedSimpArgs false
namespace Go.Proofs.Ytllddidjiabegaa
open Go.RowKit

/-- a slice of ints that lies in a block of a kind. -/
def DigIn (w : World) (v : Value) (l : List Int) (N : Nat → Prop) : Prop := SlIn w v l.length 1 (fun i _ => .int .i64 (nth l i)) N
theorem DigIn.ints {w : World} {v : Value} {l : List Int} {N : Nat → Prop} (h : DigIn w v l N) : IntsAt w v l := SlIn.sl h
theorem DigIn.keep {w w' : World} {v : Value} {l : List Int} {N N' : Nat → Prop} (h : DigIn w v l N) (hs : w.heap.size ≤ w'.heap.size) (hk : ∀ b, b < w.heap.size → N b → w'.heap[b]? = w.heap[b]? ∧ N' b) : DigIn w' v l N' := SlIn.keep h hs hk
theorem DigIn.mono {w w' : World} {v : Value} {l : List Int} {N N' : Nat → Prop} (h : DigIn w v l N) (hb : Below w.heap.size w w') (hk : ∀ b, b < w.heap.size → N b → N' b) : DigIn w' v l N' :=
  DigIn.keep h hb.size fun b hlt hN => ⟨hb.block b hlt, hk b hlt hN⟩
theorem IntsAt.dig {w : World} {v : Value} {l : List Int} (h : IntsAt w v l) : DigIn w v l (fun b => b < w.heap.size) := by
  obtain ⟨ao, cap, rfl, h1, h2, h3, h4⟩ := h
  exact ⟨ao, cap, rfl, h1, h2, fun h0 => by obtain ⟨b, off, e, hlt, hc⟩ := h3 h0; exact ⟨b, off, e, hlt, hlt, hc⟩, h4⟩
theorem ownsRow_dig {w : World} {base : Nat} {e : TypeId} {v : Value} {l : List Int} (h : w.ownsRow base e 1 v l.length (l.map (Value.int .i64))) : DigIn w v l (fun b => base ≤ b) := by
  have h1 := ownsRow_in (c := fun i _ => .int .i64 (nth l i)) (by rw [flat_ints]; exact h)
  exact SlIn.keep h1 (Nat.le_refl _) (fun b _ hN => ⟨rfl, hN.1⟩)
/-- a value is a wide number, in blocks of a kind. -/
def WideAt (w : World) (v : Value) (z : Int) (N : Nat → Prop) : Prop := ∃ ao cap, v = .agg #[.int .i64 (sg z), .slice ao (dig z.natAbs).length cap] ∧ DigIn w (.slice ao (dig z.natAbs).length cap) (dig z.natAbs) N
theorem WideAt.keep {w w' : World} {v : Value} {z : Int} {N N' : Nat → Prop} (h : WideAt w v z N) (hs : w.heap.size ≤ w'.heap.size) (hk : ∀ b, b < w.heap.size → N b → w'.heap[b]? = w.heap[b]? ∧ N' b) : WideAt w' v z N' := by
  obtain ⟨ao, cap, rfl, h1⟩ := h
  exact ⟨ao, cap, rfl, h1.keep hs hk⟩
theorem WideAt.mono {w w' : World} {v : Value} {z : Int} {N N' : Nat → Prop} (h : WideAt w v z N) (hb : Below w.heap.size w w') (hk : ∀ b, b < w.heap.size → N b → N' b) : WideAt w' v z N' :=
  WideAt.keep h hb.size fun b hlt hN => ⟨hb.block b hlt, hk b hlt hN⟩
/-- the call returns a wide number in blocks of a kind, and leaves old memory alone. -/
def RetWide (w : World) (z : Int) (N : Nat → Prop) (e : Ending) (w' : World) : Prop := ∃ v, e = .returned v ∧ WideAt w' v z N ∧ Below w.heap.size w w'

theorem IntsAt.prefix {w : World} {ao : Option Addr} {l : List Int} {cap n : Nat} (h : IntsAt w (.slice ao l.length cap) l) (hn : n ≤ l.length) : IntsAt w (.slice ao n cap) (l.take n) := by
  obtain ⟨ao', cap', e, h1, h2, h3, h4⟩ := h
  cases e
  refine ⟨ao, cap, by rw [List.length_take, Nat.min_eq_left hn], by rw [List.length_take, Nat.min_eq_left hn]; omega, h2, fun h0 => ?_, h4⟩
  rw [List.length_take, Nat.min_eq_left hn] at h0 ⊢
  obtain ⟨b, off, e, hlt, hc⟩ := h3 (by omega)
  refine ⟨b, off, e, hlt, fun i j hi hj => ?_⟩
  rw [hc i j (by omega) hj]
  simp [List.getD_eq_getElem?_getD, List.getElem?_take, hi]

theorem trim_ex (l : List Int) : ∃ n, n ≤ l.length ∧ (∀ j, n ≤ j → nth l j = 0) ∧ (n = 0 ∨ nth l (n - 1) ≠ 0) := by
  have key : ∀ n, n ≤ l.length → (∀ j, n ≤ j → nth l j = 0) → ∃ n, n ≤ l.length ∧ (∀ j, n ≤ j → nth l j = 0) ∧ (n = 0 ∨ nth l (n - 1) ≠ 0) := by
    intro n
    induction n with
    | zero => intro h1 h2; exact ⟨0, h1, h2, Or.inl rfl⟩
    | succ n ih =>
      intro h1 h2
      by_cases h : nth l n = 0
      · refine ih (by omega) (fun j hj => ?_)
        rcases Nat.lt_or_ge n j with h3 | h3
        · exact h2 j h3
        · rw [show j = n from by omega]; exact h
      · exact ⟨n + 1, h1, h2, Or.inr h⟩
  exact key l.length (Nat.le_refl _) (fun j hj => dnth_ge hj)
/-- the digits of what digits mean. -/
def tri (l : List Int) : List Int := dig (dval l).toNat
theorem tri_take {l : List Int} (hd : isD l) : l.take (tri l).length = tri l ∧ (tri l).length ≤ l.length := by
  obtain ⟨n, h1, h2, h3⟩ := trim_ex l
  have h4 := trim_eq hd h1 h2 h3
  have h5 := congrArg List.length h4
  rw [List.length_take, Nat.min_eq_left h1] at h5
  unfold tri
  rw [← h5]
  exact ⟨h4, h1⟩
theorem tri_at {w : World} {ao : Option Addr} {l : List Int} {cap : Nat} (h : IntsAt w (.slice ao l.length cap) l) (hd : isD l) : IntsAt w (.slice ao (tri l).length cap) (tri l) := by
  obtain ⟨h1, h2⟩ := tri_take hd
  have := h.prefix h2
  rwa [h1] at this
theorem DigIn.trim {w : World} {ao : Option Addr} {l : List Int} {cap : Nat} {N : Nat → Prop} (h : DigIn w (.slice ao l.length cap) l N) (hd : isD l) : DigIn w (.slice ao (tri l).length cap) (tri l) N := by
  obtain ⟨e1, e2⟩ := tri_take hd
  obtain ⟨ao', cap', e, h1, h2, h3, h4⟩ := h
  cases e
  refine ⟨ao, cap, rfl, by omega, h2, fun h0 => ?_, h4⟩
  obtain ⟨b, off, e, hlt, hN, hc⟩ := h3 (by omega)
  refine ⟨b, off, e, hlt, hN, fun i j hi hj => ?_⟩
  rw [hc i j (by omega) hj]
  have : nth l i = nth (tri l) i := by
    rw [← e1]; simp [nth, List.getD_eq_getElem?_getD, List.getElem?_take, hi]
  simp only [this]

set_option maxRecDepth 100000 in
set_option maxHeartbeats 1000000 in
theorem base_trimmed (l : List Int) (ao : Option Addr) (cap : Nat) (w : World) (h : IntsAt w (.slice ao l.length cap) l) (hd : isD l) :
    Calls Try.prog 150 #[.slice ao l.length cap] w fun e w' => e = .returned (.slice ao (tri l).length cap) ∧ w = w' := by
  obtain ⟨ao', cap', e, h1, h2, h3⟩ := h.opn
  cases e
  unfold maxLen at h2
  clear h
  go_enter Try.func150, Try.ntmps150
  go_wp2_with fail
  go_loop [3] (fun i => ∃ n : Nat, n ≤ l.length ∧ i = .int .i64 n ∧ Hid (∀ j, n ≤ j → nth l j = 0)) (fun i => (intOf i).toNat)
  case atStart => exact ⟨l.length, Nat.le_refl _, rfl, hid (fun j hj => dnth_ge hj)⟩
  case round =>
    obtain ⟨n, hn, rfl, HZ⟩ := hrel
    by_cases h0 : n = 0
    · subst h0
      have HE : Hid ((tri l).length = 0) := hid (by unfold tri; rw [← trim_eq hd (Nat.zero_le _) HZ.out (Or.inl rfl)]; rfl)
      go_wp2_with fail
      go_ret
      exact ⟨by rw [HE.out]; rfl, rfl⟩
    · obtain ⟨m, rfl⟩ : ∃ m, n = m + 1 := ⟨n - 1, by omega⟩
      obtain ⟨b, off, rfl, hb, hc⟩ := h3 m (by omega)
      have c0 := hc m (by omega)
      obtain ⟨d, hdd⟩ : ∃ d, d = nth l m := ⟨_, rfl⟩
      rw [← hdd] at c0
      have HD := hid hdd
      clear hc h3 hdd
      have hpos : (0 : Int) < ((m + 1 : Nat) : Int) := by omega
      by_cases hz : d = 0
      · subst hz
        go_wp2_with fail
        go_round
        case rel =>
          refine ⟨m, by omega, by go_num, hid (fun j hj => ?_)⟩
          rcases Nat.lt_or_ge m j with h | h
          · exact HZ.out j h
          · rw [show j = m from by omega]; exact HD.out.symm
        case measure => simp [intOf]
      · have HE : Hid ((tri l).length = m + 1) := hid (by
          unfold tri
          rw [← trim_eq hd hn HZ.out (Or.inr (by rw [Nat.add_sub_cancel, ← HD.out]; exact hz)), List.length_take]; omega)
        go_wp2_with fail
        go_ret
        exact ⟨by rw [HE.out]; rfl, rfl⟩

set_option maxRecDepth 100000 in
set_option maxHeartbeats 1000000 in
theorem base_digit (l : List Int) (v : Value) (w : World) (h : IntsAt w v l) (i : Nat) (hi : i ≤ 9000000000000000000) :
    Calls Try.prog 152 #[v, .int .i64 i] w fun e w' => e = .returned (.int .i64 (nth l i)) ∧ w = w' := by
  obtain ⟨ao, cap, rfl, h1, h2, h3⟩ := h.opn
  unfold maxLen at h2
  by_cases hlt : i < l.length
  · obtain ⟨b, off, rfl, hb, hc⟩ := h3 i hlt
    have c0 := hc i hlt
    obtain ⟨d, hd⟩ : ∃ d, d = nth l i := ⟨_, rfl⟩
    rw [← hd] at c0 ⊢
    clear hc h3 h hd
    go_enter Try.func152, Try.ntmps152
    go_wp2_with fail
    go_ret
    exact ⟨rfl, rfl⟩
  · have HE := hid (dnth_ge (l := l) (i := i) (by omega))
    clear h3 h
    go_enter Try.func152, Try.ntmps152
    go_wp2_with fail
    go_ret
    exact ⟨by rw [HE.out]; rfl, rfl⟩

def cmpN (a b : Nat) : Int := if a < b then -1 else if a = b then 0 else 1

set_option maxRecDepth 100000 in
set_option maxHeartbeats 1000000 in
theorem base_cmpDigits (a b : Nat) (u v : Value) (w : World) (h : IntsAt w u (dig a)) (g : IntsAt w v (dig b)) :
    Calls Try.prog 139 #[u, v] w fun e w' => e = .returned (.int .i64 (cmpN a b)) ∧ Below w.heap.size w w' := by
  obtain ⟨ao, cap, rfl, h1, h2, h3⟩ := h.opn
  obtain ⟨bo, cap2, rfl, g1, g2, g3⟩ := g.opn
  obtain ⟨la, hla⟩ : ∃ la, la = dig a := ⟨_, rfl⟩
  obtain ⟨lb, hlb⟩ : ∃ lb, lb = dig b := ⟨_, rfl⟩
  rw [← hla] at h1 h3 ⊢
  rw [← hlb] at g1 g3 ⊢
  have HA := hid hla
  have HB := hid hlb
  unfold maxLen at h2 g2
  clear h g hla hlb
  by_cases hl : la.length = lb.length
  · have HL := hid hl
    go_enter Try.func139, Try.ntmps139
    go_wp2_with fail
    go_loopw [5] (fun i wr => ∃ n : Nat, n ≤ la.length ∧ i = .int .i64 ((n : Int) - 1) ∧ Hid (∀ j, n ≤ j → nth la j = nth lb j) ∧ Below w.heap.size w wr) (fun i _ => (intOf i + 1).toNat)
    case atStart => exact ⟨la.length, Nat.le_refl _, by go_num, hid (fun j hj => by rw [dnth_ge hj, dnth_ge (by omega)]), Below.refl _ _⟩
    case round =>
      obtain ⟨n, hn, rfl, HZ, hbel⟩ := hrel
      by_cases h0 : n = 0
      · subst h0
        have HE : Hid (cmpN a b = 0) := hid (by
          have : la = lb := list_nth_eq HL.out (fun i => HZ.out i (Nat.zero_le _))
          rw [HA.out, HB.out] at this
          have := congrArg dval this
          rw [dval_dig, dval_dig] at this
          unfold cmpN; rw [if_neg (by omega), if_pos (by omega)])
        go_wp2_with fail
        go_ret
        exact ⟨by rw [HE.out]; rfl, by (repeat (with_reducible first | exact Below.refl _ _ | assumption | refine Below.drewN _ ?_ | refine Below.drew ?_ | refine Below_alloc ?_ _ | refine Below.alloc ?_ (by first | (simp; done) | (simp; omega) | omega) _ | refine Below.setCell ?_ (by first | (simp; done) | (simp; omega) | omega) _ | refine Below_call ?_ (by assumption) | refine Below.trans ?_ (by assumption)))⟩
      · obtain ⟨m, rfl⟩ : ∃ m, n = m + 1 := ⟨n - 1, by omega⟩
        obtain ⟨b1, off1, rfl, hb1, hc1⟩ := h3 m (by omega)
        obtain ⟨b2, off2, rfl, hb2, hc2⟩ := g3 m (by omega)
        have c1 := (hbel.cell (p := ⟨b1, off1 + m, none⟩) hb1).trans (hc1 m (by omega))
        have c2 := (hbel.cell (p := ⟨b2, off2 + m, none⟩) hb2).trans (hc2 m (by omega))
        have hzw := hbel.size
        have hbw1 : b1 < wr.heap.size := by omega
        have hbw2 : b2 < wr.heap.size := by omega
        obtain ⟨d, hd⟩ : ∃ d, d = nth la m := ⟨_, rfl⟩
        obtain ⟨e, he⟩ : ∃ e, e = nth lb m := ⟨_, rfl⟩
        rw [← hd] at c1
        rw [← he] at c2
        have HD := hid hd
        have HEE := hid he
        clear hc1 hc2 h3 g3 hd he
        rw [show ((m + 1 : Nat) : Int) - 1 = m from by omega]
        have HS : Hid (∀ j, m < j → nth la j = nth lb j) := hid (fun j hj => HZ.out j hj)
        rcases Int.lt_trichotomy d e with hlt | heq | hgt
        · have HE : Hid (cmpN a b = -1) := hid (by
            have := dval_cmp (by rw [HA.out]; exact isD_dig a) (by rw [HB.out]; exact isD_dig b) HL.out (show m < la.length by omega) HS.out (by rw [← HD.out, ← HEE.out]; exact hlt)
            rw [HA.out, HB.out, dval_dig, dval_dig] at this
            unfold cmpN; rw [if_pos (by omega)])
          go_wp2_with fail
          refine wp_mixC (fun wc => Below (w.heap.size) wr wc) 9 [.q [0, 1, 2, 3, 4, 5, 6, 7, 8]] [] (by kernel_rfl) (by kernel_rfl) ((Below.refl _ _).drew) ?_
          intro Q' hQ'
          (rw [wpMixC]; simp only [pick, List.drop_succ_cons, List.drop_zero, List.head?_cons, Option.toList_some, List.cons_append, List.nil_append])
          (repeat (first | go_big_quiet_skip | (go_big_quiet_want; refine quiet_simple rfl ?_; go_big_quiet_op; go_big_quiet_on) | (go_big_quiet_want; refine quiet_cellB (ty := 3) rfl rfl (by kernel_rfl) (by assumption) (by first | omega | (simp; omega)) ?_; simp only [Act.put, List.setIfInBounds_toArray, List.set_cons_succ, List.set_cons_zero]; go_big_quiet_on)))
          (try refine wpQuiet_nil ?_)
          (rw [wpMixC])
          (rw [wpMix])
          (refine hQ' _ _ ?_)
          go_wp2_with fail
          go_ret
          exact ⟨by rw [HE.out]; rfl, by (repeat (with_reducible first | exact Below.refl _ _ | assumption | refine Below.drewN _ ?_ | refine Below.drew ?_ | refine Below_alloc ?_ _ | refine Below.alloc ?_ (by first | (simp; done) | (simp; omega) | omega) _ | refine Below.setCell ?_ (by first | (simp; done) | (simp; omega) | omega) _ | refine Below_call ?_ (by assumption) | refine Below.trans ?_ (by assumption)))⟩
        · subst heq
          go_wp2_with fail
          refine wp_mixC (fun wc => Below (w.heap.size) wr wc) 9 [.q [0, 1, 2, 3, 4, 5, 6, 7, 8]] [] (by kernel_rfl) (by kernel_rfl) ((Below.refl _ _).drew) ?_
          intro Q' hQ'
          (rw [wpMixC]; simp only [pick, List.drop_succ_cons, List.drop_zero, List.head?_cons, Option.toList_some, List.cons_append, List.nil_append])
          (repeat (first | go_big_quiet_skip | (go_big_quiet_want; refine quiet_simple rfl ?_; go_big_quiet_op; go_big_quiet_on) | (go_big_quiet_want; refine quiet_cellB (ty := 3) rfl rfl (by kernel_rfl) (by assumption) (by first | omega | (simp; omega)) ?_; simp only [Act.put, List.setIfInBounds_toArray, List.set_cons_succ, List.set_cons_zero]; go_big_quiet_on)))
          (try refine wpQuiet_nil ?_)
          (rw [wpMixC])
          (rw [wpMix])
          (refine hQ' _ _ ?_)
          go_wp2_with fail
          have c1' : wr.drew.cell? ⟨b1, off1 + m, none⟩ = _ := c1
          have c2' : wr.drew.cell? ⟨b2, off2 + m, none⟩ = _ := c2
          refine wp_mixC (fun wc => Below (w.heap.size) wr.drew wc) 9 [.q [0, 1, 2, 3, 4, 5, 6, 7, 8]] [] (by kernel_rfl) (by kernel_rfl) ((Below.refl _ _).drew) ?_
          intro Q' hQ'
          (rw [wpMixC]; simp only [pick, List.drop_succ_cons, List.drop_zero, List.head?_cons, Option.toList_some, List.cons_append, List.nil_append])
          (repeat (first | go_big_quiet_skip | (go_big_quiet_want; refine quiet_simple rfl ?_; go_big_quiet_op; go_big_quiet_on) | (go_big_quiet_want; refine quiet_cellB (ty := 3) rfl rfl (by kernel_rfl) (by assumption) (by first | omega | (simp; omega)) ?_; simp only [Act.put, List.setIfInBounds_toArray, List.set_cons_succ, List.set_cons_zero]; go_big_quiet_on)))
          (try refine wpQuiet_nil ?_)
          (rw [wpMixC])
          (rw [wpMix])
          (refine hQ' _ _ ?_)
          go_wp2_with fail
          go_roundw
          case rel =>
            refine ⟨m, by omega, by go_num, hid (fun j hj => ?_), by (repeat (with_reducible first | exact Below.refl _ _ | assumption | refine Below.drewN _ ?_ | refine Below.drew ?_ | refine Below_alloc ?_ _ | refine Below.alloc ?_ (by first | (simp; done) | (simp; omega) | omega) _ | refine Below.setCell ?_ (by first | (simp; done) | (simp; omega) | omega) _ | refine Below_call ?_ (by assumption) | refine Below.trans ?_ (by assumption)))⟩
            rcases Nat.lt_or_ge m j with h | h
            · exact HZ.out j h
            · rw [show j = m from by omega, ← HD.out, ← HEE.out]
          case measure => simp [intOf]
        · have HE : Hid (cmpN a b = 1) := hid (by
            have := dval_cmp (by rw [HB.out]; exact isD_dig b) (by rw [HA.out]; exact isD_dig a) HL.out.symm (show m < lb.length by omega) (fun j hj => (HS.out j hj).symm) (by rw [← HD.out, ← HEE.out]; exact hgt)
            rw [HA.out, HB.out, dval_dig, dval_dig] at this
            unfold cmpN; rw [if_neg (by omega), if_neg (by omega)])
          go_wp2_with fail
          refine wp_mixC (fun wc => Below (w.heap.size) wr wc) 9 [.q [0, 1, 2, 3, 4, 5, 6, 7, 8]] [] (by kernel_rfl) (by kernel_rfl) ((Below.refl _ _).drew) ?_
          intro Q' hQ'
          (rw [wpMixC]; simp only [pick, List.drop_succ_cons, List.drop_zero, List.head?_cons, Option.toList_some, List.cons_append, List.nil_append])
          (repeat (first | go_big_quiet_skip | (go_big_quiet_want; refine quiet_simple rfl ?_; go_big_quiet_op; go_big_quiet_on) | (go_big_quiet_want; refine quiet_cellB (ty := 3) rfl rfl (by kernel_rfl) (by assumption) (by first | omega | (simp; omega)) ?_; simp only [Act.put, List.setIfInBounds_toArray, List.set_cons_succ, List.set_cons_zero]; go_big_quiet_on)))
          (try refine wpQuiet_nil ?_)
          (rw [wpMixC])
          (rw [wpMix])
          (refine hQ' _ _ ?_)
          go_wp2_with fail
          have c1' : wr.drew.cell? ⟨b1, off1 + m, none⟩ = _ := c1
          have c2' : wr.drew.cell? ⟨b2, off2 + m, none⟩ = _ := c2
          refine wp_mixC (fun wc => Below (w.heap.size) wr.drew wc) 9 [.q [0, 1, 2, 3, 4, 5, 6, 7, 8]] [] (by kernel_rfl) (by kernel_rfl) ((Below.refl _ _).drew) ?_
          intro Q' hQ'
          (rw [wpMixC]; simp only [pick, List.drop_succ_cons, List.drop_zero, List.head?_cons, Option.toList_some, List.cons_append, List.nil_append])
          (repeat (first | go_big_quiet_skip | (go_big_quiet_want; refine quiet_simple rfl ?_; go_big_quiet_op; go_big_quiet_on) | (go_big_quiet_want; refine quiet_cellB (ty := 3) rfl rfl (by kernel_rfl) (by assumption) (by first | omega | (simp; omega)) ?_; simp only [Act.put, List.setIfInBounds_toArray, List.set_cons_succ, List.set_cons_zero]; go_big_quiet_on)))
          (try refine wpQuiet_nil ?_)
          (rw [wpMixC])
          (rw [wpMix])
          (refine hQ' _ _ ?_)
          go_wp2_with fail
          go_ret
          exact ⟨by rw [HE.out]; rfl, by (repeat (with_reducible first | exact Below.refl _ _ | assumption | refine Below.drewN _ ?_ | refine Below.drew ?_ | refine Below_alloc ?_ _ | refine Below.alloc ?_ (by first | (simp; done) | (simp; omega) | omega) _ | refine Below.setCell ?_ (by first | (simp; done) | (simp; omega) | omega) _ | refine Below_call ?_ (by assumption) | refine Below.trans ?_ (by assumption)))⟩
  · have HL : Hid ((la.length < lb.length → cmpN a b = -1) ∧ (lb.length < la.length → cmpN a b = 1)) := hid (by
      rw [HA.out, HB.out]
      refine ⟨fun h => ?_, fun h => ?_⟩
      · have := dig_len_lt h; unfold cmpN; rw [if_pos this]
      · have := dig_len_lt h; unfold cmpN; rw [if_neg (by omega), if_neg (by omega)])
    by_cases hlt : la.length < lb.length
    · go_enter Try.func139, Try.ntmps139
      go_wp2_with fail
      go_ret
      exact ⟨by rw [HL.out.1 hlt]; rfl, by (repeat (with_reducible first | exact Below.refl _ _ | assumption | refine Below.drewN _ ?_ | refine Below.drew ?_ | refine Below_alloc ?_ _ | refine Below.alloc ?_ (by first | (simp; done) | (simp; omega) | omega) _ | refine Below.setCell ?_ (by first | (simp; done) | (simp; omega) | omega) _ | refine Below_call ?_ (by assumption) | refine Below.trans ?_ (by assumption)))⟩
    · go_enter Try.func139, Try.ntmps139
      go_wp2_with fail
      go_ret
      exact ⟨by rw [HL.out.2 (by omega)]; rfl, by (repeat (with_reducible first | exact Below.refl _ _ | assumption | refine Below.drewN _ ?_ | refine Below.drew ?_ | refine Below_alloc ?_ _ | refine Below.alloc ?_ (by first | (simp; done) | (simp; omega) | omega) _ | refine Below.setCell ?_ (by first | (simp; done) | (simp; omega) | omega) _ | refine Below_call ?_ (by assumption) | refine Below.trans ?_ (by assumption)))⟩

end Go.Proofs.Ytllddidjiabegaa

/- Wide numbers: made of digits, digits added and subtracted. -/
set_option linter.unusedVariables false
set_option linter.unusedSimpArgs false
namespace Go.Proofs.Ytllddidjiabegaa
open Go.RowKit

theorem dlen {n k : Nat} (h : (n : Int) < dpw k) : (dig n).length ≤ k := by
  rcases Nat.lt_or_ge k (dig n).length with h1 | h1
  · obtain ⟨m, hm⟩ : ∃ m, (dig n).length = m + 1 := ⟨(dig n).length - 1, by omega⟩
    have h2 := dig_low hm
    have h3 := dpw_mono (show k ≤ m from by omega)
    omega
  · exact h1

/-- the sign of a number of a sign and digits. -/
def sg0 (d s : Int) : Int := if d = 0 then 0 else s

set_option maxRecDepth 100000 in
set_option maxHeartbeats 1000000 in
theorem base_wideOf (s : Int) (l : List Int) (ao : Option Addr) (cap : Nat) (w : World) (h : IntsAt w (.slice ao l.length cap) l) (hd : isD l) :
    Calls Try.prog 133 #[.int .i64 s, .slice ao l.length cap] w fun e w' => e = .returned (.agg #[.int .i64 (sg0 (dval l) s), .slice ao (tri l).length cap]) ∧ Below w.heap.size w w' := by
  obtain ⟨ao', cap', e, h1, h2, h3⟩ := h.opn
  cases e
  have HI := hid h
  have hr := dval_range hd
  have HL := hid (dig_nil (n := (dval l).toNat))
  have HT : Hid (∀ W, Below w.heap.size w W → Calls Try.prog 150 #[.slice ao l.length cap] W fun e w' => e = .returned (.slice ao (tri l).length cap) ∧ W = w') := hid (fun W hW => base_trimmed l _ _ _ (HI.out.below hW) hd)
  obtain ⟨r, hrr⟩ : ∃ r, r = tri l := ⟨_, rfl⟩
  rw [show dig (dval l).toNat = r from hrr.symm] at HL
  rw [← hrr] at HT ⊢
  clear h3 h h2 hrr
  by_cases hz : dval l = 0
  · have hl0 : r.length = 0 := HL.out.2 (by omega)
    have HZ : Hid (sg0 (dval l) s = 0) := hid (by unfold sg0; rw [if_pos hz])
    clear hz hr
    rw [HZ.out]
    go_enter Try.func133, Try.ntmps133
    go_wp2_with (go_at_call 150; refine (HT.out _ (by (repeat (with_reducible first | exact Below.refl _ _ | assumption | refine Below.drewN _ ?_ | refine Below.drew ?_ | refine Below_alloc ?_ _ | refine Below.alloc ?_ (by first | (simp; done) | (simp; omega) | omega) _ | refine Below.setCell ?_ (by first | (simp; done) | (simp; omega) | omega) _ | refine Below_call ?_ (by assumption) | refine Below.trans ?_ (by assumption))))).mono ?_; rintro _ _ ⟨rfl, rfl⟩)
    ((try simp only [Exit.inBlock, Exit.then]); refine bodyPost_ret (v := .agg #[.int .i64 0, .slice ao 0 cap]) ?_ rfl ?_; (next => simp [results, Try.results133, go_sem]); refine ⟨?_, ?_⟩; (next => simp [hl0]); (next => (repeat (with_reducible first | exact Below.refl _ _ | assumption | refine Below.drewN _ ?_ | refine Below.drew ?_ | refine Below_alloc ?_ _ | refine Below.alloc ?_ (by first | (simp; done) | (simp; omega) | omega) _ | refine Below.setCell ?_ (by first | (simp; done) | (simp; omega) | omega) _ | refine Below_call ?_ (by assumption) | refine Below.trans ?_ (by assumption)))))
  · have hl0 : 0 < r.length := Nat.pos_of_ne_zero (fun h => hz (by have := HL.out.1 h; omega))
    have HZ : Hid (sg0 (dval l) s = s) := hid (by unfold sg0; rw [if_neg hz])
    clear hz hr
    rw [HZ.out]
    go_enter Try.func133, Try.ntmps133
    go_wp2_with (go_at_call 150; refine (HT.out _ (by (repeat (with_reducible first | exact Below.refl _ _ | assumption | refine Below.drewN _ ?_ | refine Below.drew ?_ | refine Below_alloc ?_ _ | refine Below.alloc ?_ (by first | (simp; done) | (simp; omega) | omega) _ | refine Below.setCell ?_ (by first | (simp; done) | (simp; omega) | omega) _ | refine Below_call ?_ (by assumption) | refine Below.trans ?_ (by assumption))))).mono ?_; rintro _ _ ⟨rfl, rfl⟩)
    ((try simp only [Exit.inBlock, Exit.then]); refine bodyPost_ret (v := .agg #[.int .i64 s, .slice ao r.length cap]) ?_ rfl ?_; (next => simp [results, Try.results133, go_sem]); refine ⟨?_, ?_⟩; (next => rfl); (next => (repeat (with_reducible first | exact Below.refl _ _ | assumption | refine Below.drewN _ ?_ | refine Below.drew ?_ | refine Below_alloc ?_ _ | refine Below.alloc ?_ (by first | (simp; done) | (simp; omega) | omega) _ | refine Below.setCell ?_ (by first | (simp; done) | (simp; omega) | omega) _ | refine Below_call ?_ (by assumption) | refine Below.trans ?_ (by assumption)))))

set_option maxRecDepth 100000 in
set_option maxHeartbeats 1000000 in
theorem base_addDigits (la lb : List Int) (u v : Value) (w : World) (h : IntsAt w u la) (g : IntsAt w v lb) (ha : isD la) (hb : isD lb) (M : Nat) (hM : M ≤ 1000000) (hal : la.length ≤ M) (hbl : lb.length ≤ M) :
    Calls Try.prog 138 #[u, v] w fun e w' => ∃ r, e = .returned r ∧ ∃ xs, DigIn w' r xs (fun b => w.heap.size ≤ b) ∧ isD xs ∧ dval xs = dval la + dval lb ∧ xs.length ≤ M + 1 ∧ Below w.heap.size w w' := by
  obtain ⟨ao, cap, rfl, h1, h2, h3⟩ := h.opn
  obtain ⟨bo, cap2, rfl, g1, g2, g3⟩ := g.opn
  have HA := hid h
  have HB := hid g
  have HDA := hid ha
  have HDB := hid hb
  unfold maxLen at h2 g2
  clear h g h3 g3 ha hb
  go_enter Try.func138, Try.ntmps138
  go_wp2_with fail
  go_loopw [5, 6, 7] (fun o c i wr => ∃ (k : Nat) (cc : Int) (xs : List Int), k ≤ M + 1 ∧ c = .int .i64 cc ∧ 0 ≤ cc ∧ cc ≤ 1 ∧ (M < k → cc = 0) ∧ i = .int .i64 k ∧ xs.length = k ∧ Hid (isD xs ∧ dval xs + cc * dpw k = dval (la.take k) + dval (lb.take k)) ∧ wr.ownsRow w.heap.size 3 1 o k (xs.map (Value.int .i64)) ∧ Below w.heap.size w wr) (fun _ _ i _ => M + 1 - (intOf i).toNat)
  case atStart => exact ⟨0, 0, [], by omega, rfl, by omega, by omega, fun _ => rfl, rfl, rfl, hid ⟨isD_nil, by simp [dval]⟩, World.ownsRow_nil _ _ _ _, Below.refl _ _⟩
  case round =>
    obtain ⟨k, cc, xs, hk, rfl, hc0, hc1, hc2, rfl, hxl, HX, hown, hbel⟩ := hrel
    obtain ⟨oo, on, oc, rfl⟩ := ownsRow_shape hown
    have hzw := hbel.size
    have hIa := HA.out.below hbel
    have hIb := HB.out.below hbel
    by_cases hdone : la.length ≤ k ∧ lb.length ≤ k ∧ cc = 0
    · obtain ⟨d1, d2, rfl⟩ := hdone
      have HE := HX.out.2
      rw [List.take_of_length_le d1, List.take_of_length_le d2, Int.zero_mul, Int.add_zero] at HE
      have HE := hid HE
      have HO := hid hown
      clear hown hIa hIb
      go_wp2_with fail
      go_ret
      exact ⟨_, rfl, xs, ownsRow_dig (by rw [hxl]; exact HO.out), HX.out.1, HE.out, by omega, hbel⟩
    · have hcase : k < la.length ∨ (¬ k < la.length ∧ k < lb.length) ∨ (¬ k < la.length ∧ ¬ k < lb.length ∧ 0 < cc) := by omega
      obtain ⟨x, hx⟩ : ∃ x, x = nth la k := ⟨_, rfl⟩
      obtain ⟨y, hy⟩ : ∃ y, y = nth lb k := ⟨_, rfl⟩
      have hxb := isD_nth HDA.out k
      have hyb := isD_nth HDB.out k
      have HCa : Hid (∀ W, Below w.heap.size w W → Calls Try.prog 152 #[.slice ao la.length cap, .int .i64 k] W fun e w' => e = .returned (.int .i64 x) ∧ W = w') := hid (fun W hW => by rw [hx]; exact base_digit la _ _ (HA.out.below hW) k (by omega))
      have HCb : Hid (∀ W, Below w.heap.size w W → Calls Try.prog 152 #[.slice bo lb.length cap2, .int .i64 k] W fun e w' => e = .returned (.int .i64 y) ∧ W = w') := hid (fun W hW => by rw [hy]; exact base_digit lb _ _ (HB.out.below hW) k (by omega))
      rw [← hx] at hxb
      rw [← hy] at hyb
      have hzero : la.length ≤ k → x = 0 := fun h => by rw [hx]; exact dnth_ge h
      have hzero2 : lb.length ≤ k → y = 0 := fun h => by rw [hy]; exact dnth_ge h
      obtain ⟨q, hq⟩ : ∃ q, q = (x + y + cc) / 1000000000 := ⟨_, rfl⟩
      obtain ⟨r, hr⟩ : ∃ r, r = (x + y + cc) % 1000000000 := ⟨_, rfl⟩
      have hdiv : (x + y + cc).tdiv 1000000000 = q := by rw [Int.tdiv_eq_ediv_of_nonneg (by omega), hq]
      have hmod : (x + y + cc).tmod 1000000000 = r := by rw [Int.tmod_eq_emod_of_nonneg (by omega), hr]
      have HQ : Hid (x + y + cc = r + 1000000000 * q ∧ 0 ≤ r ∧ r < 1000000000 ∧ 0 ≤ q ∧ q ≤ 1 ∧ (M < k + 1 → q = 0)) := hid (by omega)
      have HN : Hid (isD (xs ++ [r]) ∧ dval (xs ++ [r]) + q * dpw (k + 1) = dval (la.take (k + 1)) + dval (lb.take (k + 1))) := hid (by
        refine ⟨isD_app.2 ⟨HX.out.1, by intro d hd; rw [List.mem_singleton.1 hd]; exact ⟨HQ.out.2.1, HQ.out.2.2.1⟩⟩, ?_⟩
        rw [dval_app, hxl, dval_take, dval_take, ← hx, ← hy]
        have e1 := HX.out.2
        have e2 : (x + y + cc) * dpw k = (r + 1000000000 * q) * dpw k := by rw [HQ.out.1]
        rw [Int.add_mul, Int.add_mul, Int.add_mul] at e2
        have e3 : q * dpw (k + 1) = 1000000000 * q * dpw k := by simp only [dpw]; rw [← Int.mul_assoc, Int.mul_comm q]
        have e4 : dpw k * dval [r] = r * dpw k := by simp [dval, Int.mul_comm]
        omega)
      have hrq := HQ.out.2
      have tok1 : True := trivial
      clear hq hr hx hy hIa hIb hdone HQ
      rcases hcase with hcs | ⟨hcs, hcs2⟩ | ⟨hcs, hcs2, hcs3⟩
      all_goals
        go_wp2_with (first | (go_at_call 152; clear tok1; refine (HCa.out _ hbel).mono ?_; rintro _ _ ⟨rfl, rfl⟩) | (go_at_call 152; refine (HCb.out _ hbel).mono ?_; rintro _ _ ⟨rfl, rfl⟩) | (at_builtin; refine wpList_push rfl _ _ _ rfl elemInt w.heap.size _ k _ rfl wr hown [.int .i64 r] rfl (by simp [Value.oneCell']) rfl _ rfl rfl (by omega) (by unfold maxLen; omega) hzw ?_; intro v1 w2 hown3 hb3 _ _))
        go_roundw
        case rel => exact ⟨k + 1, q, xs ++ [r], by omega, rfl, by omega, by omega, by omega, by go_num, by simp [hxl], HN, by rw [List.map_append]; exact hown3, by (repeat (with_reducible first | exact Below.refl _ _ | assumption | refine Below.drewN _ ?_ | refine Below.drew ?_ | refine Below_alloc ?_ _ | refine Below.alloc ?_ (by first | (simp; done) | (simp; omega) | omega) _ | refine Below.setCell ?_ (by first | (simp; done) | (simp; omega) | omega) _ | refine Below_call ?_ (by assumption) | refine Below.trans ?_ (by assumption)))⟩
        case measure => simp [intOf]; omega

set_option maxRecDepth 100000 in
theorem base_WideSign (x : Int) (s : Value) (w : World) : Calls Try.prog 135 #[.agg #[.int .i64 x, s]] w fun e w' => e = .returned (.int .i64 x) ∧ Below w.heap.size w w' := by
  go_enter Try.func135, Try.ntmps135
  go_wp2_with fail
  go_ret
  exact ⟨rfl, by (repeat (with_reducible first | exact Below.refl _ _ | assumption | refine Below.drewN _ ?_ | refine Below.drew ?_ | refine Below_alloc ?_ _ | refine Below.alloc ?_ (by first | (simp; done) | (simp; omega) | omega) _ | refine Below.setCell ?_ (by first | (simp; done) | (simp; omega) | omega) _ | refine Below_call ?_ (by assumption) | refine Below.trans ?_ (by assumption)))⟩

end Go.Proofs.Ytllddidjiabegaa

/- Wide numbers: digits subtracted, opposite numbers, numbers made. -/
set_option linter.unusedVariables false
set_option linter.unusedSimpArgs false
namespace Go.Proofs.Ytllddidjiabegaa
open Go.RowKit

set_option maxRecDepth 100000 in
set_option maxHeartbeats 1000000 in
theorem base_subDigits (a b : Nat) (u v : Value) (w : World) (h : IntsAt w u (dig a)) (g : IntsAt w v (dig b)) (hle : b ≤ a) (hal : (dig a).length ≤ 1000000) :
    Calls Try.prog 140 #[u, v] w fun e w' => ∃ r, e = .returned r ∧ DigIn w' r (dig (a - b)) (fun b => w.heap.size ≤ b) ∧ Below w.heap.size w w' := by
  obtain ⟨ao, cap, rfl, h1, h2, h3⟩ := h.opn
  obtain ⟨bo, cap2, rfl, g1, g2, g3⟩ := g.opn
  have HA := hid h
  have HB := hid g
  have hlb := dig_len_mono hle
  obtain ⟨la, hla⟩ : ∃ la, la = dig a := ⟨_, rfl⟩
  obtain ⟨lb, hlbb⟩ : ∃ lb, lb = dig b := ⟨_, rfl⟩
  have HAE := hid hla
  have HBE := hid hlbb
  rw [← hla] at h1 h3 hal hlb HA ⊢
  rw [← hlbb] at g1 hlb HB ⊢
  have HDA : Hid (isD la) := hid (by rw [hla]; exact isD_dig a)
  have HDB : Hid (isD lb) := hid (by rw [hlbb]; exact isD_dig b)
  unfold maxLen at h2 g2
  clear h g g3 hla hlbb
  go_enter Try.func140, Try.ntmps140
  go_wp2_with fail
  go_loopw [5, 6, 7] (fun o c i wr => ∃ (k : Nat) (cc : Int) (xs : List Int), k ≤ la.length ∧ c = .int .i64 cc ∧ 0 ≤ cc ∧ cc ≤ 1 ∧ i = .int .i64 k ∧ xs.length = k ∧ Hid (isD xs ∧ dval xs - cc * dpw k = dval (la.take k) - dval (lb.take k)) ∧ wr.ownsRow w.heap.size 3 1 o k (xs.map (Value.int .i64)) ∧ Below w.heap.size w wr) (fun _ _ i _ => la.length - (intOf i).toNat)
  case atStart => exact ⟨0, 0, [], by omega, rfl, by omega, by omega, rfl, rfl, hid ⟨isD_nil, by simp [dval]⟩, World.ownsRow_nil _ _ _ _, Below.refl _ _⟩
  case round =>
    obtain ⟨k, cc, xs, hk, rfl, hc0, hc1, rfl, hxl, HX, hown, hbel⟩ := hrel
    obtain ⟨oo, on, oc, rfl⟩ := ownsRow_shape hown
    have hzw := hbel.size
    by_cases hlt : k < la.length
    · obtain ⟨b1, off1, rfl, hb1, hcell1⟩ := h3 k hlt
      have c0 := (hbel.cell (p := ⟨b1, off1 + k, none⟩) hb1).trans (hcell1 k hlt)
      have hbw : b1 < wr.heap.size := by omega
      obtain ⟨x, hx⟩ : ∃ x, x = nth la k := ⟨_, rfl⟩
      obtain ⟨y, hy⟩ : ∃ y, y = nth lb k := ⟨_, rfl⟩
      have hxb := isD_nth HDA.out k
      have hyb := isD_nth HDB.out k
      have HCb : Hid (∀ W, Below w.heap.size w W → Calls Try.prog 152 #[.slice bo lb.length cap2, .int .i64 k] W fun e w' => e = .returned (.int .i64 y) ∧ W = w') := hid (fun W hW => by rw [hy]; exact base_digit lb _ _ (HB.out.below hW) k (by omega))
      rw [← hx] at hxb c0
      rw [← hy] at hyb
      have HXY : Hid (x = nth la k ∧ y = nth lb k) := hid ⟨hx, hy⟩
      clear h3 hcell1 hx hy
      have hownd : wr.drew.ownsRow w.heap.size 3 1 (.slice oo on oc) k (xs.map (Value.int .i64)) := hown
      have hzd : w.heap.size ≤ wr.drew.heap.size := hzw
      have key : ∀ (r q : Int), x - y - cc = r - 1000000000 * q → 0 ≤ r → r < 1000000000 → isD (xs ++ [r]) ∧ dval (xs ++ [r]) - q * dpw (k + 1) = dval (la.take (k + 1)) - dval (lb.take (k + 1)) := by
        intro r q e hr0 hr1
        refine ⟨isD_app.2 ⟨HX.out.1, by intro d hd; rw [List.mem_singleton.1 hd]; exact ⟨hr0, hr1⟩⟩, ?_⟩
        rw [dval_app, hxl, dval_take, dval_take, ← HXY.out.1, ← HXY.out.2]
        have e1 := HX.out.2
        have e2 : (x - y - cc) * dpw k = (r - 1000000000 * q) * dpw k := by rw [e]
        rw [Int.sub_mul, Int.sub_mul, Int.sub_mul] at e2
        have e3 : q * dpw (k + 1) = 1000000000 * q * dpw k := by simp only [dpw]; rw [← Int.mul_assoc, Int.mul_comm q]
        have e4 : dpw k * dval [r] = r * dpw k := by simp [dval, Int.mul_comm]
        omega
      have KEY := hid key
      clear key hown
      by_cases hneg : x - y - cc < 0
      · obtain ⟨r, hr⟩ : ∃ r, r = x - y - cc + 1000000000 := ⟨_, rfl⟩
        have hrb : 0 ≤ r ∧ r < 1000000000 := by omega
        have HN := hid (KEY.out r 1 (by omega) hrb.1 hrb.2)
        have hrs := hr.symm
        clear hr
        go_wp2_with fail
        refine wp_mixC (fun wc => Below (w.heap.size) wr wc) 10 [.q [0, 1, 2, 3, 4, 5, 8], .f [6], .q [7, 9]] [.q [10]] (by kernel_rfl) (by kernel_rfl) ((Below.refl _ _).drew) ?_
        intro Q' hQ'
        (rw [wpMixC]; simp only [pick, List.drop_succ_cons, List.drop_zero, List.head?_cons, Option.toList_some, List.cons_append, List.nil_append])
        (repeat (first | go_big_quiet_skip | (go_big_quiet_want; refine quiet_simple rfl ?_; go_big_quiet_op; go_big_quiet_on) | (go_big_quiet_want; refine quiet_cellB (ty := 3) rfl rfl (by kernel_rfl) (by assumption) (by first | omega | (simp; omega)) ?_; simp only [Act.put, List.setIfInBounds_toArray, List.set_cons_succ, List.set_cons_zero]; go_big_quiet_on)))
        (try refine wpQuiet_nil ?_)
        (rw [wpMixC]; simp only [pick, List.drop_succ_cons, List.drop_zero, List.head?_cons, Option.toList_some, List.cons_append, List.nil_append])
        (rw [wpSteps]; go_wp2_with ((go_at_call 152; refine (HCb.out _ (by (repeat (with_reducible first | exact Below.refl _ _ | assumption | refine Below.drewN _ ?_ | refine Below.drew ?_ | refine Below_alloc ?_ _ | refine Below.alloc ?_ (by first | (simp; done) | (simp; omega) | omega) _ | refine Below.setCell ?_ (by first | (simp; done) | (simp; omega) | omega) _ | refine Below_call ?_ (by assumption) | refine Below.trans ?_ (by assumption))))).mono ?_; rintro _ _ ⟨rfl, rfl⟩)); rw [contF]; refine ⟨?_, ?_⟩; (next => (repeat (with_reducible first | exact Below.refl _ _ | assumption | refine Below.drewN _ ?_ | refine Below.drew ?_ | refine Below_alloc ?_ _ | refine Below.alloc ?_ (by first | (simp; done) | (simp; omega) | omega) _ | refine Below.setCell ?_ (by first | (simp; done) | (simp; omega) | omega) _ | refine Below_call ?_ (by assumption) | refine Below.trans ?_ (by assumption)))))
        (rw [wpSteps])
        (rw [wpMixC]; simp only [pick, List.drop_succ_cons, List.drop_zero, List.head?_cons, Option.toList_some, List.cons_append, List.nil_append])
        (repeat (first | go_big_quiet_skip | (go_big_quiet_want; refine quiet_simple rfl ?_; go_big_quiet_op; go_big_quiet_on) | (go_big_quiet_want; refine quiet_cellB (ty := 3) rfl rfl (by kernel_rfl) (by assumption) (by first | omega | (simp; omega)) ?_; simp only [Act.put, List.setIfInBounds_toArray, List.set_cons_succ, List.set_cons_zero]; go_big_quiet_on)))
        (try refine wpQuiet_nil ?_)
        (rw [wpMixC])
        (rw [wpMix]; simp only [pick, List.drop_succ_cons, List.drop_zero, List.head?_cons, Option.toList_some, List.cons_append, List.nil_append])
        (repeat (first | (go_big_quiet_step (fail)) | (quiet_step (fail))))
        (try refine wpQuiet_nil ?_)
        (rw [wpMix])
        (refine hQ' _ _ ?_)
        go_wp2_with (at_builtin; refine wpList_push rfl _ _ _ rfl elemInt w.heap.size _ k _ rfl _ hownd [.int .i64 r] rfl (by simp [Value.oneCell']) rfl _ rfl rfl (by omega) (by unfold maxLen; omega) hzd ?_; intro v1 w2 hown3 hb3 _ _)
        go_roundw
        case rel => exact ⟨k + 1, 1, xs ++ [r], by omega, rfl, by omega, by omega, by go_num, by simp [hxl], HN, by rw [List.map_append]; exact hown3, by (repeat (with_reducible first | exact Below.refl _ _ | assumption | refine Below.drewN _ ?_ | refine Below.drew ?_ | refine Below_alloc ?_ _ | refine Below.alloc ?_ (by first | (simp; done) | (simp; omega) | omega) _ | refine Below.setCell ?_ (by first | (simp; done) | (simp; omega) | omega) _ | refine Below_call ?_ (by assumption) | refine Below.trans ?_ (by assumption)))⟩
        case measure => simp [intOf]; omega
      · obtain ⟨r, hr⟩ : ∃ r, r = x - y - cc := ⟨_, rfl⟩
        have hrb : 0 ≤ r ∧ r < 1000000000 := by omega
        have HN := hid (KEY.out r 0 (by omega) hrb.1 hrb.2)
        have hrs := hr.symm
        clear hr
        go_wp2_with fail
        refine wp_mixC (fun wc => Below (w.heap.size) wr wc) 10 [.q [0, 1, 2, 3, 4, 5, 8], .f [6], .q [7, 9]] [.q [10]] (by kernel_rfl) (by kernel_rfl) ((Below.refl _ _).drew) ?_
        intro Q' hQ'
        (rw [wpMixC]; simp only [pick, List.drop_succ_cons, List.drop_zero, List.head?_cons, Option.toList_some, List.cons_append, List.nil_append])
        (repeat (first | go_big_quiet_skip | (go_big_quiet_want; refine quiet_simple rfl ?_; go_big_quiet_op; go_big_quiet_on) | (go_big_quiet_want; refine quiet_cellB (ty := 3) rfl rfl (by kernel_rfl) (by assumption) (by first | omega | (simp; omega)) ?_; simp only [Act.put, List.setIfInBounds_toArray, List.set_cons_succ, List.set_cons_zero]; go_big_quiet_on)))
        (try refine wpQuiet_nil ?_)
        (rw [wpMixC]; simp only [pick, List.drop_succ_cons, List.drop_zero, List.head?_cons, Option.toList_some, List.cons_append, List.nil_append])
        (rw [wpSteps]; go_wp2_with ((go_at_call 152; refine (HCb.out _ (by (repeat (with_reducible first | exact Below.refl _ _ | assumption | refine Below.drewN _ ?_ | refine Below.drew ?_ | refine Below_alloc ?_ _ | refine Below.alloc ?_ (by first | (simp; done) | (simp; omega) | omega) _ | refine Below.setCell ?_ (by first | (simp; done) | (simp; omega) | omega) _ | refine Below_call ?_ (by assumption) | refine Below.trans ?_ (by assumption))))).mono ?_; rintro _ _ ⟨rfl, rfl⟩)); rw [contF]; refine ⟨?_, ?_⟩; (next => (repeat (with_reducible first | exact Below.refl _ _ | assumption | refine Below.drewN _ ?_ | refine Below.drew ?_ | refine Below_alloc ?_ _ | refine Below.alloc ?_ (by first | (simp; done) | (simp; omega) | omega) _ | refine Below.setCell ?_ (by first | (simp; done) | (simp; omega) | omega) _ | refine Below_call ?_ (by assumption) | refine Below.trans ?_ (by assumption)))))
        (rw [wpSteps])
        (rw [wpMixC]; simp only [pick, List.drop_succ_cons, List.drop_zero, List.head?_cons, Option.toList_some, List.cons_append, List.nil_append])
        (repeat (first | go_big_quiet_skip | (go_big_quiet_want; refine quiet_simple rfl ?_; go_big_quiet_op; go_big_quiet_on) | (go_big_quiet_want; refine quiet_cellB (ty := 3) rfl rfl (by kernel_rfl) (by assumption) (by first | omega | (simp; omega)) ?_; simp only [Act.put, List.setIfInBounds_toArray, List.set_cons_succ, List.set_cons_zero]; go_big_quiet_on)))
        (try refine wpQuiet_nil ?_)
        (rw [wpMixC])
        (rw [wpMix]; simp only [pick, List.drop_succ_cons, List.drop_zero, List.head?_cons, Option.toList_some, List.cons_append, List.nil_append])
        (repeat (first | (go_big_quiet_step (fail)) | (quiet_step (fail))))
        (try refine wpQuiet_nil ?_)
        (rw [wpMix])
        (refine hQ' _ _ ?_)
        go_wp2_with (at_builtin; refine wpList_push rfl _ _ _ rfl elemInt w.heap.size _ k _ rfl _ hownd [.int .i64 r] rfl (by simp [Value.oneCell']) rfl _ rfl rfl (by omega) (by unfold maxLen; omega) hzd ?_; intro v1 w2 hown3 hb3 _ _)
        go_roundw
        case rel => exact ⟨k + 1, 0, xs ++ [r], by omega, rfl, by omega, by omega, by go_num, by simp [hxl], HN, by rw [List.map_append]; exact hown3, by (repeat (with_reducible first | exact Below.refl _ _ | assumption | refine Below.drewN _ ?_ | refine Below.drew ?_ | refine Below_alloc ?_ _ | refine Below.alloc ?_ (by first | (simp; done) | (simp; omega) | omega) _ | refine Below.setCell ?_ (by first | (simp; done) | (simp; omega) | omega) _ | refine Below_call ?_ (by assumption) | refine Below.trans ?_ (by assumption)))⟩
        case measure => simp [intOf]; omega
    · have HE : Hid (isD xs ∧ (tri xs) = dig (a - b)) := hid (by
        have e1 := HX.out.2
        rw [List.take_of_length_le (by omega), List.take_of_length_le (by omega), HAE.out, HBE.out, dval_dig, dval_dig] at e1
        have e2 := dval_range HX.out.1
        rw [hxl] at e2
        have : cc = 0 ∨ cc = 1 := by omega
        refine ⟨HX.out.1, ?_⟩
        unfold tri
        congr 1
        rcases this with rfl | rfl
        · omega
        · omega)
      subst hxl
      obtain ⟨ho, hc, e, _⟩ := (ownsRow_dig hown)
      cases e
      have HO := hid (ownsRow_dig hown)
      have HT : Hid (∀ W, Below wr.heap.size wr W → Calls Try.prog 150 #[.slice oo xs.length oc] W fun e w' => e = .returned (.slice oo (tri xs).length oc) ∧ W = w') := hid (fun W hW => base_trimmed xs _ _ _ (HO.out.ints.below hW) HE.out.1)
      clear hown h3
      go_wp2_with (go_at_call 150; refine (HT.out _ (by (repeat (with_reducible first | exact Below.refl _ _ | assumption | refine Below.drewN _ ?_ | refine Below.drew ?_ | refine Below_alloc ?_ _ | refine Below.alloc ?_ (by first | (simp; done) | (simp; omega) | omega) _ | refine Below.setCell ?_ (by first | (simp; done) | (simp; omega) | omega) _ | refine Below_call ?_ (by assumption) | refine Below.trans ?_ (by assumption))))).mono ?_; rintro _ _ ⟨rfl, rfl⟩)
      go_ret
      refine ⟨_, rfl, ?_, hbel⟩
      rw [← HE.out.2]
      exact HO.out.trim HE.out.1

theorem sg_neg (z : Int) : sg (-z) = -sg z := by
  unfold sg
  rcases Int.lt_trichotomy z 0 with h | h | h
  · rw [if_neg (by omega), if_neg (by omega), if_pos h]; rfl
  · subst h; rfl
  · rw [if_pos (by omega), if_neg (by omega), if_neg (by omega)]
theorem sg_range (z : Int) : -1 ≤ sg z ∧ sg z ≤ 1 := by unfold sg; split; omega; split <;> omega
theorem WideAt.neg {w : World} {ao : Option Addr} {cap : Nat} {z x : Int} {n : Nat} {N : Nat → Prop} (h : WideAt w (.agg #[.int .i64 x, .slice ao n cap]) z N) : WideAt w (.agg #[.int .i64 (-x), .slice ao n cap]) (-z) N := by
  obtain ⟨ao', cap', e, h1⟩ := h
  cases e
  exact ⟨ao, cap, by rw [sg_neg, Int.natAbs_neg], by rw [Int.natAbs_neg]; exact h1⟩

set_option maxRecDepth 100000 in
theorem base_WideNeg (x : Int) (ao : Option Addr) (n cap : Nat) (w : World) (hx : -1 ≤ x ∧ x ≤ 1) : Calls Try.prog 132 #[.agg #[.int .i64 x, .slice ao n cap]] w fun e w' => e = .returned (.agg #[.int .i64 (-x), .slice ao n cap]) ∧ Below w.heap.size w w' := by
  go_enter Try.func132, Try.ntmps132
  go_wp2_with fail
  ((try simp only [Exit.inBlock, Exit.then]); refine bodyPost_ret (v := .agg #[.int .i64 (-x), .slice ao n cap]) ?_ rfl ?_; (next => simp [results, Try.results132, go_sem]); refine ⟨?_, ?_⟩; (next => rfl); (next => (repeat (with_reducible first | exact Below.refl _ _ | assumption | refine Below.drewN _ ?_ | refine Below.drew ?_ | refine Below_alloc ?_ _ | refine Below.alloc ?_ (by first | (simp; done) | (simp; omega) | omega) _ | refine Below.setCell ?_ (by first | (simp; done) | (simp; omega) | omega) _ | refine Below_call ?_ (by assumption) | refine Below.trans ?_ (by assumption)))))

set_option maxRecDepth 100000 in
theorem base_wideSize (x : Int) (ao : Option Addr) (n cap : Nat) (w : World) (hx : -1 ≤ x ∧ x ≤ 1) : Calls Try.prog 151 #[.agg #[.int .i64 x, .slice ao n cap]] w fun e w' => e = .returned (.agg #[.int .i64 (if x < 0 then -x else x), .slice ao n cap]) ∧ Below w.heap.size w w' := by
  by_cases hn : x < 0
  · rw [if_pos hn]
    go_enter Try.func151, Try.ntmps151
    go_wp2_with ((go_at_call 132; refine (base_WideNeg _ _ _ _ _ hx).mono ?_; rintro _ w1 ⟨rfl, hb1⟩; obtain ⟨hc1, hf1⟩ := bcell hb1; have hz1 := hb1.size; (try simp only [World.size_alloc, World.heap_drewN] at hz1); have hk1_0 : w.heap.size < w1.heap.size := (by omega); have hk1_1 : w.heap.size + 1 < w1.heap.size := (by omega); have q1_1_0 := hc1 (w.heap.size + 1) 0 (by first | assumption | (simp; done) | (simp; omega)); (try simp at q1_1_0); have p1_1_0 := hf1 (w.heap.size + 1) 0 (by first | assumption | (simp; done) | (simp; omega)); (try simp at p1_1_0); have q1_1_1 := hc1 (w.heap.size + 1) 1 (by first | assumption | (simp; done) | (simp; omega)); (try simp at q1_1_1); have p1_1_1 := hf1 (w.heap.size + 1) 1 (by first | assumption | (simp; done) | (simp; omega)); (try simp at p1_1_1)))
    ((try simp only [Exit.inBlock, Exit.then]); refine bodyPost_ret (v := .agg #[.int .i64 (-x), .slice ao n cap]) ?_ rfl ?_; (next => simp [results, Try.results151, go_sem, hk1_1, q1_1_0, q1_1_1]); refine ⟨?_, ?_⟩; (next => rfl); (next => (repeat (with_reducible first | exact Below.refl _ _ | assumption | refine Below.drewN _ ?_ | refine Below.drew ?_ | refine Below_alloc ?_ _ | refine Below.alloc ?_ (by first | (simp; done) | (simp; omega) | omega) _ | refine Below.setCell ?_ (by first | (simp; done) | (simp; omega) | omega) _ | refine Below_call ?_ (by assumption) | refine Below.trans ?_ (by assumption)))))
  · rw [if_neg hn]
    go_enter Try.func151, Try.ntmps151
    go_wp2_with fail
    ((try simp only [Exit.inBlock, Exit.then]); refine bodyPost_ret (v := .agg #[.int .i64 x, .slice ao n cap]) ?_ rfl ?_; (next => simp [results, Try.results151, go_sem]); refine ⟨?_, ?_⟩; (next => rfl); (next => (repeat (with_reducible first | exact Below.refl _ _ | assumption | refine Below.drewN _ ?_ | refine Below.drew ?_ | refine Below_alloc ?_ _ | refine Below.alloc ?_ (by first | (simp; done) | (simp; omega) | omega) _ | refine Below.setCell ?_ (by first | (simp; done) | (simp; omega) | omega) _ | refine Below_call ?_ (by assumption) | refine Below.trans ?_ (by assumption)))))

end Go.Proofs.Ytllddidjiabegaa

/- Wide numbers: made of a number, added. -/
set_option linter.unusedVariables false
set_option linter.unusedSimpArgs false
namespace Go.Proofs.Ytllddidjiabegaa
open Go.RowKit

theorem DigIn.store2 {w w1 : World} {v : Value} {l : List Int} {N0 N : Nat → Prop} {B : Nat} (h : DigIn w v l N0) (hb : Below w.heap.size w w1) (hN : ∀ b, N0 b → b ≠ B ∧ N b) (x y : Value) :
    DigIn ((w1.setCell ⟨B, 0, none⟩ x).setCell ⟨B, 1, none⟩ y) v l N := by
  refine h.keep (by rw [World.size_setCell, World.size_setCell]; exact hb.size) fun b hlt h0 => ⟨?_, (hN b h0).2⟩
  rw [heap_setCell_other _ _ _ _ (hN b h0).1, heap_setCell_other _ _ _ _ (hN b h0).1, hb.block b hlt]
theorem WideAt.store2 {w w1 : World} {v : Value} {z : Int} {N0 N : Nat → Prop} {B : Nat} (h : WideAt w v z N0) (hb : Below w.heap.size w w1) (hN : ∀ b, N0 b → b ≠ B ∧ N b) (x y : Value) :
    WideAt ((w1.setCell ⟨B, 0, none⟩ x).setCell ⟨B, 1, none⟩ y) v z N := by
  obtain ⟨ao, cap, rfl, h1⟩ := h
  exact ⟨ao, cap, rfl, h1.store2 hb hN x y⟩
theorem wide_of {xs : List Int} {z s : Int} (e : dval xs = z.natAbs) (hs : z ≠ 0 → s = sg z) : sg0 (dval xs) s = sg z ∧ tri xs = dig z.natAbs := by
  refine ⟨?_, ?_⟩
  · unfold sg0
    by_cases hz : z = 0
    · subst hz; rw [if_pos (by rw [e]; rfl)]; rfl
    · rw [if_neg (by omega), hs hz]
  · unfold tri; rw [e]; rfl
theorem wide_fin {w1 w2 : World} {B : Nat} {ro : Option Addr} {rc : Nat} {xs : List Int} {z s : Int} {N0 N : Nat → Prop} (hd : isD xs) (e : dval xs = z.natAbs) (hs : z ≠ 0 → s = sg z) (h : DigIn w1 (.slice ro xs.length rc) xs N0) (hb : Below w1.heap.size w1 w2) (hN : ∀ b, N0 b → b ≠ B ∧ N b) (x y : Value) :
    WideAt ((w2.setCell ⟨B, 0, none⟩ x).setCell ⟨B, 1, none⟩ y) (.agg #[.int .i64 (sg0 (dval xs) s), .slice ro (tri xs).length rc]) z N := by
  obtain ⟨e1, e2⟩ := wide_of (s := s) e hs
  have := (h.trim hd).store2 hb hN x y
  rw [e1, e2]
  rw [e2] at this
  exact ⟨ro, rc, rfl, this⟩
theorem DigIn.shape {w : World} {v : Value} {l : List Int} {N : Nat → Prop} (h : DigIn w v l N) : ∃ ao cap, v = .slice ao l.length cap := by
  obtain ⟨ao, cap, rfl, _⟩ := h
  exact ⟨ao, cap, rfl⟩

set_option maxRecDepth 100000 in
set_option maxHeartbeats 1000000 in
theorem base_WideOf (n : Int) (w : World) (N : Nat → Prop) (hN : ∀ b, w.heap.size ≤ b → N b) (h1 : -9223372036854775807 ≤ n) (h2 : n ≤ 9223372036854775807) :
    Calls Try.prog 95 #[.int .i64 n] w (RetWide w n N) := by
  have hsn : ∃ s : Int, (n < 0 ∧ s = -1 ∨ ¬ n < 0 ∧ s = 1) := by
    by_cases h : n < 0
    · exact ⟨-1, Or.inl ⟨h, rfl⟩⟩
    · exact ⟨1, Or.inr ⟨h, rfl⟩⟩
  obtain ⟨s, hs⟩ := hsn
  have HSG : Hid (n ≠ 0 → s = sg n) := hid (by intro h; unfold sg; rcases hs with ⟨h3, rfl⟩ | ⟨h3, rfl⟩; rw [if_pos h3]; rw [if_neg h3, if_neg h])
  go_enter Try.func95, Try.ntmps95
  obtain ⟨W0, hW0⟩ : ∃ W0, W0 = w.alloc (.cells #[.int .i64 0, .slice none 0 0] 60) := ⟨_, rfl⟩
  have hz0 : W0.heap.size = w.heap.size + 1 := by rw [hW0]; simp
  have hBW : Below w.heap.size w W0 := by rw [hW0]; (repeat (with_reducible first | exact Below.refl _ _ | assumption | refine Below.drewN _ ?_ | refine Below.drew ?_ | refine Below_alloc ?_ _ | refine Below.alloc ?_ (by first | (simp; done) | (simp; omega) | omega) _ | refine Below.setCell ?_ (by first | (simp; done) | (simp; omega) | omega) _ | refine Below_call ?_ (by assumption) | refine Below.trans ?_ (by assumption)))
  have hcells : W0.heap[w.heap.size]? = some (.cells #[.int .i64 0, .slice none 0 0] 60 (0, 0)) := by rw [hW0]; exact heap_alloc_new w _
  have HC := hid hcells
  rcases hs with ⟨hneg, rfl⟩ | ⟨hneg, rfl⟩
  all_goals
    go_wp2_with fail
    rw [← hW0]
    clear hW0 hcells
    go_loopw [0, 4] (fun m o wr => ∃ (mm : Int) (xs : List Int), m = .int .i64 mm ∧ xs.length ≤ 3 ∧ (xs.length = 0 → mm.natAbs < 10000000000000000000) ∧ (xs.length = 1 → mm.natAbs < 10000000000) ∧ (xs.length = 2 → mm.natAbs < 10) ∧ (xs.length = 3 → mm = 0) ∧ Hid (isD xs ∧ dval xs + (mm.natAbs : Int) * dpw xs.length = n.natAbs) ∧ wr.ownsRow W0.heap.size 3 1 o xs.length (xs.map (Value.int .i64)) ∧ Below W0.heap.size W0 wr) (fun m _ _ => (intOf m).natAbs)
    case atStart => exact ⟨n, [], rfl, by simp, by intro _; omega, by simp, by simp, by simp, hid ⟨isD_nil, by simp [dval, dpw]⟩, World.ownsRow_nil _ _ _ _, Below.refl _ _⟩
    case round =>
      obtain ⟨mm, xs, rfl, hx3, hb0, hb1, hb2, hb3, HX, hown, hbel⟩ := hrel
      obtain ⟨oo, on, oc, rfl⟩ := ownsRow_shape hown
      have hzw := hbel.size
      by_cases hm : mm = 0
      · subst hm
        obtain ⟨ao', cap', e⟩ := (ownsRow_dig hown).shape
        cases e
        have HO := hid (ownsRow_dig hown)
        have HE : Hid (dval xs = n.natAbs) := hid (by have := HX.out.2; simpa using this)
        have HWO : Hid (∀ W s', Below wr.heap.size wr W → Calls Try.prog 133 #[.int .i64 s', .slice oo xs.length oc] W fun e w' => e = .returned (.agg #[.int .i64 (sg0 (dval xs) s'), .slice oo (tri xs).length oc]) ∧ Below W.heap.size W w') := hid (fun W s' hW => base_wideOf s' xs _ _ _ (HO.out.ints.below hW) HX.out.1)
        have HZZ := hid (show wr.heap[w.heap.size]? = _ from (hbel.block w.heap.size (by omega)).trans HC.out)
        obtain ⟨S, hS⟩ : ∃ S, S = sg0 (dval xs) := ⟨_, rfl⟩
        obtain ⟨L, hL⟩ : ∃ L, L = (tri xs).length := ⟨_, rfl⟩
        rw [← hS, ← hL] at HWO
        have HSL := hid (And.intro hS hL)
        clear hown hS hL hb0 hb1 hb2 hb3
        go_wp2_with (go_at_call 133; refine (HWO.out _ _ (by (repeat (with_reducible first | exact Below.refl _ _ | assumption | refine Below.drewN _ ?_ | refine Below.drew ?_ | refine Below_alloc ?_ _ | refine Below.alloc ?_ (by first | (simp; done) | (simp; omega) | omega) _ | refine Below.setCell ?_ (by first | (simp; done) | (simp; omega) | omega) _ | refine Below_call ?_ (by assumption) | refine Below.trans ?_ (by assumption))))).mono ?_; rintro _ w1 ⟨rfl, hbb⟩; have HBB := hid hbb; obtain ⟨e0, e1, p0, p1, hlt1⟩ := two_cells ((hbb.block w.heap.size (by omega)).trans HZZ.out))
        obtain ⟨e0, e1, p0, p1, hlt1⟩ := two_cells ((HBB.out.block w.heap.size (by omega)).trans HZZ.out)
        (first | ((try simp only [Exit.inBlock, Exit.then]); refine bodyPost_ret (v := .agg #[.int .i64 (S (-1)), .slice oo L oc]) ?_ rfl ?_; (next => simp [results, Try.results95, go_sem, hlt1, e0, e1])) | ((try simp only [Exit.inBlock, Exit.then]); refine bodyPost_ret (v := .agg #[.int .i64 (S 1), .slice oo L oc]) ?_ rfl ?_; (next => simp [results, Try.results95, go_sem, hlt1, e0, e1])))
        rw [HSL.out.1, HSL.out.2]
        exact ⟨_, rfl, wide_fin HX.out.1 HE.out HSG.out HO.out HBB.out (fun b h => ⟨by omega, hN b (by omega)⟩) _ _, by (repeat (with_reducible first | exact Below.refl _ _ | assumption | refine Below.drewN _ ?_ | refine Below.drew ?_ | refine Below_alloc ?_ _ | refine Below.alloc ?_ (by first | (simp; done) | (simp; omega) | omega) _ | refine Below.setCell ?_ (by first | (simp; done) | (simp; omega) | omega) _ | refine Below_call ?_ (by assumption) | refine Below.trans ?_ (by assumption)))⟩
      · obtain ⟨q, hq⟩ : ∃ q, q = mm.tdiv 1000000000 := ⟨_, rfl⟩
        obtain ⟨r, hr⟩ : ∃ r, r = mm.tmod 1000000000 := ⟨_, rfl⟩
        have hqa : q.natAbs = mm.natAbs / 1000000000 := by rw [hq, Int.natAbs_tdiv]; rfl
        have hra : r.natAbs = mm.natAbs % 1000000000 := by rw [hr, Int.natAbs_tmod]; rfl
        have hrl : r.natAbs < 1000000000 := by omega
        have hq' := hq.symm
        have hr' := hr.symm
        have hx2 : xs.length ≤ 2 := by
          rcases (by omega : xs.length ≤ 2 ∨ xs.length = 3) with h | h
          · exact h
          · exact absurd (hb3 h) hm
        have hml : mm.natAbs < 10000000000000000000 := by
          rcases (by omega : xs.length = 0 ∨ xs.length = 1 ∨ xs.length = 2) with h | h | h
          · exact hb0 h
          · have := hb1 h; omega
          · have := hb2 h; omega
        have HQ := hid (And.intro hqa (And.intro hb0 (And.intro hb1 hb2)))
        have HN : Hid (isD (xs ++ [(r.natAbs : Int)]) ∧ dval (xs ++ [(r.natAbs : Int)]) + (q.natAbs : Int) * dpw (xs.length + 1) = n.natAbs) := hid (by
          refine ⟨isD_app.2 ⟨HX.out.1, by intro d hd; rw [List.mem_singleton.1 hd]; omega⟩, ?_⟩
          rw [dval_app, ← HX.out.2]
          have e2 : (mm.natAbs : Int) * dpw xs.length = ((r.natAbs : Int) + 1000000000 * (q.natAbs : Int)) * dpw xs.length := by congr 1; omega
          rw [Int.add_mul] at e2
          have e3 : (q.natAbs : Int) * dpw (xs.length + 1) = 1000000000 * (q.natAbs : Int) * dpw xs.length := by simp only [dpw]; rw [← Int.mul_assoc, Int.mul_comm (q.natAbs : Int)]
          have e4 : dpw xs.length * dval [(r.natAbs : Int)] = (r.natAbs : Int) * dpw xs.length := by simp [dval, Int.mul_comm]
          omega)
        have hqb : q.natAbs < 10000000000 := by omega
        have hlt : q.natAbs < mm.natAbs := by omega
        clear hq hr hqa hra hb0 hb1 hb2 hb3
        go_wp2_with (first | (go_at_call 131; refine (base_Size r _ (by omega) (by omega)).mono ?_; rintro _ _ ⟨rfl, rfl⟩) | (at_builtin; refine wpList_push rfl _ _ _ rfl elemInt W0.heap.size _ xs.length _ rfl _ hown [.int .i64 r.natAbs] rfl (by simp [Value.oneCell']) rfl _ rfl rfl (by omega) (by unfold maxLen; omega) hzw ?_; intro v1 w2 hown3 hbb3 _ _))
        go_roundw
        case rel =>
          have hqq := HQ.out
          refine ⟨q, xs ++ [(r.natAbs : Int)], rfl, by simp; omega, by simp, ?_, ?_, ?_, ?_, ?_, by (repeat (with_reducible first | exact Below.refl _ _ | assumption | refine Below.drewN _ ?_ | refine Below.drew ?_ | refine Below_alloc ?_ _ | refine Below.alloc ?_ (by first | (simp; done) | (simp; omega) | omega) _ | refine Below.setCell ?_ (by first | (simp; done) | (simp; omega) | omega) _ | refine Below_call ?_ (by assumption) | refine Below.trans ?_ (by assumption)))⟩
          · simp only [List.length_append, List.length_singleton]; intro h; have := hqq.2.1 (by omega); omega
          · simp only [List.length_append, List.length_singleton]; intro h; have := hqq.2.2.1 (by omega); omega
          · simp only [List.length_append, List.length_singleton]; intro h; have := hqq.2.2.2 (by omega); omega
          · rw [List.length_append, List.length_singleton]; exact HN
          · rw [List.map_append, List.length_append, List.length_singleton]; exact hown3
        case measure => simp [intOf]; omega

end Go.Proofs.Ytllddidjiabegaa

/- Wide numbers added, subtracted, compared. -/
set_option linter.unusedVariables false
set_option linter.unusedSimpArgs false
namespace Go.Proofs.Ytllddidjiabegaa
open Go.RowKit

theorem sg_zero {z : Int} : sg z = 0 ↔ z = 0 := by unfold sg; split; omega; split <;> omega
theorem sg_same {x y : Int} (hx : x ≠ 0) (h : sg x = sg y) : (x + y).natAbs = x.natAbs + y.natAbs ∧ sg (x + y) = sg x := by
  unfold sg at *
  split at h <;> split at h <;> (try split at h) <;> (try split at h) <;> (first | omega | (refine ⟨by omega, ?_⟩; split <;> (try split) <;> omega))
theorem sg_diff {x y : Int} (hx : x ≠ 0) (hy : y ≠ 0) (h : sg x ≠ sg y) (hlt : y.natAbs < x.natAbs) : (x + y).natAbs = x.natAbs - y.natAbs ∧ sg (x + y) = sg x := by
  unfold sg at *
  split at h <;> split at h <;> (try split at h) <;> (try split at h) <;> (first | omega | (refine ⟨by omega, ?_⟩; split <;> (try split) <;> omega))
theorem sg_opp {x y : Int} (hx : x ≠ 0) (h : sg x ≠ sg y) (he : x.natAbs = y.natAbs) : x + y = 0 := by
  unfold sg at *
  split at h <;> split at h <;> (try split at h) <;> (try split at h) <;> omega
theorem cmpN_lt {a b : Nat} (h : a < b) : cmpN a b = -1 := by unfold cmpN; rw [if_pos h]
theorem cmpN_eq {a b : Nat} (h : a = b) : cmpN a b = 0 := by unfold cmpN; rw [if_neg (by omega), if_pos h]
theorem cmpN_gt {a b : Nat} (h : b < a) : cmpN a b = 1 := by unfold cmpN; rw [if_neg (by omega), if_neg (by omega)]

theorem alloc3 (w : World) (a b c : Array Value) (t s r : TypeId) : ∀ W, W = ((w.alloc (.cells a t)).alloc (.cells b s)).alloc (.cells c r) →
    W.heap[w.heap.size]? = some (.cells a t (0, 0)) ∧ W.heap[w.heap.size + 1]? = some (.cells b s (0, 0)) ∧ W.heap[w.heap.size + 1 + 1]? = some (.cells c r (0, 0)) := by
  rintro W rfl
  refine ⟨?_, ?_, ?_⟩
  · rw [Below.heap_alloc _ _ _ (by simp; omega), Below.heap_alloc _ _ _ (by simp), heap_alloc_new]
  · rw [Below.heap_alloc _ _ _ (by simp)]
    have := heap_alloc_new (w.alloc (.cells a t)) (.cells b s)
    simpa using this
  · have := heap_alloc_new ((w.alloc (.cells a t)).alloc (.cells b s)) (.cells c r)
    simpa using this

set_option maxRecDepth 100000 in
set_option maxHeartbeats 1000000 in
theorem base_WideAdd (x y : Int) (u v : Value) (w : World) (N : Nat → Prop) (hN : ∀ b, w.heap.size ≤ b → N b) (hu : WideAt w u x N) (hv : WideAt w v y N) (hx : (dig x.natAbs).length ≤ 100000) (hy : (dig y.natAbs).length ≤ 100000) :
    Calls Try.prog 99 #[u, v] w (RetWide w (x + y) N) := by
  have HU := hid hu
  have HV := hid hv
  obtain ⟨ao, cap, rfl, gu⟩ := hu
  obtain ⟨bo, cap2, rfl, gv⟩ := hv
  have HGU := hid gu
  have HGV := hid gv
  obtain ⟨sx, hsx⟩ : ∃ sx, sx = sg x := ⟨_, rfl⟩
  obtain ⟨sy, hsy⟩ : ∃ sy, sy = sg y := ⟨_, rfl⟩
  obtain ⟨lx, hlx⟩ : ∃ lx, lx = (dig x.natAbs).length := ⟨_, rfl⟩
  obtain ⟨ly, hly⟩ : ∃ ly, ly = (dig y.natAbs).length := ⟨_, rfl⟩
  have HSX := hid hsx
  have HSY := hid hsy
  have hrx := sg_range x
  have hry := sg_range y
  rw [← hsx, ← hlx] at HU ⊢
  rw [← hsy, ← hly] at HV ⊢
  rw [← hlx] at HGU
  rw [← hly] at HGV
  rw [← hsx] at hrx
  rw [← hsy] at hry
  have HLX := hid (And.intro hlx hx)
  have HLY := hid (And.intro hly hy)
  have HNN := hid hN
  clear gu gv hx hy hN hsx hsy hlx hly
  obtain ⟨W, hW⟩ : ∃ W, W = ((w.alloc (.cells #[.int .i64 sx, .slice ao lx cap] 60)).alloc (.cells #[.int .i64 sy, .slice bo ly cap2] 60)).alloc (.cells #[.int .i64 0, .slice none 0 0] 60) := ⟨_, rfl⟩
  have hzW : W.heap.size = w.heap.size + 1 + 1 + 1 := by rw [hW]; simp
  have hBW : Below w.heap.size w W := by rw [hW]; (repeat (with_reducible first | exact Below.refl _ _ | assumption | refine Below.drewN _ ?_ | refine Below.drew ?_ | refine Below_alloc ?_ _ | refine Below.alloc ?_ (by first | (simp; done) | (simp; omega) | omega) _ | refine Below.setCell ?_ (by first | (simp; done) | (simp; omega) | omega) _ | refine Below_call ?_ (by assumption) | refine Below.trans ?_ (by assumption)))
  obtain ⟨q0, q1, q2⟩ := alloc3 w _ _ _ _ _ _ W hW
  have HWC := hid q2
  obtain ⟨a0, a1, fa0, fa1, hl0⟩ := two_cells q0
  obtain ⟨b0, b1, fb0, fb1, hl1⟩ := two_cells q1
  obtain ⟨c0, c1, f0, f1, hl2⟩ := two_cells q2
  clear q0 q1 q2
  have hNW : ∀ b, b < w.heap.size → b ≠ w.heap.size + 1 + 1 := fun b h => by omega
  have HNW := hid hNW
  have HIa : Hid (∀ W', Below w.heap.size w W' → IntsAt W' (.slice ao lx cap) (dig x.natAbs)) := hid (fun W' h => HGU.out.ints.below h)
  have HIb : Hid (∀ W', Below w.heap.size w W' → IntsAt W' (.slice bo ly cap2) (dig y.natAbs)) := hid (fun W' h => HGV.out.ints.below h)
  clear hNW
  by_cases hx0 : sx = 0
  · have HE : Hid (x + y = y) := hid (by have := sg_zero.1 (HSX.out.symm.trans hx0); omega)
    subst hx0
    go_enter Try.func99, Try.ntmps99
    go_wp2_with fail
    ((try simp only [Exit.inBlock, Exit.then]); refine bodyPost_ret (v := .agg #[.int .i64 sy, .slice bo ly cap2]) ?_ rfl ?_; (next => simp [results, Try.results99, go_sem]))
    rw [HE.out]
    exact ⟨_, rfl, HV.out.mono (by (repeat (with_reducible first | exact Below.refl _ _ | assumption | refine Below.drewN _ ?_ | refine Below.drew ?_ | refine Below_alloc ?_ _ | refine Below.alloc ?_ (by first | (simp; done) | (simp; omega) | omega) _ | refine Below.setCell ?_ (by first | (simp; done) | (simp; omega) | omega) _ | refine Below_call ?_ (by assumption) | refine Below.trans ?_ (by assumption)))) (fun b h h' => h'), by (repeat (with_reducible first | exact Below.refl _ _ | assumption | refine Below.drewN _ ?_ | refine Below.drew ?_ | refine Below_alloc ?_ _ | refine Below.alloc ?_ (by first | (simp; done) | (simp; omega) | omega) _ | refine Below.setCell ?_ (by first | (simp; done) | (simp; omega) | omega) _ | refine Below_call ?_ (by assumption) | refine Below.trans ?_ (by assumption)))⟩
  by_cases hy0 : sy = 0
  · have HE : Hid (x + y = x) := hid (by have := sg_zero.1 (HSY.out.symm.trans hy0); omega)
    subst hy0
    go_enter Try.func99, Try.ntmps99
    go_wp2_with fail
    ((try simp only [Exit.inBlock, Exit.then]); refine bodyPost_ret (v := .agg #[.int .i64 sx, .slice ao lx cap]) ?_ rfl ?_; (next => simp [results, Try.results99, go_sem]))
    rw [HE.out]
    exact ⟨_, rfl, HU.out.mono (by (repeat (with_reducible first | exact Below.refl _ _ | assumption | refine Below.drewN _ ?_ | refine Below.drew ?_ | refine Below_alloc ?_ _ | refine Below.alloc ?_ (by first | (simp; done) | (simp; omega) | omega) _ | refine Below.setCell ?_ (by first | (simp; done) | (simp; omega) | omega) _ | refine Below_call ?_ (by assumption) | refine Below.trans ?_ (by assumption)))) (fun b h h' => h'), by (repeat (with_reducible first | exact Below.refl _ _ | assumption | refine Below.drewN _ ?_ | refine Below.drew ?_ | refine Below_alloc ?_ _ | refine Below.alloc ?_ (by first | (simp; done) | (simp; omega) | omega) _ | refine Below.setCell ?_ (by first | (simp; done) | (simp; omega) | omega) _ | refine Below_call ?_ (by assumption) | refine Below.trans ?_ (by assumption)))⟩
  have hxn : x ≠ 0 := fun h => hx0 (HSX.out.trans (sg_zero.2 h))
  have hyn : y ≠ 0 := fun h => hy0 (HSY.out.trans (sg_zero.2 h))
  by_cases hs : sx = sy
  · have HSAME := hid (sg_same hxn (HSX.out.symm.trans (hs.trans HSY.out)))
    have HSX' := HSX
    subst hs
    clear hxn hyn
    go_enter Try.func99, Try.ntmps99
    go_wp2_with fail
    rw [← hW]
    clear hW
    refine wp_mixC (fun wc => Below (W.heap.size) W wc) 8 [.q [0, 1, 2, 3, 4, 5], .f [6, 7]] [.f [8]] (by kernel_rfl) (by kernel_rfl) ((Below.refl _ _).drew) ?_
    intro Q' hQ'
    (rw [wpMixC]; simp only [pick, List.drop_succ_cons, List.drop_zero, List.head?_cons, Option.toList_some, List.cons_append, List.nil_append])
    (repeat (first | go_big_quiet_skip | (go_big_quiet_want; refine quiet_simple rfl ?_; go_big_quiet_op; go_big_quiet_on) | (go_big_quiet_want; refine quiet_cellB (ty := 3) rfl rfl (by kernel_rfl) (by assumption) (by first | omega | (simp; omega)) ?_; simp only [Act.put, List.setIfInBounds_toArray, List.set_cons_succ, List.set_cons_zero]; go_big_quiet_on) | (go_big_quiet_want; refine quiet_cellB (ty := 33) rfl rfl (by kernel_rfl) (by assumption) (by first | omega | (simp; omega)) ?_; simp only [Act.put, List.setIfInBounds_toArray, List.set_cons_succ, List.set_cons_zero]; go_big_quiet_on)))
    (try refine wpQuiet_nil ?_)
    (rw [wpMixC]; simp only [pick, List.drop_succ_cons, List.drop_zero, List.head?_cons, Option.toList_some, List.cons_append, List.nil_append])
    (rw [wpSteps]; go_wp2_with ((first | (go_at_call 138; refine (base_addDigits _ _ _ _ _ (HIa.out _ (by (repeat (with_reducible first | exact Below.refl _ _ | assumption | refine Below.drewN _ ?_ | refine Below.drew ?_ | refine Below_alloc ?_ _ | refine Below.alloc ?_ (by first | (simp; done) | (simp; omega) | omega) _ | refine Below.setCell ?_ (by first | (simp; done) | (simp; omega) | omega) _ | refine Below_call ?_ (by assumption) | refine Below.trans ?_ (by assumption))))) (HIb.out _ (by (repeat (with_reducible first | exact Below.refl _ _ | assumption | refine Below.drewN _ ?_ | refine Below.drew ?_ | refine Below_alloc ?_ _ | refine Below.alloc ?_ (by first | (simp; done) | (simp; omega) | omega) _ | refine Below.setCell ?_ (by first | (simp; done) | (simp; omega) | omega) _ | refine Below_call ?_ (by assumption) | refine Below.trans ?_ (by assumption))))) (isD_dig _) (isD_dig _) 100000 (by omega) HLX.out.2 HLY.out.2).mono ?_; rintro _ w1 ⟨r, rfl, xs, hdx, hisd, hval, hlen, hb1⟩; obtain ⟨ro, rc, rfl⟩ := hdx.shape; have HDX := hid (And.intro hdx (And.intro hisd (And.intro hval hlen))); have HB1 := hid hb1; have hzw1 := hb1.size; clear hdx hisd hval hlen) | (go_at_call 133; refine (base_wideOf _ _ _ _ _ (HDX.out.1.ints.below (by (repeat (with_reducible first | exact Below.refl _ _ | assumption | refine Below.drewN _ ?_ | refine Below.drew ?_ | refine Below_alloc ?_ _ | refine Below.alloc ?_ (by first | (simp; done) | (simp; omega) | omega) _ | refine Below.setCell ?_ (by first | (simp; done) | (simp; omega) | omega) _ | refine Below_call ?_ (by assumption) | refine Below.trans ?_ (by assumption))))) HDX.out.2.1).mono ?_; rintro _ w2 ⟨rfl, hb2⟩; have HB2 := hid hb2; obtain ⟨e0, e1, p0, p1, hlt1⟩ := two_cells ((hb2.block (w.heap.size + 1 + 1) (by first | omega | exact hl2 | exact hm2 | exact Nat.lt_of_lt_of_le hl2 hzw1 | exact Nat.lt_of_lt_of_le hm2 hzw1)).trans ((HB1.out.block (w.heap.size + 1 + 1) (by first | omega | exact hl2 | exact hm2 | exact Nat.lt_of_lt_of_le hl2 hzw1 | exact Nat.lt_of_lt_of_le hm2 hzw1)).trans HWC.out))))); rw [contF]; refine ⟨?_, ?_⟩; (next => (repeat (with_reducible first | exact Below.refl _ _ | assumption | refine Below.drewN _ ?_ | refine Below.drew ?_ | refine Below_alloc ?_ _ | refine Below.alloc ?_ (by first | (simp; done) | (simp; omega) | omega) _ | refine Below.setCell ?_ (by first | (simp; done) | (simp; omega) | omega) _ | refine Below_call ?_ (by assumption) | refine Below.trans ?_ (by assumption)))))
    (rw [wpSteps]; go_wp2_with ((first | (go_at_call 138; refine (base_addDigits _ _ _ _ _ (HIa.out _ (by (repeat (with_reducible first | exact Below.refl _ _ | assumption | refine Below.drewN _ ?_ | refine Below.drew ?_ | refine Below_alloc ?_ _ | refine Below.alloc ?_ (by first | (simp; done) | (simp; omega) | omega) _ | refine Below.setCell ?_ (by first | (simp; done) | (simp; omega) | omega) _ | refine Below_call ?_ (by assumption) | refine Below.trans ?_ (by assumption))))) (HIb.out _ (by (repeat (with_reducible first | exact Below.refl _ _ | assumption | refine Below.drewN _ ?_ | refine Below.drew ?_ | refine Below_alloc ?_ _ | refine Below.alloc ?_ (by first | (simp; done) | (simp; omega) | omega) _ | refine Below.setCell ?_ (by first | (simp; done) | (simp; omega) | omega) _ | refine Below_call ?_ (by assumption) | refine Below.trans ?_ (by assumption))))) (isD_dig _) (isD_dig _) 100000 (by omega) HLX.out.2 HLY.out.2).mono ?_; rintro _ w1 ⟨r, rfl, xs, hdx, hisd, hval, hlen, hb1⟩; obtain ⟨ro, rc, rfl⟩ := hdx.shape; have HDX := hid (And.intro hdx (And.intro hisd (And.intro hval hlen))); have HB1 := hid hb1; have hzw1 := hb1.size; clear hdx hisd hval hlen) | (go_at_call 133; refine (base_wideOf _ _ _ _ _ (HDX.out.1.ints.below (by (repeat (with_reducible first | exact Below.refl _ _ | assumption | refine Below.drewN _ ?_ | refine Below.drew ?_ | refine Below_alloc ?_ _ | refine Below.alloc ?_ (by first | (simp; done) | (simp; omega) | omega) _ | refine Below.setCell ?_ (by first | (simp; done) | (simp; omega) | omega) _ | refine Below_call ?_ (by assumption) | refine Below.trans ?_ (by assumption))))) HDX.out.2.1).mono ?_; rintro _ w2 ⟨rfl, hb2⟩; have HB2 := hid hb2; obtain ⟨e0, e1, p0, p1, hlt1⟩ := two_cells ((hb2.block (w.heap.size + 1 + 1) (by first | omega | exact hl2 | exact hm2 | exact Nat.lt_of_lt_of_le hl2 hzw1 | exact Nat.lt_of_lt_of_le hm2 hzw1)).trans ((HB1.out.block (w.heap.size + 1 + 1) (by first | omega | exact hl2 | exact hm2 | exact Nat.lt_of_lt_of_le hl2 hzw1 | exact Nat.lt_of_lt_of_le hm2 hzw1)).trans HWC.out))))); rw [contF]; refine ⟨?_, ?_⟩; (next => (repeat (with_reducible first | exact Below.refl _ _ | assumption | refine Below.drewN _ ?_ | refine Below.drew ?_ | refine Below_alloc ?_ _ | refine Below.alloc ?_ (by first | (simp; done) | (simp; omega) | omega) _ | refine Below.setCell ?_ (by first | (simp; done) | (simp; omega) | omega) _ | refine Below_call ?_ (by assumption) | refine Below.trans ?_ (by assumption)))))
    (rw [wpSteps])
    (rw [wpMixC])
    (rw [wpMix]; simp only [pick, List.drop_succ_cons, List.drop_zero, List.head?_cons, Option.toList_some, List.cons_append, List.nil_append])
    (go_wp2_with ((first | (go_at_call 138; refine (base_addDigits _ _ _ _ _ (HIa.out _ (by (repeat (with_reducible first | exact Below.refl _ _ | assumption | refine Below.drewN _ ?_ | refine Below.drew ?_ | refine Below_alloc ?_ _ | refine Below.alloc ?_ (by first | (simp; done) | (simp; omega) | omega) _ | refine Below.setCell ?_ (by first | (simp; done) | (simp; omega) | omega) _ | refine Below_call ?_ (by assumption) | refine Below.trans ?_ (by assumption))))) (HIb.out _ (by (repeat (with_reducible first | exact Below.refl _ _ | assumption | refine Below.drewN _ ?_ | refine Below.drew ?_ | refine Below_alloc ?_ _ | refine Below.alloc ?_ (by first | (simp; done) | (simp; omega) | omega) _ | refine Below.setCell ?_ (by first | (simp; done) | (simp; omega) | omega) _ | refine Below_call ?_ (by assumption) | refine Below.trans ?_ (by assumption))))) (isD_dig _) (isD_dig _) 100000 (by omega) HLX.out.2 HLY.out.2).mono ?_; rintro _ w1 ⟨r, rfl, xs, hdx, hisd, hval, hlen, hb1⟩; obtain ⟨ro, rc, rfl⟩ := hdx.shape; have HDX := hid (And.intro hdx (And.intro hisd (And.intro hval hlen))); have HB1 := hid hb1; have hzw1 := hb1.size; clear hdx hisd hval hlen) | (go_at_call 133; refine (base_wideOf _ _ _ _ _ (HDX.out.1.ints.below (by (repeat (with_reducible first | exact Below.refl _ _ | assumption | refine Below.drewN _ ?_ | refine Below.drew ?_ | refine Below_alloc ?_ _ | refine Below.alloc ?_ (by first | (simp; done) | (simp; omega) | omega) _ | refine Below.setCell ?_ (by first | (simp; done) | (simp; omega) | omega) _ | refine Below_call ?_ (by assumption) | refine Below.trans ?_ (by assumption))))) HDX.out.2.1).mono ?_; rintro _ w2 ⟨rfl, hb2⟩; have HB2 := hid hb2; obtain ⟨e0, e1, p0, p1, hlt1⟩ := two_cells ((hb2.block (w.heap.size + 1 + 1) (by first | omega | exact hl2 | exact hm2 | exact Nat.lt_of_lt_of_le hl2 hzw1 | exact Nat.lt_of_lt_of_le hm2 hzw1)).trans ((HB1.out.block (w.heap.size + 1 + 1) (by first | omega | exact hl2 | exact hm2 | exact Nat.lt_of_lt_of_le hl2 hzw1 | exact Nat.lt_of_lt_of_le hm2 hzw1)).trans HWC.out))))); rw [contF])
    (rw [wpMix])
    (refine hQ' _ _ ?_)
    go_wp2_with fail
    ((try simp only [Exit.inBlock, Exit.then]); refine bodyPost_ret (v := .agg #[.int .i64 (sg0 (dval xs) sx), .slice ro (tri xs).length rc]) ?_ rfl ?_; (next => simp [results, Try.results99, go_sem, hlt1, e0, e1]))
    have hd := HDX.out
    have hsm := HSAME.out
    exact ⟨_, rfl, wide_fin hd.2.1 (by rw [hd.2.2.1, dval_dig, dval_dig, hsm.1]; push_cast; rfl) (fun _ => HSX.out.trans hsm.2.symm) hd.1 HB2.out (fun b h => ⟨by have : W.heap.size ≤ b := h; omega, HNN.out b (by have : W.heap.size ≤ b := h; omega)⟩) _ _, by (repeat (with_reducible first | exact Below.refl _ _ | assumption | refine Below.drewN _ ?_ | refine Below.drew ?_ | refine Below_alloc ?_ _ | refine Below.alloc ?_ (by first | (simp; done) | (simp; omega) | omega) _ | refine Below.setCell ?_ (by first | (simp; done) | (simp; omega) | omega) _ | refine Below_call ?_ (by assumption) | refine Below.trans ?_ (by assumption)))⟩
  have HNE : Hid (sg x ≠ sg y) := hid (by rw [← HSX.out, ← HSY.out]; exact hs)
  have HXN := hid hxn
  have HYN := hid hyn
  obtain ⟨C, hC⟩ : ∃ C, C = cmpN x.natAbs y.natAbs := ⟨_, rfl⟩
  have HCC := hid hC
  have HCMP : Hid (∀ W', Below w.heap.size w W' → Calls Try.prog 139 #[.slice ao lx cap, .slice bo ly cap2] W' fun e w' => e = .returned (.int .i64 C) ∧ Below W'.heap.size W' w') := hid (fun W' h => by
    have h1 := HIa.out W' h
    have h2 := HIb.out W' h
    rw [hC]
    exact base_cmpDigits x.natAbs y.natAbs _ _ W' h1 h2)
  clear hxn hyn hC
  have hcase : (x.natAbs = y.natAbs ∧ C = 0) ∨ (y.natAbs < x.natAbs ∧ C = 1) ∨ (x.natAbs < y.natAbs ∧ C = -1) := by
    rcases Nat.lt_trichotomy x.natAbs y.natAbs with h | h | h
    · exact Or.inr (Or.inr ⟨h, HCC.out.trans (cmpN_lt h)⟩)
    · exact Or.inl ⟨h, HCC.out.trans (cmpN_eq h)⟩
    · exact Or.inr (Or.inl ⟨h, HCC.out.trans (cmpN_gt h)⟩)
  rcases hcase with ⟨hcmp, rfl⟩ | ⟨hcmp, rfl⟩ | ⟨hcmp, rfl⟩
  · have HZ : Hid (x + y = 0) := hid (sg_opp HXN.out HNE.out hcmp)
    clear hcmp
    go_enter Try.func99, Try.ntmps99
    go_wp2_with (rw [← hW]; go_at_call 139; refine (HCMP.out _ (by (repeat (with_reducible first | exact Below.refl _ _ | assumption | refine Below.drewN _ ?_ | refine Below.drew ?_ | refine Below_alloc ?_ _ | refine Below.alloc ?_ (by first | (simp; done) | (simp; omega) | omega) _ | refine Below.setCell ?_ (by first | (simp; done) | (simp; omega) | omega) _ | refine Below_call ?_ (by assumption) | refine Below.trans ?_ (by assumption))))).mono ?_; rintro _ W2 ⟨rfl, hbc⟩; have HBC := hid hbc; obtain ⟨e0, e1, p0, p1, hlt1⟩ := two_cells ((hbc.block (w.heap.size + 1 + 1) (by omega)).trans HWC.out))
    ((try simp only [Exit.inBlock, Exit.then]); refine bodyPost_ret (v := .agg #[.int .i64 0, .slice none 0 0]) ?_ rfl ?_; (next => simp [results, Try.results99, go_sem, hlt1, e0, e1]))
    rw [HZ.out]
    refine ⟨_, rfl, ⟨none, 0, by simp [sg, dig_zero], ?_⟩, by (repeat (with_reducible first | exact Below.refl _ _ | assumption | refine Below.drewN _ ?_ | refine Below.drew ?_ | refine Below_alloc ?_ _ | refine Below.alloc ?_ (by first | (simp; done) | (simp; omega) | omega) _ | refine Below.setCell ?_ (by first | (simp; done) | (simp; omega) | omega) _ | refine Below_call ?_ (by assumption) | refine Below.trans ?_ (by assumption)))⟩
    exact ⟨none, 0, by simp [dig_zero], by simp [dig_zero], by simp, fun h => by simp [dig_zero] at h, fun _ => rfl⟩
  · have HD := hid (sg_diff HXN.out HYN.out HNE.out hcmp)
    have HCMPL := hid hcmp
    clear hcmp
    go_enter Try.func99, Try.ntmps99
    go_wp2_with (rw [← hW]; go_at_call 139; refine (HCMP.out _ (by (repeat (with_reducible first | exact Below.refl _ _ | assumption | refine Below.drewN _ ?_ | refine Below.drew ?_ | refine Below_alloc ?_ _ | refine Below.alloc ?_ (by first | (simp; done) | (simp; omega) | omega) _ | refine Below.setCell ?_ (by first | (simp; done) | (simp; omega) | omega) _ | refine Below_call ?_ (by assumption) | refine Below.trans ?_ (by assumption))))).mono ?_; rintro _ W2 ⟨rfl, hbc⟩; have HBC := hid hbc; have hzc := hbc.size)
    have HWC2 := hid (show W2.heap[w.heap.size + 1 + 1]? = _ from (HBC.out.block (w.heap.size + 1 + 1) (by omega)).trans HWC.out)
    obtain ⟨hcc, _⟩ := bcell HBC.out
    rw [← hcc w.heap.size _ (by omega)] at a0 a1
    rw [← hcc (w.heap.size + 1) _ (by omega)] at b0 b1
    have hm0 : w.heap.size < W2.heap.size := by omega
    have hm1 : w.heap.size + 1 < W2.heap.size := by omega
    have hm2 : w.heap.size + 1 + 1 < W2.heap.size := by omega
    refine wp_mixC (fun wc => Below (W2.heap.size) W2 wc) 8 [.q [0, 1, 2, 3, 4, 5], .f [6, 7]] [.f [8]] (by kernel_rfl) (by kernel_rfl) ((Below.refl _ _).drew) ?_
    intro Q' hQ'
    (rw [wpMixC]; simp only [pick, List.drop_succ_cons, List.drop_zero, List.head?_cons, Option.toList_some, List.cons_append, List.nil_append])
    (repeat (first | go_big_quiet_skip | (go_big_quiet_want; refine quiet_simple rfl ?_; go_big_quiet_op; go_big_quiet_on) | (go_big_quiet_want; refine quiet_cellB (ty := 3) rfl rfl (by kernel_rfl) (by assumption) (by first | omega | (simp; omega)) ?_; simp only [Act.put, List.setIfInBounds_toArray, List.set_cons_succ, List.set_cons_zero]; go_big_quiet_on) | (go_big_quiet_want; refine quiet_cellB (ty := 33) rfl rfl (by kernel_rfl) (by assumption) (by first | omega | (simp; omega)) ?_; simp only [Act.put, List.setIfInBounds_toArray, List.set_cons_succ, List.set_cons_zero]; go_big_quiet_on)))
    (try refine wpQuiet_nil ?_)
    (rw [wpMixC]; simp only [pick, List.drop_succ_cons, List.drop_zero, List.head?_cons, Option.toList_some, List.cons_append, List.nil_append])
    (rw [wpSteps]; go_wp2_with ((first | (go_at_call 140; refine (base_subDigits x.natAbs y.natAbs _ _ _ (HIa.out _ (by (repeat (with_reducible first | exact Below.refl _ _ | assumption | refine Below.drewN _ ?_ | refine Below.drew ?_ | refine Below_alloc ?_ _ | refine Below.alloc ?_ (by first | (simp; done) | (simp; omega) | omega) _ | refine Below.setCell ?_ (by first | (simp; done) | (simp; omega) | omega) _ | refine Below_call ?_ (by assumption) | refine Below.trans ?_ (by assumption))))) (HIb.out _ (by (repeat (with_reducible first | exact Below.refl _ _ | assumption | refine Below.drewN _ ?_ | refine Below.drew ?_ | refine Below_alloc ?_ _ | refine Below.alloc ?_ (by first | (simp; done) | (simp; omega) | omega) _ | refine Below.setCell ?_ (by first | (simp; done) | (simp; omega) | omega) _ | refine Below_call ?_ (by assumption) | refine Below.trans ?_ (by assumption))))) (Nat.le_of_lt HCMPL.out) (by have := HLX.out.2; omega)).mono ?_; rintro _ w1 ⟨r, rfl, hdx, hb1⟩; obtain ⟨ro, rc, rfl⟩ := hdx.shape; have HDX := hid hdx; have HB1 := hid hb1; have hzw1 := hb1.size; clear hdx) | (go_at_call 133; refine (base_wideOf _ _ _ _ _ (HDX.out.ints.below (by (repeat (with_reducible first | exact Below.refl _ _ | assumption | refine Below.drewN _ ?_ | refine Below.drew ?_ | refine Below_alloc ?_ _ | refine Below.alloc ?_ (by first | (simp; done) | (simp; omega) | omega) _ | refine Below.setCell ?_ (by first | (simp; done) | (simp; omega) | omega) _ | refine Below_call ?_ (by assumption) | refine Below.trans ?_ (by assumption))))) (isD_dig _)).mono ?_; rintro _ w2 ⟨rfl, hb2⟩; have HB2 := hid hb2; obtain ⟨e0, e1, p0, p1, hlt1⟩ := two_cells ((hb2.block (w.heap.size + 1 + 1) (by first | omega | exact hl2 | exact hm2 | exact Nat.lt_of_lt_of_le hl2 hzw1 | exact Nat.lt_of_lt_of_le hm2 hzw1)).trans ((HB1.out.block (w.heap.size + 1 + 1) (by first | omega | exact hl2 | exact hm2 | exact Nat.lt_of_lt_of_le hl2 hzw1 | exact Nat.lt_of_lt_of_le hm2 hzw1)).trans HWC2.out))))); rw [contF]; refine ⟨?_, ?_⟩; (next => (repeat (with_reducible first | exact Below.refl _ _ | assumption | refine Below.drewN _ ?_ | refine Below.drew ?_ | refine Below_alloc ?_ _ | refine Below.alloc ?_ (by first | (simp; done) | (simp; omega) | omega) _ | refine Below.setCell ?_ (by first | (simp; done) | (simp; omega) | omega) _ | refine Below_call ?_ (by assumption) | refine Below.trans ?_ (by assumption)))))
    (rw [wpSteps]; go_wp2_with ((first | (go_at_call 140; refine (base_subDigits x.natAbs y.natAbs _ _ _ (HIa.out _ (by (repeat (with_reducible first | exact Below.refl _ _ | assumption | refine Below.drewN _ ?_ | refine Below.drew ?_ | refine Below_alloc ?_ _ | refine Below.alloc ?_ (by first | (simp; done) | (simp; omega) | omega) _ | refine Below.setCell ?_ (by first | (simp; done) | (simp; omega) | omega) _ | refine Below_call ?_ (by assumption) | refine Below.trans ?_ (by assumption))))) (HIb.out _ (by (repeat (with_reducible first | exact Below.refl _ _ | assumption | refine Below.drewN _ ?_ | refine Below.drew ?_ | refine Below_alloc ?_ _ | refine Below.alloc ?_ (by first | (simp; done) | (simp; omega) | omega) _ | refine Below.setCell ?_ (by first | (simp; done) | (simp; omega) | omega) _ | refine Below_call ?_ (by assumption) | refine Below.trans ?_ (by assumption))))) (Nat.le_of_lt HCMPL.out) (by have := HLX.out.2; omega)).mono ?_; rintro _ w1 ⟨r, rfl, hdx, hb1⟩; obtain ⟨ro, rc, rfl⟩ := hdx.shape; have HDX := hid hdx; have HB1 := hid hb1; have hzw1 := hb1.size; clear hdx) | (go_at_call 133; refine (base_wideOf _ _ _ _ _ (HDX.out.ints.below (by (repeat (with_reducible first | exact Below.refl _ _ | assumption | refine Below.drewN _ ?_ | refine Below.drew ?_ | refine Below_alloc ?_ _ | refine Below.alloc ?_ (by first | (simp; done) | (simp; omega) | omega) _ | refine Below.setCell ?_ (by first | (simp; done) | (simp; omega) | omega) _ | refine Below_call ?_ (by assumption) | refine Below.trans ?_ (by assumption))))) (isD_dig _)).mono ?_; rintro _ w2 ⟨rfl, hb2⟩; have HB2 := hid hb2; obtain ⟨e0, e1, p0, p1, hlt1⟩ := two_cells ((hb2.block (w.heap.size + 1 + 1) (by first | omega | exact hl2 | exact hm2 | exact Nat.lt_of_lt_of_le hl2 hzw1 | exact Nat.lt_of_lt_of_le hm2 hzw1)).trans ((HB1.out.block (w.heap.size + 1 + 1) (by first | omega | exact hl2 | exact hm2 | exact Nat.lt_of_lt_of_le hl2 hzw1 | exact Nat.lt_of_lt_of_le hm2 hzw1)).trans HWC2.out))))); rw [contF]; refine ⟨?_, ?_⟩; (next => (repeat (with_reducible first | exact Below.refl _ _ | assumption | refine Below.drewN _ ?_ | refine Below.drew ?_ | refine Below_alloc ?_ _ | refine Below.alloc ?_ (by first | (simp; done) | (simp; omega) | omega) _ | refine Below.setCell ?_ (by first | (simp; done) | (simp; omega) | omega) _ | refine Below_call ?_ (by assumption) | refine Below.trans ?_ (by assumption)))))
    (rw [wpSteps])
    (rw [wpMixC])
    (rw [wpMix]; simp only [pick, List.drop_succ_cons, List.drop_zero, List.head?_cons, Option.toList_some, List.cons_append, List.nil_append])
    (go_wp2_with ((first | (go_at_call 140; refine (base_subDigits x.natAbs y.natAbs _ _ _ (HIa.out _ (by (repeat (with_reducible first | exact Below.refl _ _ | assumption | refine Below.drewN _ ?_ | refine Below.drew ?_ | refine Below_alloc ?_ _ | refine Below.alloc ?_ (by first | (simp; done) | (simp; omega) | omega) _ | refine Below.setCell ?_ (by first | (simp; done) | (simp; omega) | omega) _ | refine Below_call ?_ (by assumption) | refine Below.trans ?_ (by assumption))))) (HIb.out _ (by (repeat (with_reducible first | exact Below.refl _ _ | assumption | refine Below.drewN _ ?_ | refine Below.drew ?_ | refine Below_alloc ?_ _ | refine Below.alloc ?_ (by first | (simp; done) | (simp; omega) | omega) _ | refine Below.setCell ?_ (by first | (simp; done) | (simp; omega) | omega) _ | refine Below_call ?_ (by assumption) | refine Below.trans ?_ (by assumption))))) (Nat.le_of_lt HCMPL.out) (by have := HLX.out.2; omega)).mono ?_; rintro _ w1 ⟨r, rfl, hdx, hb1⟩; obtain ⟨ro, rc, rfl⟩ := hdx.shape; have HDX := hid hdx; have HB1 := hid hb1; have hzw1 := hb1.size; clear hdx) | (go_at_call 133; refine (base_wideOf _ _ _ _ _ (HDX.out.ints.below (by (repeat (with_reducible first | exact Below.refl _ _ | assumption | refine Below.drewN _ ?_ | refine Below.drew ?_ | refine Below_alloc ?_ _ | refine Below.alloc ?_ (by first | (simp; done) | (simp; omega) | omega) _ | refine Below.setCell ?_ (by first | (simp; done) | (simp; omega) | omega) _ | refine Below_call ?_ (by assumption) | refine Below.trans ?_ (by assumption))))) (isD_dig _)).mono ?_; rintro _ w2 ⟨rfl, hb2⟩; have HB2 := hid hb2; obtain ⟨e0, e1, p0, p1, hlt1⟩ := two_cells ((hb2.block (w.heap.size + 1 + 1) (by first | omega | exact hl2 | exact hm2 | exact Nat.lt_of_lt_of_le hl2 hzw1 | exact Nat.lt_of_lt_of_le hm2 hzw1)).trans ((HB1.out.block (w.heap.size + 1 + 1) (by first | omega | exact hl2 | exact hm2 | exact Nat.lt_of_lt_of_le hl2 hzw1 | exact Nat.lt_of_lt_of_le hm2 hzw1)).trans HWC2.out))))); rw [contF])
    (rw [wpMix])
    (refine hQ' _ _ ?_)
    go_wp2_with fail
    ((try simp only [Exit.inBlock, Exit.then]); refine bodyPost_ret (v := .agg #[.int .i64 (sg0 (dval (dig (x.natAbs - y.natAbs))) sx), .slice ro (tri (dig (x.natAbs - y.natAbs))).length rc]) ?_ rfl ?_; (next => simp [results, Try.results99, go_sem, hlt1, e0, e1]))
    have hd := HD.out
    exact ⟨_, rfl, wide_fin (isD_dig _) (by rw [dval_dig, hd.1]) (fun _ => HSX.out.trans hd.2.symm) HDX.out HB2.out (fun b h => ⟨by have : W2.heap.size ≤ b := h; omega, HNN.out b (by have : W2.heap.size ≤ b := h; omega)⟩) _ _, by (repeat (with_reducible first | exact Below.refl _ _ | assumption | refine Below.drewN _ ?_ | refine Below.drew ?_ | refine Below_alloc ?_ _ | refine Below.alloc ?_ (by first | (simp; done) | (simp; omega) | omega) _ | refine Below.setCell ?_ (by first | (simp; done) | (simp; omega) | omega) _ | refine Below_call ?_ (by assumption) | refine Below.trans ?_ (by assumption)))⟩
  · have HD := hid (sg_diff HYN.out HXN.out (fun h => HNE.out h.symm) hcmp)
    have HCMPL := hid hcmp
    clear hcmp
    go_enter Try.func99, Try.ntmps99
    go_wp2_with (rw [← hW]; go_at_call 139; refine (HCMP.out _ (by (repeat (with_reducible first | exact Below.refl _ _ | assumption | refine Below.drewN _ ?_ | refine Below.drew ?_ | refine Below_alloc ?_ _ | refine Below.alloc ?_ (by first | (simp; done) | (simp; omega) | omega) _ | refine Below.setCell ?_ (by first | (simp; done) | (simp; omega) | omega) _ | refine Below_call ?_ (by assumption) | refine Below.trans ?_ (by assumption))))).mono ?_; rintro _ W2 ⟨rfl, hbc⟩; have HBC := hid hbc; have hzc := hbc.size)
    have HWC2 := hid (show W2.heap[w.heap.size + 1 + 1]? = _ from (HBC.out.block (w.heap.size + 1 + 1) (by omega)).trans HWC.out)
    obtain ⟨hcc, _⟩ := bcell HBC.out
    rw [← hcc w.heap.size _ (by omega)] at a0 a1
    rw [← hcc (w.heap.size + 1) _ (by omega)] at b0 b1
    have hm0 : w.heap.size < W2.heap.size := by omega
    have hm1 : w.heap.size + 1 < W2.heap.size := by omega
    have hm2 : w.heap.size + 1 + 1 < W2.heap.size := by omega
    refine wp_mixC (fun wc => Below (W2.heap.size) W2 wc) 8 [.q [0, 1, 2, 3, 4, 5], .f [6, 7]] [.f [8]] (by kernel_rfl) (by kernel_rfl) ((Below.refl _ _).drew) ?_
    intro Q' hQ'
    (rw [wpMixC]; simp only [pick, List.drop_succ_cons, List.drop_zero, List.head?_cons, Option.toList_some, List.cons_append, List.nil_append])
    (repeat (first | go_big_quiet_skip | (go_big_quiet_want; refine quiet_simple rfl ?_; go_big_quiet_op; go_big_quiet_on) | (go_big_quiet_want; refine quiet_cellB (ty := 3) rfl rfl (by kernel_rfl) (by assumption) (by first | omega | (simp; omega)) ?_; simp only [Act.put, List.setIfInBounds_toArray, List.set_cons_succ, List.set_cons_zero]; go_big_quiet_on) | (go_big_quiet_want; refine quiet_cellB (ty := 33) rfl rfl (by kernel_rfl) (by assumption) (by first | omega | (simp; omega)) ?_; simp only [Act.put, List.setIfInBounds_toArray, List.set_cons_succ, List.set_cons_zero]; go_big_quiet_on)))
    (try refine wpQuiet_nil ?_)
    (rw [wpMixC]; simp only [pick, List.drop_succ_cons, List.drop_zero, List.head?_cons, Option.toList_some, List.cons_append, List.nil_append])
    (rw [wpSteps]; go_wp2_with ((first | (go_at_call 140; refine (base_subDigits y.natAbs x.natAbs _ _ _ (HIb.out _ (by (repeat (with_reducible first | exact Below.refl _ _ | assumption | refine Below.drewN _ ?_ | refine Below.drew ?_ | refine Below_alloc ?_ _ | refine Below.alloc ?_ (by first | (simp; done) | (simp; omega) | omega) _ | refine Below.setCell ?_ (by first | (simp; done) | (simp; omega) | omega) _ | refine Below_call ?_ (by assumption) | refine Below.trans ?_ (by assumption))))) (HIa.out _ (by (repeat (with_reducible first | exact Below.refl _ _ | assumption | refine Below.drewN _ ?_ | refine Below.drew ?_ | refine Below_alloc ?_ _ | refine Below.alloc ?_ (by first | (simp; done) | (simp; omega) | omega) _ | refine Below.setCell ?_ (by first | (simp; done) | (simp; omega) | omega) _ | refine Below_call ?_ (by assumption) | refine Below.trans ?_ (by assumption))))) (Nat.le_of_lt HCMPL.out) (by have := HLY.out.2; omega)).mono ?_; rintro _ w1 ⟨r, rfl, hdx, hb1⟩; obtain ⟨ro, rc, rfl⟩ := hdx.shape; have HDX := hid hdx; have HB1 := hid hb1; have hzw1 := hb1.size; clear hdx) | (go_at_call 133; refine (base_wideOf _ _ _ _ _ (HDX.out.ints.below (by (repeat (with_reducible first | exact Below.refl _ _ | assumption | refine Below.drewN _ ?_ | refine Below.drew ?_ | refine Below_alloc ?_ _ | refine Below.alloc ?_ (by first | (simp; done) | (simp; omega) | omega) _ | refine Below.setCell ?_ (by first | (simp; done) | (simp; omega) | omega) _ | refine Below_call ?_ (by assumption) | refine Below.trans ?_ (by assumption))))) (isD_dig _)).mono ?_; rintro _ w2 ⟨rfl, hb2⟩; have HB2 := hid hb2; obtain ⟨e0, e1, p0, p1, hlt1⟩ := two_cells ((hb2.block (w.heap.size + 1 + 1) (by first | omega | exact hl2 | exact hm2 | exact Nat.lt_of_lt_of_le hl2 hzw1 | exact Nat.lt_of_lt_of_le hm2 hzw1)).trans ((HB1.out.block (w.heap.size + 1 + 1) (by first | omega | exact hl2 | exact hm2 | exact Nat.lt_of_lt_of_le hl2 hzw1 | exact Nat.lt_of_lt_of_le hm2 hzw1)).trans HWC2.out))))); rw [contF]; refine ⟨?_, ?_⟩; (next => (repeat (with_reducible first | exact Below.refl _ _ | assumption | refine Below.drewN _ ?_ | refine Below.drew ?_ | refine Below_alloc ?_ _ | refine Below.alloc ?_ (by first | (simp; done) | (simp; omega) | omega) _ | refine Below.setCell ?_ (by first | (simp; done) | (simp; omega) | omega) _ | refine Below_call ?_ (by assumption) | refine Below.trans ?_ (by assumption)))))
    (rw [wpSteps]; go_wp2_with ((first | (go_at_call 140; refine (base_subDigits y.natAbs x.natAbs _ _ _ (HIb.out _ (by (repeat (with_reducible first | exact Below.refl _ _ | assumption | refine Below.drewN _ ?_ | refine Below.drew ?_ | refine Below_alloc ?_ _ | refine Below.alloc ?_ (by first | (simp; done) | (simp; omega) | omega) _ | refine Below.setCell ?_ (by first | (simp; done) | (simp; omega) | omega) _ | refine Below_call ?_ (by assumption) | refine Below.trans ?_ (by assumption))))) (HIa.out _ (by (repeat (with_reducible first | exact Below.refl _ _ | assumption | refine Below.drewN _ ?_ | refine Below.drew ?_ | refine Below_alloc ?_ _ | refine Below.alloc ?_ (by first | (simp; done) | (simp; omega) | omega) _ | refine Below.setCell ?_ (by first | (simp; done) | (simp; omega) | omega) _ | refine Below_call ?_ (by assumption) | refine Below.trans ?_ (by assumption))))) (Nat.le_of_lt HCMPL.out) (by have := HLY.out.2; omega)).mono ?_; rintro _ w1 ⟨r, rfl, hdx, hb1⟩; obtain ⟨ro, rc, rfl⟩ := hdx.shape; have HDX := hid hdx; have HB1 := hid hb1; have hzw1 := hb1.size; clear hdx) | (go_at_call 133; refine (base_wideOf _ _ _ _ _ (HDX.out.ints.below (by (repeat (with_reducible first | exact Below.refl _ _ | assumption | refine Below.drewN _ ?_ | refine Below.drew ?_ | refine Below_alloc ?_ _ | refine Below.alloc ?_ (by first | (simp; done) | (simp; omega) | omega) _ | refine Below.setCell ?_ (by first | (simp; done) | (simp; omega) | omega) _ | refine Below_call ?_ (by assumption) | refine Below.trans ?_ (by assumption))))) (isD_dig _)).mono ?_; rintro _ w2 ⟨rfl, hb2⟩; have HB2 := hid hb2; obtain ⟨e0, e1, p0, p1, hlt1⟩ := two_cells ((hb2.block (w.heap.size + 1 + 1) (by first | omega | exact hl2 | exact hm2 | exact Nat.lt_of_lt_of_le hl2 hzw1 | exact Nat.lt_of_lt_of_le hm2 hzw1)).trans ((HB1.out.block (w.heap.size + 1 + 1) (by first | omega | exact hl2 | exact hm2 | exact Nat.lt_of_lt_of_le hl2 hzw1 | exact Nat.lt_of_lt_of_le hm2 hzw1)).trans HWC2.out))))); rw [contF]; refine ⟨?_, ?_⟩; (next => (repeat (with_reducible first | exact Below.refl _ _ | assumption | refine Below.drewN _ ?_ | refine Below.drew ?_ | refine Below_alloc ?_ _ | refine Below.alloc ?_ (by first | (simp; done) | (simp; omega) | omega) _ | refine Below.setCell ?_ (by first | (simp; done) | (simp; omega) | omega) _ | refine Below_call ?_ (by assumption) | refine Below.trans ?_ (by assumption)))))
    (rw [wpSteps])
    (rw [wpMixC])
    (rw [wpMix]; simp only [pick, List.drop_succ_cons, List.drop_zero, List.head?_cons, Option.toList_some, List.cons_append, List.nil_append])
    (go_wp2_with ((first | (go_at_call 140; refine (base_subDigits y.natAbs x.natAbs _ _ _ (HIb.out _ (by (repeat (with_reducible first | exact Below.refl _ _ | assumption | refine Below.drewN _ ?_ | refine Below.drew ?_ | refine Below_alloc ?_ _ | refine Below.alloc ?_ (by first | (simp; done) | (simp; omega) | omega) _ | refine Below.setCell ?_ (by first | (simp; done) | (simp; omega) | omega) _ | refine Below_call ?_ (by assumption) | refine Below.trans ?_ (by assumption))))) (HIa.out _ (by (repeat (with_reducible first | exact Below.refl _ _ | assumption | refine Below.drewN _ ?_ | refine Below.drew ?_ | refine Below_alloc ?_ _ | refine Below.alloc ?_ (by first | (simp; done) | (simp; omega) | omega) _ | refine Below.setCell ?_ (by first | (simp; done) | (simp; omega) | omega) _ | refine Below_call ?_ (by assumption) | refine Below.trans ?_ (by assumption))))) (Nat.le_of_lt HCMPL.out) (by have := HLY.out.2; omega)).mono ?_; rintro _ w1 ⟨r, rfl, hdx, hb1⟩; obtain ⟨ro, rc, rfl⟩ := hdx.shape; have HDX := hid hdx; have HB1 := hid hb1; have hzw1 := hb1.size; clear hdx) | (go_at_call 133; refine (base_wideOf _ _ _ _ _ (HDX.out.ints.below (by (repeat (with_reducible first | exact Below.refl _ _ | assumption | refine Below.drewN _ ?_ | refine Below.drew ?_ | refine Below_alloc ?_ _ | refine Below.alloc ?_ (by first | (simp; done) | (simp; omega) | omega) _ | refine Below.setCell ?_ (by first | (simp; done) | (simp; omega) | omega) _ | refine Below_call ?_ (by assumption) | refine Below.trans ?_ (by assumption))))) (isD_dig _)).mono ?_; rintro _ w2 ⟨rfl, hb2⟩; have HB2 := hid hb2; obtain ⟨e0, e1, p0, p1, hlt1⟩ := two_cells ((hb2.block (w.heap.size + 1 + 1) (by first | omega | exact hl2 | exact hm2 | exact Nat.lt_of_lt_of_le hl2 hzw1 | exact Nat.lt_of_lt_of_le hm2 hzw1)).trans ((HB1.out.block (w.heap.size + 1 + 1) (by first | omega | exact hl2 | exact hm2 | exact Nat.lt_of_lt_of_le hl2 hzw1 | exact Nat.lt_of_lt_of_le hm2 hzw1)).trans HWC2.out))))); rw [contF])
    (rw [wpMix])
    (refine hQ' _ _ ?_)
    go_wp2_with fail
    ((try simp only [Exit.inBlock, Exit.then]); refine bodyPost_ret (v := .agg #[.int .i64 (sg0 (dval (dig (y.natAbs - x.natAbs))) sy), .slice ro (tri (dig (y.natAbs - x.natAbs))).length rc]) ?_ rfl ?_; (next => simp [results, Try.results99, go_sem, hlt1, e0, e1]))
    have hd := HD.out
    rw [Int.add_comm]
    exact ⟨_, rfl, wide_fin (isD_dig _) (by rw [dval_dig, hd.1]) (fun _ => HSY.out.trans hd.2.symm) HDX.out HB2.out (fun b h => ⟨by have : W2.heap.size ≤ b := h; omega, HNN.out b (by have : W2.heap.size ≤ b := h; omega)⟩) _ _, by (repeat (with_reducible first | exact Below.refl _ _ | assumption | refine Below.drewN _ ?_ | refine Below.drew ?_ | refine Below_alloc ?_ _ | refine Below.alloc ?_ (by first | (simp; done) | (simp; omega) | omega) _ | refine Below.setCell ?_ (by first | (simp; done) | (simp; omega) | omega) _ | refine Below_call ?_ (by assumption) | refine Below.trans ?_ (by assumption)))⟩

end Go.Proofs.Ytllddidjiabegaa

