/- Texts of this claim, together. -/
import Derived.Test.YtkifmfmenobhnaaCC12
import Derived.Test.YtkifmfmenobhnaaCC4
import Derived.Test.YtkifmfmenobhnaaCC11

set_option linter.unusedVariables false
set_option linter.unusedSimpArgs false
namespace Go.Proofs.Ytkifmfmenobhnaa
open Go.RowKit Ev
theorem flat_intR : ∀ {l : List Int} {xs : List Value} {w : World} {N : Nat → Prop}, All2 (RelF w N) ((l.map fun n => [CV.v (.int .i64 n)]).flatten) xs → xs = l.map (Value.int .i64)
 | [], [], _, _, _ => rfl
 | [], _ :: _, _, _, h => h.elim
 | a :: l, [], _, _, h => h.elim
 | a :: l, x :: xs, w, N, h => by
  have h1 : RelF w N (.v (.int .i64 a)) x ∧ All2 (RelF w N) ((l.map fun n => [CV.v (.int .i64 n)]).flatten) xs := h
  obtain ⟨⟨rfl, _⟩, h2⟩ := h1
  rw [List.map_cons, flat_intR h2]
theorem copy_own (W : World) (N : Nat → Prop) (hG : Gd W) (sel : List Int) (hl : sel.length ≤ 1000) (v : Value) (hv : RelF W N (.sl 1 sel.length (intsC sel)) v) :
  Calls Try.prog 17 #[v] W fun e w' => ∃ u, e = .returned u ∧ w'.ownsRow W.heap.size 3 1 u sel.length (sel.map (Value.int .i64)) ∧ Below W.heap.size W w' := by
 have h := (ok_base_CopyInts_b [.t (.c (.sl 1 sel.length (intsC sel)))] _ _ _ rfl ⟨numsP_ints sel, by rw [ints_listC]; exact hl⟩).2 W N [v] hG (show All2 (RelD (RelF W N)) _ _ from ⟨hv, trivial⟩)
 refine h.mono ?_
 rintro e w' ⟨u, rfl, ⟨u2, g1, g2⟩, hb⟩
 obtain ⟨v', xs, e1, e2, _, e4⟩ := g2
 have q1 : u2 = u := by have := g1.1; simpa [own1] using this
 have q2 : u2 = v' := by simpa [own1] using e1
 subst q1
 subst q2
 simp only [ints_listC, List.length_map] at e2 e4
 rw [flat_intR e4] at e2
 exact ⟨_, rfl, e2, hb⟩
def GrR (cs : List ByteArray) (ls : List Lnk) (m : Nat) : Prop := ∀ (W : World) (N : Nat → Prop) (sel : List Int) (i0 : Nat) (v x0 x1 : Value), Gd W → clP cs ls sel → sel.length + m ≤ 12 → i0 ≤ ls.length → RelF W N (.sl 1 cs.length (txsC cs)) x0 → RelF W N (.sl 4 ls.length (lnksC ls)) x1 → RelF W N (.sl 1 sel.length (intsC sel)) v → Calls Try.prog 120 #[.agg #[x0, x1], v, .int .i64 i0, .int .i64 m] W fun e W' => ∃ u, e = .returned (.tuple #[u, .bool (grow ls cs.length m sel i0).2]) ∧ RelF W' (resN W N .no) (.sl 1 (grow ls cs.length m sel i0).1.length (intsC (grow ls cs.length m sel i0).1)) u ∧ Below W.heap.size W W'
theorem grown_zero (cs : List ByteArray) (ls : List Lnk) : GrR cs ls 0 := by
 intro W N sel i0 v x0 x1 hG hp hm hi h0 h1 hv
 have h := (ok_ref01_grown [.t (.a [.sl 1 cs.length (txsC cs), .sl 4 ls.length (lnksC ls)]), .t (.c (.sl 1 sel.length (intsC sel))), .t (.c (.v (.int .i64 i0))), .t (.c (.v (.int .i64 ((0 : Nat) : Int))))] _ _ _ rfl ?_).2 W N [.agg #[x0, x1], v, .int .i64 i0, .int .i64 ((0 : Nat) : Int)] hG ?_
 ·refine h.mono ?_
  rintro e w' ⟨u, rfl, hr, hb⟩
  obtain ⟨vs, rfl, g⟩ := hr
  obtain ⟨u0, us, rfl, g0, g⟩ := g.cons_inv
  obtain ⟨u1, us, rfl, g1, g⟩ := g.cons_inv
  obtain rfl := g.nil_inv
  obtain ⟨rfl, _⟩ := g1
  simp only [lnks_listC, txs_of, ints_listC] at *
  exact ⟨u0, rfl, g0, hb⟩
 ·simp only [lnks_listC, txs_of, ints_listC]
  exact ⟨txP_txs cs, numsP_lnks ls, numsP_ints sel, rfl, hp⟩
 ·exact ⟨⟨[x0, x1], rfl, h0, h1, trivial⟩, hv, ⟨rfl, rfl⟩, ⟨rfl, rfl⟩, trivial⟩
set_option maxRecDepth 100000 in
set_option maxHeartbeats 2000000 in
theorem grown_succ (cs : List ByteArray) (ls : List Lnk) (m : Nat) (IH : Hid (GrR cs ls m)) : GrR cs ls (m + 1) := by
 intro W N sel i0 v x0 x1 hG hp hm hi h0 h1 hv
 have HG := hid hG
 have HP := hid hp
 have hl12 : ls.length ≤ 12 := (ntE_bd hp.1).2.1
 have H0 := hid h0
 have H1 := hid h1
 obtain ⟨aoC, capC, hx0, hc1, hc2, _⟩ := h0
 subst hx0
 obtain ⟨aoL, capL, hx1, hl1, hl2, _⟩ := h1
 subst hx1
 have HV := hid hv
 obtain ⟨ao, cap, hv1, hcap, hmx, hnil, hcells⟩ := hv
 subst hv1
 clear hcells hnil hG hp
 clear hcap hmx
 obtain ⟨q, hq⟩ : ∃ q : Int, q = ((m + 1 : Nat) : Int) := ⟨_, rfl⟩
 rw [← hq]
 have hq0 : (q == 0) = false := by simp; omega
 have hq1 : 1 ≤ q := by omega
 have hq2 : q ≤ 12 := by omega
 have HQ := hid hq
 clear hq
 go_enter Try.func120, Try.ntmps120
 go_wp2_with fail
 (try simp only [hq0])
 obtain ⟨W0, hW0⟩ : ∃ W0, W0 = W.alloc (.cells #[.slice aoC cs.length capC, .slice aoL ls.length capL] 55) := ⟨_, rfl⟩
 have r0 : W0.cell? ⟨W.heap.size, 0, none⟩ = some (.slice aoC cs.length capC) := by rw [hW0]; simp
 have r1 : W0.cell? ⟨W.heap.size, 1, none⟩ = some (.slice aoL ls.length capL) := by rw [hW0]; simp
 have hk0 : W.heap.size < W0.heap.size := by rw [hW0]; simp
 have hBW : Below W.heap.size W W0 := by rw [hW0]; exact BelowA
 rw [← hW0]
 clear hW0
 have HK0 := hid hk0
 have HBW := hid hBW
 have HR0 := hid r0
 have HR1 := hid r1
 clear r0 r1 hBW
 go_loopw [12] (fun i wr => ∃ k : Nat, i0 ≤ k ∧ k ≤ ls.length ∧ i = .int .i64 k ∧ Below W0.heap.size W0 wr ∧ Hid (∀ j, i0 ≤ j → j < k → (grow ls cs.length m (sel ++ [(j : Int)]) (j + 1)).2 = false)) (fun i _ => ls.length - (intOf i).toNat)
 case atStart => exact ⟨i0, Nat.le_refl _, hi, rfl, Below.refl _ _, hid fun j h1 h2 => by omega⟩
 case round =>
  obtain ⟨k, hk1, hk2, rfl, hB, HF⟩ := hrel
  have HB := hid hB
  obtain ⟨hcb, hfb⟩ := bcell hB
  have c0 := (hcb _ 0 hk0).trans HR0.out
  have c1 := (hcb _ 1 hk0).trans HR1.out
  have hkw : W.heap.size < wr.heap.size := Nat.lt_of_lt_of_le hk0 hB.size
  have hBr : Below W.heap.size W wr := HBW.out.trans (hB.mono HBW.out.size)
  have HBR := hid hBr
  clear hcb hfb hB hBr
  by_cases hlt : k < ls.length
  ·obtain ⟨G, hG⟩ : ∃ G, G = grow ls cs.length m (sel ++ [(k : Int)]) (k + 1) := ⟨_, rfl⟩
   have HGR := hid hG
   have HIH : Hid (∀ (w4 : World) (v4 : Value) (base : Nat), Below W.heap.size W w4 → W.heap.size ≤ base → w4.ownsRow base 3 1 v4 (sel.length + 1) (sel.map (Value.int .i64) ++ [.int .i64 k]) → Calls Try.prog 120 #[.agg #[.slice aoC cs.length capC, .slice aoL ls.length capL], v4, .int .i64 (k + 1), .int .i64 (q - 1)] w4 fun e W' => ∃ u, e = .returned (.tuple #[u, .bool G.2]) ∧ RelF W' (resN W N .no) (.sl 1 G.1.length (intsC G.1)) u ∧ Below w4.heap.size w4 W') := by
    refine hid fun w4 v4 base hw hb ho => ?_
    rw [show q - 1 = (m : Int) by have := HQ.out; omega]
    have ho' : w4.ownsRow base 3 1 v4 (sel ++ [(k : Int)]).length ((sel ++ [(k : Int)]).map (Value.int .i64)) := by simpa using ho
    refine (IH.out w4 (resN W N .no) (sel ++ [(k : Int)]) (k + 1) v4 _ _ (HG.out.below hw) (HP.out.more (by omega) hlt) (by simp; omega) (by omega) (relF_below H0.out hw) (relF_below H1.out hw) (own_relF ho' hb)).mono ?_
    rintro e w' ⟨u, rfl, hr, hb'⟩
    rw [← HGR.out] at hr
    exact ⟨u, by rw [← HGR.out], relF_res hw.size hr, hb'⟩
   obtain ⟨g1, g2⟩ := G
   simp only at HIH
   have HCK := hid hkw
   have hmr : m ≤ 12 := by omega
   have hk12 : k < 12 := by omega
   have hs12 : sel.length ≤ 12 := by omega
   clear hG
   go_wp2_with fail
   refine wp_mixC (fun wc => Below (wr.heap.size) wr wc) 15 [.q [0, 1, 3, 6, 7, 8, 9], .p 2 4, .f [5, 10], .q [11, 12, 13, 14]] [.q [15]] (by kernel_rfl) (by kernel_rfl) ((Below.refl _ _).drew) ?_
   intro Q' hQ'
   (rw [wpMixC]; simp only [pick, List.drop_succ_cons, List.drop_zero, List.head?_cons, Option.toList_some, List.cons_append, List.nil_append])
   (repeat (first | go_big_quiet_skip | (go_big_quiet_want; refine quiet_simple rfl ?_; go_big_quiet_op; go_big_quiet_on) | (go_big_quiet_want; refine quiet_agg2B (ty := 55) rfl rfl (by kernel_rfl) (by assumption) (by assumption) (by first | omega | (simp; omega)) ?_; simp only [Act.put, List.setIfInBounds_toArray, List.set_cons_succ, List.set_cons_zero]; go_big_quiet_on)))
   (try refine wpQuiet_nil ?_)
   (rw [wpMixC]; simp only [pick, List.drop_succ_cons, List.drop_zero, List.head?_cons, Option.toList_some, List.cons_append, List.nil_append])
   (refine ⟨?_, ?_⟩)
   all_goals (rw [wpSteps]; go_wp2_with (first | (go_at_call 17; refine (copy_own _ (resN W N .no) (HG.out.below (HBR.out.trans (Below.mono (show Below wr.heap.size wr _ by exact BelowA) (Nat.le_of_lt HCK.out)))) sel (by omega) _ (relF_below HV.out (HBR.out.trans (Below.mono (show Below wr.heap.size wr _ by exact BelowA) (Nat.le_of_lt HCK.out))))).mono ?_; rintro _ w3 ⟨v3, rfl, hown0, hb3⟩; have hown3 := ownsRow_base hown0 (show wr.heap.size ≤ _ by first | exact Nat.le_refl _ | simp)) | (at_builtin; refine wpList_append_list rfl (.tmp 37) (.tmp 39) _ rfl elemInt wr.heap.size v3 sel.length (sel.map (Value.int .i64)) rfl (by first | exact hown3.alloc _ | exact hown3) _ 1 1 [.int .i64 k] rfl (by simp) (by simp [Value.oneCell']) (Or.inr ⟨_, rfl, by first | exact World.news_of_block (cs := #[.int .i64 k]) (heap_alloc_new _ _) | exact World.news_of_block (cs := #[.int .i64 k]) ((hb3.block _ (by simp)).trans (heap_alloc_new _ _))⟩) (by omega) (by unfold maxLen; omega) (show Below wr.heap.size wr _ by exact BelowA).size ?_; intro v4 w4 hown4 hp4 _; have hq4 : Below wr.heap.size wr w4 := Below.trans (by exact BelowA) hp4.below) | (go_at_call 120; refine (HIH.out _ v4 _ (HBR.out.trans (hq4.mono (Nat.le_of_lt HCK.out))) (Nat.le_of_lt HCK.out) hown4).mono ?_; rintro _ w5 ⟨u5, rfl, hr5, hb5⟩)); rw [contF]; refine ⟨?_, ?_⟩; (next => exact BelowA))
   all_goals (rw [wpSteps]; go_wp2_with (first | (go_at_call 17; refine (copy_own _ (resN W N .no) (HG.out.below (HBR.out.trans (Below.mono (show Below wr.heap.size wr _ by exact BelowA) (Nat.le_of_lt HCK.out)))) sel (by omega) _ (relF_below HV.out (HBR.out.trans (Below.mono (show Below wr.heap.size wr _ by exact BelowA) (Nat.le_of_lt HCK.out))))).mono ?_; rintro _ w3 ⟨v3, rfl, hown0, hb3⟩; have hown3 := ownsRow_base hown0 (show wr.heap.size ≤ _ by first | exact Nat.le_refl _ | simp)) | (at_builtin; refine wpList_append_list rfl (.tmp 37) (.tmp 39) _ rfl elemInt wr.heap.size v3 sel.length (sel.map (Value.int .i64)) rfl (by first | exact hown3.alloc _ | exact hown3) _ 1 1 [.int .i64 k] rfl (by simp) (by simp [Value.oneCell']) (Or.inr ⟨_, rfl, by first | exact World.news_of_block (cs := #[.int .i64 k]) (heap_alloc_new _ _) | exact World.news_of_block (cs := #[.int .i64 k]) ((hb3.block _ (by simp)).trans (heap_alloc_new _ _))⟩) (by omega) (by unfold maxLen; omega) (show Below wr.heap.size wr _ by exact BelowA).size ?_; intro v4 w4 hown4 hp4 _; have hq4 : Below wr.heap.size wr w4 := Below.trans (by exact BelowA) hp4.below) | (go_at_call 120; refine (HIH.out _ v4 _ (HBR.out.trans (hq4.mono (Nat.le_of_lt HCK.out))) (Nat.le_of_lt HCK.out) hown4).mono ?_; rintro _ w5 ⟨u5, rfl, hr5, hb5⟩)); rw [contF]; refine ⟨?_, ?_⟩; (next => exact BelowA))
   all_goals (rw [wpSteps])
   all_goals (rw [wpMixC]; simp only [pick, List.drop_succ_cons, List.drop_zero, List.head?_cons, Option.toList_some, List.cons_append, List.nil_append])
   all_goals (rw [wpSteps]; go_wp2_with (first | (go_at_call 17; refine (copy_own _ (resN W N .no) (HG.out.below (HBR.out.trans (Below.mono (show Below wr.heap.size wr _ by exact BelowA) (Nat.le_of_lt HCK.out)))) sel (by omega) _ (relF_below HV.out (HBR.out.trans (Below.mono (show Below wr.heap.size wr _ by exact BelowA) (Nat.le_of_lt HCK.out))))).mono ?_; rintro _ w3 ⟨v3, rfl, hown0, hb3⟩; have hown3 := ownsRow_base hown0 (show wr.heap.size ≤ _ by first | exact Nat.le_refl _ | simp)) | (at_builtin; refine wpList_append_list rfl (.tmp 37) (.tmp 39) _ rfl elemInt wr.heap.size v3 sel.length (sel.map (Value.int .i64)) rfl (by first | exact hown3.alloc _ | exact hown3) _ 1 1 [.int .i64 k] rfl (by simp) (by simp [Value.oneCell']) (Or.inr ⟨_, rfl, by first | exact World.news_of_block (cs := #[.int .i64 k]) (heap_alloc_new _ _) | exact World.news_of_block (cs := #[.int .i64 k]) ((hb3.block _ (by simp)).trans (heap_alloc_new _ _))⟩) (by omega) (by unfold maxLen; omega) (show Below wr.heap.size wr _ by exact BelowA).size ?_; intro v4 w4 hown4 hp4 _; have hq4 : Below wr.heap.size wr w4 := Below.trans (by exact BelowA) hp4.below) | (go_at_call 120; refine (HIH.out _ v4 _ (HBR.out.trans (hq4.mono (Nat.le_of_lt HCK.out))) (Nat.le_of_lt HCK.out) hown4).mono ?_; rintro _ w5 ⟨u5, rfl, hr5, hb5⟩)); rw [contF]; refine ⟨?_, ?_⟩; (next => exact BelowA))
   all_goals (rw [wpSteps]; go_wp2_with (first | (go_at_call 17; refine (copy_own _ (resN W N .no) (HG.out.below (HBR.out.trans (Below.mono (show Below wr.heap.size wr _ by exact BelowA) (Nat.le_of_lt HCK.out)))) sel (by omega) _ (relF_below HV.out (HBR.out.trans (Below.mono (show Below wr.heap.size wr _ by exact BelowA) (Nat.le_of_lt HCK.out))))).mono ?_; rintro _ w3 ⟨v3, rfl, hown0, hb3⟩; have hown3 := ownsRow_base hown0 (show wr.heap.size ≤ _ by first | exact Nat.le_refl _ | simp)) | (at_builtin; refine wpList_append_list rfl (.tmp 37) (.tmp 39) _ rfl elemInt wr.heap.size v3 sel.length (sel.map (Value.int .i64)) rfl (by first | exact hown3.alloc _ | exact hown3) _ 1 1 [.int .i64 k] rfl (by simp) (by simp [Value.oneCell']) (Or.inr ⟨_, rfl, by first | exact World.news_of_block (cs := #[.int .i64 k]) (heap_alloc_new _ _) | exact World.news_of_block (cs := #[.int .i64 k]) ((hb3.block _ (by simp)).trans (heap_alloc_new _ _))⟩) (by omega) (by unfold maxLen; omega) (show Below wr.heap.size wr _ by exact BelowA).size ?_; intro v4 w4 hown4 hp4 _; have hq4 : Below wr.heap.size wr w4 := Below.trans (by exact BelowA) hp4.below) | (go_at_call 120; refine (HIH.out _ v4 _ (HBR.out.trans (hq4.mono (Nat.le_of_lt HCK.out))) (Nat.le_of_lt HCK.out) hown4).mono ?_; rintro _ w5 ⟨u5, rfl, hr5, hb5⟩)); rw [contF]; refine ⟨?_, ?_⟩; (next => exact BelowA))
   all_goals (rw [wpSteps])
   all_goals (rw [wpMixC]; simp only [pick, List.drop_succ_cons, List.drop_zero, List.head?_cons, Option.toList_some, List.cons_append, List.nil_append])
   all_goals (repeat (first | go_big_quiet_skip | (go_big_quiet_want; refine quiet_simple rfl ?_; go_big_quiet_op; go_big_quiet_on) | (go_big_quiet_want; refine quiet_agg2B (ty := 55) rfl rfl (by kernel_rfl) (by assumption) (by assumption) (by first | omega | (simp; omega)) ?_; simp only [Act.put, List.setIfInBounds_toArray, List.set_cons_succ, List.set_cons_zero]; go_big_quiet_on)))
   all_goals (try refine wpQuiet_nil ?_)
   all_goals (rw [wpMixC])
   all_goals (rw [wpMix]; simp only [pick, List.drop_succ_cons, List.drop_zero, List.head?_cons, Option.toList_some, List.cons_append, List.nil_append])
   all_goals (repeat (first | (go_big_quiet_step (fail)) | (quiet_step (fail))))
   all_goals (try refine wpQuiet_nil ?_)
   all_goals (rw [wpMix])
   all_goals (refine hQ' _ _ ?_)
   all_goals
    have hB5 : Below wr.heap.size wr w5 := hq4.trans (hb5.mono hq4.size)
    have HR5 := hid hr5
    have HB5 := hid hB5
    clear hr5 hB5 hq4 hb5 hown4 hb3 hp4 hown0 hown3 c0 c1
    cases g2 with
    | true =>
     go_wp2_with fail
     ((try simp only [Exit.inBlock, Exit.then]); refine bodyPost_ret (v := .tuple #[u5, .bool true]) ?_ rfl ?_; (next => simp [results, Try.results120, go_sem]))
     have e := grow_hit (n := cs.length) (m := m) (s := sel) hk1 hlt HF.out (by rw [← HGR.out])
     rw [← HGR.out] at e
     rw [e]
     exact ⟨_, rfl, HR5.out, HBR.out.trans (HB5.out.mono (Nat.le_of_lt HCK.out))⟩
    | false =>
     go_wp2_with fail
     go_roundw
     case rel =>
      refine ⟨k + 1, by omega, by omega, by go_num, HB.out.trans (HB5.out.mono HB.out.size), hid fun j h1 h2 => ?_⟩
      rcases Nat.lt_or_ge j k with c | c
      ·exact HF.out j h1 c
      ·obtain rfl : j = k := by omega
       rw [← HGR.out]
     case measure => simp [intOf]; omega
  ·have e : k = ls.length := by omega
   subst e
   go_wp2_with fail
   ((try simp only [Exit.inBlock, Exit.then]); refine bodyPost_ret (v := .tuple #[.slice none 0 0, .bool false]) ?_ rfl ?_; (next => simp [results, Try.results120, go_sem]))
   have e := grow_none (n := cs.length) (m := m) (s := sel) hk1 HF.out
   rw [e]
   exact ⟨_, rfl, ⟨none, 0, rfl, Nat.le_refl _, by unfold maxLen; omega, fun _ => rfl, fun q => absurd q (by simp)⟩, HBR.out⟩
end Go.Proofs.Ytkifmfmenobhnaa
set_option linter.unusedVariables false
set_option linter.unusedSimpArgs false
namespace Go.Proofs.Ytkifmfmenobhnaa
open Go.RowKit Ev
theorem grown_all (cs : List ByteArray) (ls : List Lnk) : ∀ m, GrR cs ls m
 | 0 => grown_zero cs ls
 | m + 1 => grown_succ cs ls m (hid (grown_all cs ls m))
def con_grown : Con := fun args => match args with
 | [.t (.a [.sl 1 n_cs c_cs, .sl 4 n_ls c_ls]), .t (.c (.v (.slice none 0 0))), .t (.c (.v (.int .i64 0))), .t (.c (.v (.int .i64 m0)))] => some (.tu [.c (.sl 1 (grow (listC n_ls mkLnk c_ls) (txOf n_cs c_cs).length m0.toNat [] 0).1.length (intsC (grow (listC n_ls mkLnk c_ls) (txOf n_cs c_cs).length m0.toNat [] 0).1)), .c (.v (.bool (grow (listC n_ls mkLnk c_ls) (txOf n_cs c_cs).length m0.toNat [] 0).2))], some (txP n_cs c_cs ∧ numsP 4 n_ls c_ls ∧ (0 ≤ m0 ∧ m0 ≤ 12) ∧ ntE (txOf n_cs c_cs) (listC n_ls mkLnk c_ls) = 0), Fre.no)
 | _ => none
theorem ok_grown : Ok Try.prog 120 con_grown := by
 intro args r pre fresh h hp
 unfold con_grown at h
 split at h
 ·rename_i n_cs c_cs n_ls c_ls m0
  cases h
  obtain ⟨hp0, hp1, hp2, hp⟩ := hp
  refine ⟨Enters.of (fn := Try.f120) (by kernel_rfl) (by kernel_rfl) (by kernel_rfl), fun W N vs hG hv => ?_⟩
  have hv : All2 (RelD (RelF W N)) [.t (.a [.sl 1 n_cs c_cs, .sl 4 n_ls c_ls]), .t (.c (.v (.slice none 0 0))), .t (.c (.v (.int .i64 0))), .t (.c (.v (.int .i64 m0)))] vs := hv
  obtain ⟨v0, us0, rfl, r0, hv0⟩ := hv.cons_inv
  obtain ⟨v1, us1, rfl, r1, hv1⟩ := hv0.cons_inv
  obtain ⟨v2, us2, rfl, r2, hv2⟩ := hv1.cons_inv
  obtain ⟨v3, us3, rfl, r3, hv3⟩ := hv2.cons_inv
  obtain rfl := hv3.nil_inv
  obtain ⟨rfl, _⟩ : v1 = .slice none 0 0 ∧ _ := r1
  obtain ⟨rfl, _⟩ : v2 = .int .i64 0 ∧ _ := r2
  obtain ⟨rfl, _⟩ : v3 = .int .i64 m0 ∧ _ := r3
  obtain ⟨ws, rfl, r0⟩ := r0
  obtain ⟨x0, ws0, rfl, y0, r0⟩ := r0.cons_inv
  obtain ⟨x1, ws1, rfl, y1, r0⟩ := r0.cons_inv
  obtain rfl := r0.nil_inv
  have h0 : RelF W N (.sl 1 (txOf n_cs c_cs).length (txsC (txOf n_cs c_cs))) x0 := leL_str hp0 W N x0 y0
  have h1 : RelF W N (.sl 4 (listC n_ls mkLnk c_ls).length (lnksC (listC n_ls mkLnk c_ls))) x1 := leL_Lnk hp1 W N x1 y1
  generalize listC n_ls mkLnk c_ls = L at *
  generalize txOf n_cs c_cs = C at *
  obtain ⟨m, rfl⟩ : ∃ m : Nat, m0 = m := ⟨m0.toNat, by omega⟩
  rw [Int.toNat_natCast]
  refine (grown_all C L m W N [] 0 (.slice none 0 0) x0 x1 hG ⟨hp, by simp, fun k hk => absurd hk (by simp)⟩ (by simp; omega) (Nat.zero_le _) h0 h1 ⟨none, 0, rfl, Nat.le_refl _, by unfold maxLen; omega, fun _ => rfl, fun h => absurd h (by simp)⟩).mono ?_
  rintro e w' ⟨u, rfl, hr, hb⟩
  exact ⟨_, rfl, ⟨[u, _], rfl, hr, ⟨rfl, rfl⟩, trivial⟩, hb⟩
 ·cases h
end Go.Proofs.Ytkifmfmenobhnaa
set_option linter.unusedVariables false
set_option linter.unusedSimpArgs false
namespace Go.Proofs.Ytkifmfmenobhnaa
abbrev Bd := Option Int
def Bd.add (a b : Bd) : Bd := match a, b with
 | some x, some y => some (x + y)
 | _, _ => none
def Bd.min (a b : Bd) : Bd := match a, b with
 | some x, some y => some (Min.min x y)
 | some x, none => some x
 | none, b => b
def Bd.le (a b : Bd) : Prop := ∀ y, b = some y → ∃ x, a = some x ∧ x ≤ y
theorem Bd.le_refl (a : Bd) : Bd.le a a := fun y h => ⟨y, h, Int.le_refl _⟩
theorem Bd.le_trans {a b c : Bd} (h : Bd.le a b) (g : Bd.le b c) : Bd.le a c := fun z hz => by
 obtain ⟨y, hy, h1⟩ := g z hz
 obtain ⟨x, hx, h2⟩ := h y hy
 exact ⟨x, hx, by omega⟩
theorem Bd.min_left (a b : Bd) : Bd.le (Bd.min a b) a := fun y h => by
 subst h; cases b with
 | none => exact ⟨y, rfl, Int.le_refl _⟩
 | some z => exact ⟨_, rfl, by omega⟩
theorem Bd.min_right (a b : Bd) : Bd.le (Bd.min a b) b := fun y h => by
 subst h; cases a with
 | none => exact ⟨y, rfl, Int.le_refl _⟩
 | some z => exact ⟨_, rfl, by omega⟩
theorem Bd.le_min {a b c : Bd} (h : Bd.le c a) (g : Bd.le c b) : Bd.le c (Bd.min a b) := fun y e => by
 cases a with
 | none => cases b with
  | none => cases e
  | some z => exact g y e
 | some x => cases b with
  | none => exact h y e
  | some z =>
   obtain ⟨u, hu, h1⟩ := h x rfl
   obtain ⟨v, hv, h2⟩ := g z rfl
   rw [hu] at hv; cases hv
   simp only [Bd.min, Option.some.injEq] at e
   exact ⟨u, hu, by omega⟩
theorem Bd.add_le {a b c d : Bd} (h : Bd.le a c) (g : Bd.le b d) : Bd.le (Bd.add a b) (Bd.add c d) := fun y e => by
 cases c with
 | none => cases d <;> cases e
 | some x => cases d with
  | none => cases e
  | some z =>
   obtain ⟨u, hu, h1⟩ := h x rfl
   obtain ⟨v, hv, h2⟩ := g z rfl
   subst hu; subst hv
   simp only [Bd.add, Option.some.injEq] at e
   exact ⟨u + v, rfl, by omega⟩
theorem Bd.add_assoc (a b c : Bd) : Bd.add (Bd.add a b) c = Bd.add a (Bd.add b c) := by
 cases a <;> cases b <;> cases c <;> simp [Bd.add, Int.add_assoc]
def tight (b : Nat → Nat → Bd) (k : Nat) : Nat → Nat → Bd := fun i j => Bd.min (b i j) (Bd.add (b i k) (b k j))
def keeps (b : Nat → Nat → Bd) (o : Nat → Int) : Prop := ∀ i j x, b i j = some x → o j - o i ≤ x
theorem keeps_tight {b : Nat → Nat → Bd} {o : Nat → Int} (h : keeps b o) (k : Nat) : keeps (tight b k) o := by
 intro i j x e
 unfold tight at e
 have h1 := h i j
 have h2 := h i k
 have h3 := h k j
 cases e1 : b i j <;> cases e2 : b i k <;> cases e3 : b k j <;> rw [e1, e2, e3] at e <;> simp [Bd.add, Bd.min] at e
 ·have a := h2 _ e2; have c := h3 _ e3; omega
 ·have a := h1 _ e1; omega
 ·have a := h1 _ e1; omega
 ·have a := h1 _ e1; omega
 ·have a := h1 _ e1; have c := h2 _ e2; have d := h3 _ e3; omega
def updB (b : Nat → Nat → Bd) (i j : Nat) (v : Bd) : Nat → Nat → Bd := fun x y => if x = i ∧ y = j then v else b x y
def seqStep (k : Nat) (b : Nat → Nat → Bd) (p : Nat × Nat) : Nat → Nat → Bd := updB b p.1 p.2 (Bd.min (b p.1 p.2) (Bd.add (b p.1 k) (b k p.2)))
def pairsN (n : Nat) : List (Nat × Nat) := (List.range n).flatMap fun i => (List.range n).map fun j => (i, j)
def seqK (n : Nat) (b : Nat → Nat → Bd) (k : Nat) : Nat → Nat → Bd := (pairsN n).foldl (seqStep k) b
def seqN (n : Nat) (b : Nat → Nat → Bd) : Nat → Nat → Nat → Bd
 | 0 => b
 | m + 1 => seqK n (seqN n b m) m
theorem keeps_step {b : Nat → Nat → Bd} {o : Nat → Int} (h : keeps b o) (k : Nat) (p : Nat × Nat) : keeps (seqStep k b p) o := by
 intro i j x e
 unfold seqStep updB at e
 split at e
 ·next hh => rw [hh.1, hh.2]; exact keeps_tight h k p.1 p.2 x e
 ·exact h i j x e
theorem keeps_seq {n : Nat} {b : Nat → Nat → Bd} {o : Nat → Int} (h : keeps b o) : ∀ m, keeps (seqN n b m) o := by
 intro m
 induction m with
 | zero => exact h
 | succ m ih =>
  unfold seqN seqK
  have : ∀ (l : List (Nat × Nat)) (c : Nat → Nat → Bd), keeps c o → keeps (l.foldl (seqStep m) c) o := by
   intro l
   induction l with
   | nil => intro c hc; exact hc
   | cons p l ih2 => intro c hc; exact ih2 _ (keeps_step hc m p)
  exact this _ _ ih
end Go.Proofs.Ytkifmfmenobhnaa
set_option linter.unusedVariables false
set_option linter.unusedSimpArgs false
namespace Go.Proofs.Ytkifmfmenobhnaa
open Go.RowKit Ev
def toB (n : Nat) (f : Nat → Nat → Int) : Nat → Nat → Bd := fun x y => if x < n ∧ y < n ∧ f x y < far then some (f x y) else none
theorem toB_some {n : Nat} {f : Nat → Nat → Int} {x y : Nat} (hx : x < n) (hy : y < n) (h : f x y < far) : toB n f x y = some (f x y) := if_pos ⟨hx, hy, h⟩
theorem toB_none {n : Nat} {f : Nat → Nat → Int} {x y : Nat} (h : ¬ f x y < far) : toB n f x y = none := if_neg fun c => h c.2.2
theorem toB_out {n : Nat} {f : Nat → Nat → Int} {x y : Nat} {v : Int} (h : toB n f x y = some v) : x < n ∧ y < n ∧ f x y < far ∧ f x y = v := by
 unfold toB at h
 split at h
 ·rename_i c; cases h; exact ⟨c.1, c.2.1, c.2.2, rfl⟩
 ·cases h
theorem toB_step {n : Nat} {U : Int} (hU : 0 ≤ U ∧ 2 * U < 1125899906842624) {k : Nat} {f g : Nat → Nat → Int} (h : relK n U k f g) {i j : Nat} (hk : k < n) (hi : i < n) (hj : j < n) : toB n (stepK f k i j) = seqStep k (toB n f) (i, j) := by
 have ef : far = 1152921504606846976 := rfl
 have h1 := h i k hi hk
 have h2 := h k j hk hj
 funext x y
 unfold stepK seqStep updB
 simp only
 by_cases c : f i k < far ∧ f k j < far
 ·rw [if_pos c, toB_some hi hk c.1, toB_some hk hj c.2]
  have a1 : f i k ≤ U := by
   rcases h1 with h1 | ⟨h1, h4, h5⟩
   ·omega
   ·exact h5 (Or.inr rfl)
  have a2 : f k j ≤ U := by
   rcases h2 with h2 | ⟨h2, h4, h5⟩
   ·omega
   ·exact h5 (Or.inl rfl)
  by_cases e : x = i ∧ y = j
  ·obtain ⟨rfl, rfl⟩ := e
   rw [if_pos ⟨rfl, rfl⟩]
   rw [show toB n (updI f x y (min (f x y) (f x k + f k y))) x y = some (min (f x y) (f x k + f k y)) from by
    unfold toB updI
    rw [if_pos (⟨rfl, rfl⟩ : x = x ∧ y = y)]
    exact if_pos ⟨hi, hj, by omega⟩]
   by_cases d : f x y < far
   ·rw [toB_some hi hj d]; rfl
   ·rw [toB_none d]
    show some _ = some _
    rw [show min (f x y) (f x k + f k y) = f x k + f k y by omega]
  ·rw [if_neg e]
   unfold toB updI
   rw [if_neg e]
 ·rw [if_neg c]
  have e2 : Bd.add (toB n f i k) (toB n f k j) = none := by
   by_cases d : f i k < far
   ·rw [toB_none (x := k) (fun q => c ⟨d, q⟩)]; cases toB n f i k <;> rfl
   ·rw [toB_none d]; rfl
  rw [e2]
  by_cases e : x = i ∧ y = j
  ·rw [if_pos e, e.1, e.2]; cases toB n f i j <;> rfl
  ·rw [if_neg e]
theorem toB_j {n : Nat} {U : Int} (hU : 0 ≤ U ∧ 2 * U < 1125899906842624) {k : Nat} {f g : Nat → Nat → Int} (h : relK n U k f g) {i : Nat} (hk : k < n) (hi : i < n) : ∀ j, j ≤ n → toB n (jK f k i j) = ((List.range j).map fun j => (i, j)).foldl (seqStep k) (toB n f)
 | 0, _ => rfl
 | j + 1, hj => by
  rw [List.range_succ, List.map_append, List.foldl_append, ← toB_j hU h hk hi j (by omega)]
  exact toB_step hU (h.j hU hk hi j (by omega)) hk hi (by omega)
theorem toB_i {n : Nat} {U : Int} (hU : 0 ≤ U ∧ 2 * U < 1125899906842624) {k : Nat} {f g : Nat → Nat → Int} (h : relK n U k f g) (hk : k < n) : ∀ i, i ≤ n → toB n (iK f n k i) = ((List.range i).flatMap fun i => (List.range n).map fun j => (i, j)).foldl (seqStep k) (toB n f)
 | 0, _ => rfl
 | i + 1, hi => by
  rw [List.range_succ, List.flatMap_append, List.foldl_append, ← toB_i hU h hk i (by omega), List.flatMap_singleton]
  exact toB_j hU (h.i hU hk i (by omega)) hk (by omega) n (Nat.le_refl _)
theorem toB_k {n : Nat} {f g : Nat → Nat → Int} (hn : n ≤ 6) (h : rel2 n 1000000000 f g) : ∀ k, k ≤ n → toB n (kK f n k) = seqN n (toB n f) k
 | 0, _ => rfl
 | k + 1, hk => by
  have ih := h.k hn k (by omega)
  have hp : (0 : Int) ≤ 2 ^ k * 1000000000 ∧ 2 * (2 ^ k * 1000000000) < (1125899906842624 : Int) := by
   rcases (by omega : k = 0 ∨ k = 1 ∨ k = 2 ∨ k = 3 ∨ k = 4 ∨ k = 5) with rfl | rfl | rfl | rfl | rfl | rfl <;> decide
  rw [seqN, ← toB_k hn h k (by omega)]
  exact toB_i hp (ih.start hp.1 k) (by omega) n (Nat.le_refl _)
theorem bd_seq {n : Nat} (hn : n ≤ 6) {l : List Lnk} (hok : ∀ k, k < l.length → (lnkAt l k).ok n) : toB n (bdF l n) = seqN n (toB n (lnkM l l.length)) n := by
 have h := rel2.links hok (al_ok l) (alI l).length (Nat.le_refl _)
 rw [sel_all, al_len] at h
 exact toB_k hn h n (Nat.le_refl _)
theorem seqN_mono {b b' : Nat → Nat → Bd} (h : ∀ x y, Bd.le (b x y) (b' x y)) (n : Nat) : ∀ m x y, Bd.le (seqN n b m x y) (seqN n b' m x y)
 | 0, x, y => h x y
 | m + 1, x, y => by
  have key : ∀ (l : List (Nat × Nat)) (c c' : Nat → Nat → Bd), (∀ x y, Bd.le (c x y) (c' x y)) → ∀ x y, Bd.le (l.foldl (seqStep m) c x y) (l.foldl (seqStep m) c' x y) := by
   intro l
   induction l with
   | nil => intro c c' hc; exact hc
   | cons p l ih =>
    intro c c' hc
    refine ih _ _ fun x y => ?_
    unfold seqStep updB
    split
    ·exact Bd.le_min (Bd.le_trans (Bd.min_left _ _) (hc _ _)) (Bd.le_trans (Bd.min_right _ _) (Bd.add_le (hc _ _) (hc _ _)))
    ·exact hc x y
  exact key _ _ _ (seqN_mono h n m) x y
theorem lnk_le : ∀ (l : List Lnk) (f : Nat → Nat → Int), (∀ x y, l.foldl lnkG f x y ≤ f x y) ∧ ∀ z ∈ l, l.foldl lnkG f z.frm.toNat z.to.toNat ≤ z.hi ∧ l.foldl lnkG f z.to.toNat z.frm.toNat ≤ -z.lo
 | [], f => ⟨fun x y => Int.le_refl _, fun z hz => by cases hz⟩
 | a :: l, f => by
  obtain ⟨h1, h2⟩ := lnk_le l (lnkG f a)
  have g1 : ∀ x y, lnkF f a x y ≤ f x y := fun x y => by
   unfold lnkF updI
   split
   ·rename_i e; rw [e.1, e.2]; omega
   ·exact Int.le_refl _
  have g2 : ∀ x y, lnkG f a x y ≤ lnkF f a x y := fun x y => by
   unfold lnkG updI
   split
   ·rename_i e; rw [e.1, e.2]; omega
   ·exact Int.le_refl _
  refine ⟨fun x y => Int.le_trans (h1 x y) (Int.le_trans (g2 x y) (g1 x y)), fun z hz => ?_⟩
  rcases List.mem_cons.1 hz with rfl | hz
  ·have a1 := h1 z.frm.toNat z.to.toNat
   have a2 := g2 z.frm.toNat z.to.toNat
   have a3 := h1 z.to.toNat z.frm.toNat
   have a4 : lnkF f z z.frm.toNat z.to.toNat ≤ z.hi := by unfold lnkF updI; rw [if_pos ⟨rfl, rfl⟩]; omega
   have a5 : lnkG f z z.to.toNat z.frm.toNat ≤ -z.lo := by unfold lnkG; unfold updI; rw [if_pos ⟨rfl, rfl⟩]; omega
   exact ⟨by show (l.foldl lnkG (lnkG f z)) _ _ ≤ _; omega, by show (l.foldl lnkG (lnkG f z)) _ _ ≤ _; omega⟩
  ·exact h2 z hz
theorem lnk_from : ∀ (l : List Lnk) (f : Nat → Nat → Int) (x y : Nat), l.foldl lnkG f x y = f x y ∨ ∃ z ∈ l, (x = z.frm.toNat ∧ y = z.to.toNat ∧ l.foldl lnkG f x y = z.hi) ∨ (x = z.to.toNat ∧ y = z.frm.toNat ∧ l.foldl lnkG f x y = -z.lo)
 | [], f, x, y => Or.inl rfl
 | a :: l, f, x, y => by
  rcases lnk_from l (lnkG f a) x y with h | ⟨z, hz, h⟩
  ·have e : lnkG f a x y = f x y ∨ (x = a.frm.toNat ∧ y = a.to.toNat ∧ lnkG f a x y = a.hi) ∨ (x = a.to.toNat ∧ y = a.frm.toNat ∧ lnkG f a x y = -a.lo) := by
    unfold lnkG
    unfold updI
    by_cases e : x = a.to.toNat ∧ y = a.frm.toNat
    ·rw [if_pos e]
     by_cases c : lnkF f a a.to.toNat a.frm.toNat ≤ -a.lo
     ·rw [show min (lnkF f a a.to.toNat a.frm.toNat) (-a.lo) = lnkF f a a.to.toNat a.frm.toNat by omega, ← e.1, ← e.2]
      unfold lnkF updI
      by_cases e2 : x = a.frm.toNat ∧ y = a.to.toNat
      ·rw [if_pos e2, ← e2.1, ← e2.2]
       rcases (by omega : min (f x y) a.hi = f x y ∨ min (f x y) a.hi = a.hi) with q | q
       ·exact Or.inl q
       ·exact Or.inr (Or.inl ⟨by omega, by omega, q⟩)
      ·rw [if_neg e2]; exact Or.inl rfl
     ·exact Or.inr (Or.inr ⟨e.1, e.2, by omega⟩)
    ·rw [if_neg e]
     unfold lnkF updI
     by_cases e2 : x = a.frm.toNat ∧ y = a.to.toNat
     ·rw [if_pos e2, ← e2.1, ← e2.2]
      rcases (by omega : min (f x y) a.hi = f x y ∨ min (f x y) a.hi = a.hi) with q | q
      ·exact Or.inl q
      ·exact Or.inr (Or.inl ⟨rfl, rfl, q⟩)
     ·rw [if_neg e2]; exact Or.inl rfl
   show (l.foldl lnkG (lnkG f a)) x y = _ ∨ _
   rcases e with e | e
   ·exact Or.inl (h.trans e)
   ·refine Or.inr ⟨a, by simp, ?_⟩
    rw [← h] at e
    exact e
  ·exact Or.inr ⟨z, by simp [hz], h⟩
theorem lnkM_all (l : List Lnk) : lnkM l l.length = l.foldl lnkG initM := by unfold lnkM; rw [List.take_length]
theorem mem_lnk {l : List Lnk} {z : Lnk} (h : z ∈ l) : ∃ k, k < l.length ∧ lnkAt l k = z := by
 obtain ⟨i, hi, e⟩ := List.getElem_of_mem h
 exact ⟨i, hi, by simp [lnkAt, List.getD, hi, e]⟩
theorem lnk_mem {l : List Lnk} {k : Nat} (h : k < l.length) : lnkAt l k ∈ l := by
 have : lnkAt l k = l[k] := by simp [lnkAt, List.getD, h]
 rw [this]; exact List.getElem_mem h
theorem init_mono {n : Nat} {l s : List Lnk} (hs : ∀ z ∈ s, z ∈ l) (x y : Nat) : Bd.le (toB n (lnkM l l.length) x y) (toB n (lnkM s s.length) x y) := by
 intro v hv
 obtain ⟨hx, hy, hf, e⟩ := toB_out hv
 have h : lnkM l l.length x y ≤ v := by
  rw [lnkM_all] at *
  obtain ⟨g1, g2⟩ := lnk_le l initM
  rcases lnk_from s initM x y with h | ⟨z, hz, ⟨rfl, rfl, h⟩ | ⟨rfl, rfl, h⟩⟩
  ·have := g1 x y; omega
  ·have := (g2 z (hs z hz)).1; omega
  ·have := (g2 z (hs z hz)).2; omega
 exact ⟨_, toB_some hx hy (by omega), h⟩
theorem bdB_sub {n : Nat} (hn : n ≤ 6) {l s : List Lnk} (hok : ∀ k, k < l.length → (lnkAt l k).ok n) (hs : ∀ z ∈ s, z ∈ l) (h : bdB l n = true) : bdB s n = true := by
 have hok2 : ∀ k, k < s.length → (lnkAt s k).ok n := fun k hk => by
  obtain ⟨q, hq, e⟩ := mem_lnk (hs _ (lnk_mem hk))
  rw [← e]; exact hok q hq
 have ef : far = 1152921504606846976 := rfl
 refine bdB_true.2 fun i hi => ?_
 by_cases c : bdF s n i i < far
 ·have m := seqN_mono (init_mono (n := n) hs) n n i i
  rw [← bd_seq hn hok, ← bd_seq hn hok2] at m
  obtain ⟨x, hx, hle⟩ := m _ (toB_some hi hi c)
  obtain ⟨_, _, _, e⟩ := toB_out hx
  have := bdB_true.1 h i hi
  omega
 ·omega
end Go.Proofs.Ytkifmfmenobhnaa
set_option linter.unusedVariables false
set_option linter.unusedSimpArgs false
namespace Go.Proofs.Ytkifmfmenobhnaa
open Go.RowKit Ev
theorem grI_true {f : Nat → List Int × Bool} : ∀ n i j, i ≤ j → j < i + n → (f j).2 = true → (grI f n i).2 = true
 | 0, i, j, h1, h2, _ => by omega
 | n + 1, i, j, h1, h2, h => by
  rw [grI]
  by_cases c : (f i).2 = true
  ·rw [if_pos c]
  ·rw [if_neg c]
   exact grI_true n (i + 1) j (by have : i ≠ j := fun e => c (by rw [e]; exact h); omega) (by omega) h
theorem grow_full {ls : List Lnk} {n : Nat} (h : bdB ls n = false) : ∀ m i0, i0 + m = ls.length → (grow ls n m ((List.range i0).map fun i : Nat => (i : Int)) i0).2 = true
 | 0, i0, e => by
  rw [grow]
  show (!bdB (selL ls _) n) = true
  rw [show i0 = ls.length by omega]
  have q := sel_all ls
  unfold alI at q
  rw [q, h]; rfl
 | m + 1, i0, e => by
  have ih := grow_full h m (i0 + 1) (by omega)
  rw [List.range_succ, List.map_append, List.map_singleton] at ih
  rw [grow, show ls.length - i0 = (ls.length - i0 - 1) + 1 by omega, grI, if_pos ih]
theorem grow_no {ls : List Lnk} {n : Nat} (hn : n ≤ 6) (hok : ∀ k, k < ls.length → (lnkAt ls k).ok n) (h : bdB ls n = true) : ∀ m (s : List Int) i0, (∀ q ∈ s, 0 ≤ q ∧ q < ls.length) → (grow ls n m s i0).2 = false
 | 0, s, i0, hs => by
  rw [grow]
  show (!bdB (selL ls s) n) = false
  rw [bdB_sub hn hok (fun z hz => ?_) h]; rfl
  unfold selL at hz
  obtain ⟨q, hq, rfl⟩ := List.mem_map.1 hz
  have := hs q hq
  exact lnk_mem (by omega)
 | m + 1, s, i0, hs => by
  rw [grow, grI_skip (ls.length - i0) _ _ (Nat.le_refl _) fun j h1 h2 => grow_no hn hok h m _ _ fun q hq => ?_, Nat.sub_self, grI]
  rcases List.mem_append.1 hq with hq | hq
  ·exact hs q hq
  ·rw [List.mem_singleton.1 hq]; omega
theorem cnG_eq {ls : List Lnk} {n : Nat} (hn : n ≤ 6) (hok : ∀ k, k < ls.length → (lnkAt ls k).ok n) : (cnG ls n).2 = !bdB ls n := by
 unfold cnG
 cases h : bdB ls n with
 | false => exact grI_true _ _ ls.length (Nat.zero_le _) (by omega) (grow_full h ls.length 0 (by omega))
 | true =>
  rw [grI_skip (ls.length + 1) _ _ (Nat.le_refl _) fun j h1 h2 => grow_no hn hok h j [] 0 (fun q hq => absurd hq (by simp)), Nat.sub_self, grI]; rfl
theorem co_in {ls : List Lnk} {o : List Int} {k : Nat} (h : coF ls o k = 0) : (lnkAt ls k).lo ≤ o.getD (lnkAt ls k).to.toNat 0 - o.getD (lnkAt ls k).frm.toNat 0 ∧ o.getD (lnkAt ls k).to.toNat 0 - o.getD (lnkAt ls k).frm.toNat 0 ≤ (lnkAt ls k).hi := by
 unfold coF at h
 rw [unl_0 (by decide)] at h
 exact inB_true.1 h
theorem keeps_bd {n : Nat} (hn : n ≤ 6) {ls : List Lnk} (hok : ∀ k, k < ls.length → (lnkAt ls k).ok n) {o : List Int} (h : ∀ k, k < ls.length → coF ls o k = 0) {i j : Nat} (hi : i < n) (hj : j < n) (hf : bdF ls n i j < far) : o.getD j 0 - o.getD i 0 ≤ bdF ls n i j := by
 have k0 : keeps (toB n (lnkM ls ls.length)) fun i => o.getD i 0 := by
  intro i j x hx
  obtain ⟨_, _, hf, e⟩ := toB_out hx
  rw [lnkM_all] at *
  rcases lnk_from ls initM i j with g | ⟨z, hz, ⟨rfl, rfl, g⟩ | ⟨rfl, rfl, g⟩⟩
  ·rw [g] at hf e
   unfold initM at hf e
   split at e
   ·rename_i c; subst c; omega
   ·rename_i c; rw [if_neg c] at hf; omega
  ·obtain ⟨k, hk, rfl⟩ := mem_lnk hz
   have := co_in (h k hk)
   simp only
   omega
  ·obtain ⟨k, hk, rfl⟩ := mem_lnk hz
   have := co_in (h k hk)
   simp only
   omega
 have k1 := keeps_seq (n := n) k0 n
 rw [← bd_seq hn hok] at k1
 exact k1 i j _ (toB_some hi hj hf)
end Go.Proofs.Ytkifmfmenobhnaa
set_option linter.unusedVariables false
set_option linter.unusedSimpArgs false
namespace Go.Proofs.Ytkifmfmenobhnaa
open Go.RowKit Ev
theorem cnG_none {n : Nat} (hn : n ≤ 6) {ls : List Lnk} (hok : ∀ k, k < ls.length → (lnkAt ls k).ok n) (h : bdB ls n = true) : cnG ls n = ([], false) := by
 unfold cnG
 rw [grI_skip (ls.length + 1) _ _ (Nat.le_refl _) fun j h1 h2 => grow_no hn hok h j [] 0 (fun q hq => absurd hq (by simp)), Nat.sub_self, grI]
theorem grow_0 {n : Nat} (hn : n ≤ 6) (ls : List Lnk) : (grow ls n 0 [] 0).2 = false := by
 show (!bdB (selL ls []) n) = false
 have : bdB (selL ls []) n = true := bdB_true.2 fun i hi => by
  have ef : far = 1152921504606846976 := rfl
  by_cases c : bdF (selL ls []) n i i < far
  ·have := keeps_bd (ls := selL ls []) (o := []) hn (fun k hk => absurd hk (by simp [selL])) (fun k hk => absurd hk (by simp [selL])) hi hi c
   omega
  ·omega
 rw [this]; rfl
def nmF (ls : List Lnk) (n k : Nat) : Bool := bdB (selL ls (woI ls k)) n
def nmR (f : Nat → Bool) : Nat → Nat → Option Nat
 | 0, _ => none
 | k + 1, i => if f i = true then some i else nmR f k (i + 1)
theorem nmR_skip {f : Nat → Bool} : ∀ (k n i : Nat), k ≤ n → (∀ j, i ≤ j → j < i + k → f j = false) → nmR f n i = nmR f (n - k) (i + k)
 | 0, n, i, _, _ => rfl
 | k + 1, n + 1, i, hk, h => by
  rw [nmR, if_neg (by rw [h i (by omega) (by omega)]; simp), nmR_skip k n (i + 1) (by omega) fun j h1 h2 => h j (by omega) (by omega)]
  rw [show n + 1 - (k + 1) = n - k by omega, show i + 1 + k = i + (k + 1) by omega]
 | k + 1, 0, i, hk, _ => by omega
def nmI (cs : List ByteArray) (ls : List Lnk) : Option Nat := if bdB ls cs.length = true then none else nmR (nmF ls cs.length) (cs.length - 1) 1
theorem nmR_hit {f : Nat → Bool} {n k : Nat} (h1 : 1 ≤ k) (h2 : k < n) (h : ∀ j, 1 ≤ j → j < k → f j = false) (hk : f k = true) : nmR f (n - 1) 1 = some k := by
 rw [nmR_skip (k - 1) _ _ (by omega) fun j a b => h j a (by omega), show n - 1 - (k - 1) = (n - k - 1) + 1 by omega, show 1 + (k - 1) = k by omega, nmR, if_pos hk]
theorem nmR_none {f : Nat → Bool} {n : Nat} (h : ∀ j, 1 ≤ j → j < n → f j = false) : nmR f (n - 1) 1 = none := by
 rw [nmR_skip (n - 1) _ _ (Nat.le_refl _) fun j a b => h j a (by omega), Nat.sub_self, nmR]
def nmS (cs : List ByteArray) (ls : List Lnk) : ByteArray := match nmI cs ls with
 | some k => txAt cs k
 | none => ⟨#[]⟩
def nmB (cs : List ByteArray) (ls : List Lnk) : Bool := (nmI cs ls).isSome
theorem wo_ok (ls : List Lnk) (q : Int) : ∀ k, k < (woI ls q).length → 0 ≤ (woI ls q).getD k 0 ∧ (woI ls q).getD k 0 < ls.length := fun k hk => by
 have : (woI ls q).getD k 0 ∈ woI ls q := by
  rw [List.getD_eq_getElem?_getD, List.getElem?_eq_getElem hk]; exact List.getElem_mem hk
 generalize (woI ls q).getD k 0 = y at this
 unfold woI woK at this
 obtain ⟨i, hi, e⟩ := List.mem_map.1 this
 have := List.mem_range.1 (List.mem_filter.1 hi).1
 omega
def Si4116 : Sum := addS Si1115 120 con_grown
theorem VSi4116 : Valid Try.prog Si4116 := Valid.add VSi1115 ok_grown
def mk_ref01_ContradictingIn_0 (cs : List ByteArray) (ls : List Lnk) (v0_0 : Int) : DS := ⟨[none, some (.t (.c (.p 1 0))), none, none, none, none, some (.t (.c (.v (.int .i64 v0_0)))), none, none, none, none, none, none, none, none, none, none, none, none, none, none, none, none, none, none, none, none, none, none, none, none, none], [none, some (.box 55 [.sl 1 cs.length (txsC cs), .sl 4 ls.length (lnksC ls)]), none, none, none, none, none, none, none, none, none, none, none, none, none, none, none, none, none, none, none, none, none, none, none, none, none, none, none, none, none, none]⟩
def vc_ref01_ContradictingIn (J : Inv) (cs : List ByteArray) (ls : List Lnk) (post : DV → Prop) : Prop := (txP cs.length (txsC cs) ∧ numsP 4 ls.length (lnksC ls) ∧ ((listC ls.length mkLnk (lnksC ls))).length ≤ 1000000) ∧ ((numsP 4 ls.length (lnksC ls) ∧ numsP 1 ((alI (listC ls.length mkLnk (lnksC ls))).length) (intsC (alI (listC ls.length mkLnk (lnksC ls)))) ∧ clOk cs.length (listC ls.length mkLnk (lnksC ls)) (listC ((alI (listC ls.length mkLnk (lnksC ls))).length) mkInt (intsC (alI (listC ls.length mkLnk (lnksC ls)))))) ∧ (cond (clO (listC ls.length mkLnk (lnksC ls)) (listC ((alI (listC ls.length mkLnk (lnksC ls))).length) mkInt (intsC (alI (listC ls.length mkLnk (lnksC ls))))) cs.length) (post (.tu [.c (.v (.slice none 0 0)), .c (.v (.bool false))])) (∃ n, J 0 (n :: []) (mk_ref01_ContradictingIn_0 cs ls 1))))
def ann_ref01_ContradictingIn : Ann := ⟨fun r => lookA r [(1, ([[], [], [1], [0, 1, 2], [0, 1, 2, 3], [0, 1, 2, 3, 4], [0, 1, 2, 3, 4], [], [0, 1, 2, 3, 4, 5, 7], [0, 1, 2, 3, 4, 5, 6, 7, 8]], [[12, 13, 4], [12, 13, 4], [13, 4], [4], [4], [4], [4], [12, 13], [], []]))], fun b => lookA b [(0, (none, some ⟨[1, 6], [1], []⟩))], fun _ => [], I1, false, fun _ => none, fun _ => none⟩
theorem ev_ref01_ContradictingIn (J : Inv) (cs : List ByteArray) (ls : List Lnk) (post : DV → Prop) : evFn Try.prog tab Si4116 ann_ref01_ContradictingIn J Try.f74 [.t (.a [.sl 1 cs.length (txsC cs), .sl 4 ls.length (lnksC ls)])] post = vc_ref01_ContradictingIn J cs ls post := by kernel_rfl
theorem fit_ref01_ContradictingIn : okFn ann_ref01_ContradictingIn Try.f74 = true := by kernel_rfl
def rd_ref01_ContradictingIn_0 (J : Inv) (cs : List ByteArray) (ls : List Lnk) (v0_0 : Int) (nn0 : Nat) (post : DV → Prop) : Prop := cond (decide (v0_0 ≤ ((ls.length : Nat) : Int))) ((txP cs.length (txsC cs) ∧ numsP 4 ls.length (lnksC ls) ∧ (0 ≤ v0_0 ∧ v0_0 ≤ 12) ∧ ntE (txOf cs.length (txsC cs)) (listC ls.length mkLnk (lnksC ls)) = 0) ∧ (cond ((grow (listC ls.length mkLnk (lnksC ls)) (txOf cs.length (txsC cs)).length (v0_0).toNat [] 0).2) (post (.tu [.c (.sl 1 ((grow (listC ls.length mkLnk (lnksC ls)) (txOf cs.length (txsC cs)).length (v0_0).toNat [] 0).1.length) (intsC (grow (listC ls.length mkLnk (lnksC ls)) (txOf cs.length (txsC cs)).length (v0_0).toNat [] 0).1)), .c (.v (.bool true))])) (lt (IntKind.i64.wrap (v0_0 + (1 : Int))) fun x1 => J 0 (nn0 :: []) (mk_ref01_ContradictingIn_0 cs ls x1)))) (post (.tu [.c (.v (.slice none 0 0)), .c (.v (.bool false))]))
theorem er_ref01_ContradictingIn_0 (J : Inv) (cs : List ByteArray) (ls : List Lnk) (v0_0 : Int) (nn0 : Nat) (post : DV → Prop) : round Try.prog tab Si4116 ann_ref01_ContradictingIn J Try.f74 post 0 (nn0 :: []) (mk_ref01_ContradictingIn_0 cs ls v0_0) = rd_ref01_ContradictingIn_0 J cs ls v0_0 nn0 post := by kernel_rfl
theorem lp_ref01_ContradictingIn (J : Inv) (post : DV → Prop) : AllG J (loopsFn Try.prog tab Si4116 ann_ref01_ContradictingIn J Try.f74 post) = (((∀ F s, ¬ J 0 (0 :: F) s) ∧ ∀ n F s, J 0 ((n + 1) :: F) s → round Try.prog tab Si4116 ann_ref01_ContradictingIn J Try.f74 post 0 (n :: F) s) ∧ True) := by kernel_rfl
def J_ref01_ContradictingIn (cs : List ByteArray) (ls : List Lnk) : Inv := fun b F s => match b, F with
 | 0, [nn0] => ∃ (v0_0 : Int), s = mk_ref01_ContradictingIn_0 cs ls v0_0 ∧ ((ntE cs ls = 0 ∧ bdB ls cs.length = false) ∧ 1 ≤ v0_0 ∧ v0_0 ≤ ls.length + 1 ∧ (nn0 : Int) + v0_0 = ls.length + 2 ∧ ∀ j : Nat, (j : Int) < v0_0 → (grow ls cs.length j [] 0).2 = false)
 | _, _ => False
theorem rnd_ref01_ContradictingIn_0 (cs : List ByteArray) (ls : List Lnk) (v0_0 : Int) (nn0 : Nat) (hp : ntE cs ls = 0) (hi : (ntE cs ls = 0 ∧ bdB ls cs.length = false) ∧ 1 ≤ v0_0 ∧ v0_0 ≤ ls.length + 1 ∧ ((nn0 + 1) : Int) + v0_0 = ls.length + 2 ∧ ∀ j : Nat, (j : Int) < v0_0 → (grow ls cs.length j [] 0).2 = false) : rd_ref01_ContradictingIn_0 (J_ref01_ContradictingIn cs ls) cs ls v0_0 nn0 (fun r => LeD r (.tu [.c (.sl 1 (((cnG ls (cs).length).1).length) (intsC ((cnG ls (cs).length).1))), .c (.v (.bool ((cnG ls (cs).length).2)))])) := by
 obtain ⟨⟨q, q2⟩, i1, i2, i3, i4⟩ := hi
 obtain ⟨k, rfl⟩ : ∃ k : Nat, v0_0 = k := ⟨v0_0.toNat, by omega⟩
 have hk : (k : Int).toNat = k := rfl
 have z := (ntE_bd q).2.1
 unfold rd_ref01_ContradictingIn_0
 simp only [lnks_listC, txs_of]
 rw [hk]
 refine cond_i (fun h => ?_) (fun h => ?_)
 ·have hlt : k < ls.length + 1 := by have := of_decide_eq_true h; omega
  refine ⟨⟨txP_txs cs, numsP_lnks ls, ⟨by omega, by omega⟩, q⟩, cond_i (fun g => ?_) (fun g => lt_i fun x hx => ?_)⟩
  ·have e : cnG ls cs.length = ((grow ls cs.length k [] 0).1, true) := by
    unfold cnG
    rw [grI_skip k _ _ (by omega) fun j _ h2 => i4 j (by omega), show ls.length + 1 - k = (ls.length - k) + 1 by omega, Nat.zero_add, grI, if_pos g]
   rw [e]
   exact LeD.refl _
  ·rw [wi (by omega)] at hx
   subst hx
   refine ⟨_, rfl, ⟨q, q2⟩, by omega, by omega, by omega, fun j hj => ?_⟩
   rcases (by omega : (j : Int) < k ∨ j = k) with c | rfl
   ·exact i4 j c
   ·exact g
 ·have h := of_decide_eq_false h
  have e : cnG ls cs.length = ([], false) := by
   unfold cnG
   rw [grI_skip (ls.length + 1) _ _ (Nat.le_refl _) fun j _ h2 => i4 j (by omega), Nat.sub_self, grI]
  rw [e]
  exact le_tu le_nil (LeD.refl _)
theorem zero_ref01_ContradictingIn_0 (cs : List ByteArray) (ls : List Lnk) (v0_0 : Int)  (hi : (ntE cs ls = 0 ∧ bdB ls cs.length = false) ∧ 1 ≤ v0_0 ∧ v0_0 ≤ ls.length + 1 ∧ (0 : Int) + v0_0 = ls.length + 2 ∧ ∀ j : Nat, (j : Int) < v0_0 → (grow ls cs.length j [] 0).2 = false) : False := by
 omega
theorem spec_ref01_ContradictingIn (cs : List ByteArray) (ls : List Lnk) (hp : ntE cs ls = 0) : vc_ref01_ContradictingIn (J_ref01_ContradictingIn cs ls) cs ls (fun r => LeD r (.tu [.c (.sl 1 (((cnG ls (cs).length).1).length) (intsC ((cnG ls (cs).length).1))), .c (.v (.bool ((cnG ls (cs).length).2)))])) := by
 unfold vc_ref01_ContradictingIn
 simp only [lnks_listC, ints_listC]
 have z := ntE_bd hp
 obtain ⟨⟨z1, z2⟩, z3, z4⟩ := z
 rw [Int.toNat_natCast] at z4
 have hn : cs.length ≤ 6 := by omega
 have eB : clO ls (alI ls) cs.length = bdB ls cs.length := by rw [agree_cl hn z4 (al_ok ls), sel_all]
 refine ⟨⟨txP_txs cs, numsP_lnks ls, by omega⟩, ⟨numsP_lnks ls, numsP_ints _, ⟨by omega, by omega⟩, ⟨by omega, by rw [al_len]; omega⟩, z4, al_ok ls⟩, cond_i (fun h => ?_) (fun h => ?_)⟩
 ·have h : bdB ls cs.length = true := by rw [← eB]; exact h
  rw [show cnG ls cs.length = ([], false) from cnG_none hn z4 h]
  exact le_tu le_nil (LeD.refl _)
 ·have h : bdB ls cs.length = false := by rw [← eB]; exact h
  exact ⟨ls.length + 1, _, rfl, ⟨hp, h⟩, by omega, by omega, by omega, fun j hj => by rw [show j = 0 by omega]; exact grow_0 hn ls⟩
theorem all_ref01_ContradictingIn (cs : List ByteArray) (ls : List Lnk) (hp : ntE cs ls = 0) : AllG (J_ref01_ContradictingIn cs ls) (loopsFn Try.prog tab Si4116 ann_ref01_ContradictingIn (J_ref01_ContradictingIn cs ls) Try.f74 (fun r => LeD r (.tu [.c (.sl 1 (((cnG ls (cs).length).1).length) (intsC ((cnG ls (cs).length).1))), .c (.v (.bool ((cnG ls (cs).length).2)))]))) := by
 rw [lp_ref01_ContradictingIn]
 refine ⟨⟨?_, ?_⟩, trivial⟩
 ·intro F s h
  obtain _ | ⟨g, F⟩ := F
  case cons => exact h.elim
  obtain ⟨w0, rfl, hi⟩ := h
  exact zero_ref01_ContradictingIn_0 cs ls w0 hi
 ·intro n F s h
  obtain _ | ⟨g, F⟩ := F
  case cons => exact h.elim
  obtain ⟨w0, rfl, hi⟩ := h
  rw [er_ref01_ContradictingIn_0]
  exact rnd_ref01_ContradictingIn_0 cs ls _ _ hp hi
def con_ref01_ContradictingIn : Con := fun args => match args with
 | [.t (.a [.sl 1 n_cs c_cs, .sl 4 n_ls c_ls])] => some (.tu [.c (.sl 1 (((cnG (listC n_ls mkLnk c_ls) ((txOf n_cs c_cs)).length).1).length) (intsC ((cnG (listC n_ls mkLnk c_ls) ((txOf n_cs c_cs)).length).1))), .c (.v (.bool ((cnG (listC n_ls mkLnk c_ls) ((txOf n_cs c_cs)).length).2)))], some (txP n_cs c_cs ∧ numsP 4 n_ls c_ls ∧ ntE (txOf n_cs c_cs) (listC n_ls mkLnk c_ls) = 0), false)
 | _ => none
theorem ok_ref01_ContradictingIn : Ok Try.prog 74 con_ref01_ContradictingIn := by
 refine Ok.fn (ann := ann_ref01_ContradictingIn) mixed tabOK VSi4116 VI1 (fn := Try.f74) (by kernel_rfl) (by kernel_rfl) fit_ref01_ContradictingIn fun args r pre fresh h hp => ?_
 unfold con_ref01_ContradictingIn at h
 split at h
 ·rename_i n_cs c_cs n_ls c_ls
  cases h
  obtain ⟨hp0, hp1, hp⟩ := hp
  refine ⟨rfl, J_ref01_ContradictingIn (txOf n_cs c_cs) (listC n_ls mkLnk c_ls), [.t (.a [.sl 1 ((txOf n_cs c_cs).length) (txsC (txOf n_cs c_cs)), .sl 4 ((listC n_ls mkLnk c_ls).length) (lnksC (listC n_ls mkLnk c_ls))])], ?_, Nat.le_of_ble_eq_true (by kernel_rfl), ?_, ?_⟩
  ·exact (LeA_cons (leT_a (LeCs.cons ((leL_str hp0)) (LeCs.cons ((leL_Lnk hp1)) LeCs.nil))) LeA_nil)
  ·rw [ev_ref01_ContradictingIn]; exact spec_ref01_ContradictingIn (txOf n_cs c_cs) (listC n_ls mkLnk c_ls) hp
  ·exact all_ref01_ContradictingIn (txOf n_cs c_cs) (listC n_ls mkLnk c_ls) hp
 ·cases h
def Si4117 : Sum := addS Si4116 74 con_ref01_ContradictingIn
theorem VSi4117 : Valid Try.prog Si4117 := Valid.add VSi4116 ok_ref01_ContradictingIn
def mk_ref01_Named_0 (cs : List ByteArray) (ls : List Lnk) (v0_0 : Int) : DS := ⟨[none, some (.t (.c (.p 1 0))), none, none, none, none, some (.t (.c (.v (.int .i64 v0_0)))), none, none, none, none, none, none, none, none, none, none, none, none, none, none, none, none, none, none, none, none, none, none, none, none, none, none, none, none, none, none, none], [none, some (.box 55 [.sl 1 cs.length (txsC cs), .sl 4 ls.length (lnksC ls)]), none, none, none, none, none, none, none, none, none, none, none, none, none, none, none, none, none, none, none, none, none, none, none, none, none, none, none, none, none, none, none, none, none, none, none, none]⟩
def vc_ref01_Named (J : Inv) (cs : List ByteArray) (ls : List Lnk) (post : DV → Prop) : Prop := (txP cs.length (txsC cs) ∧ numsP 4 ls.length (lnksC ls) ∧ ((listC ls.length mkLnk (lnksC ls))).length ≤ 1000000) ∧ ((numsP 4 ls.length (lnksC ls) ∧ numsP 1 ((alI (listC ls.length mkLnk (lnksC ls))).length) (intsC (alI (listC ls.length mkLnk (lnksC ls)))) ∧ clOk cs.length (listC ls.length mkLnk (lnksC ls)) (listC ((alI (listC ls.length mkLnk (lnksC ls))).length) mkInt (intsC (alI (listC ls.length mkLnk (lnksC ls)))))) ∧ (cond (clO (listC ls.length mkLnk (lnksC ls)) (listC ((alI (listC ls.length mkLnk (lnksC ls))).length) mkInt (intsC (alI (listC ls.length mkLnk (lnksC ls))))) cs.length) (post (.tu [.c (.v (.string ⟨#[]⟩)), .c (.v (.bool false))])) (∃ n, J 0 (n :: []) (mk_ref01_Named_0 cs ls 1))))
def ann_ref01_Named : Ann := ⟨fun r => lookA r [(1, ([[], [], [1], [0, 1, 2], [0, 1, 2, 3], [0, 1, 2, 3, 4], [0, 1, 2, 3, 4], [], [0, 1, 2, 3, 4, 5, 7], [0, 1, 2, 3, 4, 5, 6, 7, 8]], [[12, 13, 4], [12, 13, 4], [13, 4], [4], [4], [4], [4], [12, 13], [], []])), (7, ([[], [], [], [1, 2], [0, 1, 2, 3], [0, 1, 2, 3, 4], [0, 1, 2, 3, 4, 5], [0, 1, 2, 3, 4, 5], [], [0, 1, 2, 3, 4, 5, 6, 8], [0, 1, 2, 3, 4, 5, 6, 7, 8, 9]], [[28, 29, 7], [28, 29, 7], [28, 29, 7], [29, 7], [7], [7], [7], [7], [28, 29], [], []]))], fun b => lookA b [(0, (none, some ⟨[1, 6], [1], []⟩))], fun _ => [], I1, false, fun _ => none, fun _ => none⟩
theorem ev_ref01_Named (J : Inv) (cs : List ByteArray) (ls : List Lnk) (post : DV → Prop) : evFn Try.prog tab Si4117 ann_ref01_Named J Try.f76 [.t (.a [.sl 1 cs.length (txsC cs), .sl 4 ls.length (lnksC ls)])] post = vc_ref01_Named J cs ls post := by kernel_rfl
theorem fit_ref01_Named : okFn ann_ref01_Named Try.f76 = true := by kernel_rfl
def rd_ref01_Named_0 (J : Inv) (cs : List ByteArray) (ls : List Lnk) (v0_0 : Int) (nn0 : Nat) (post : DV → Prop) : Prop := cond (decide (v0_0 < ((cs.length : Nat) : Int))) ((txP cs.length (txsC cs) ∧ numsP 4 ls.length (lnksC ls) ∧ ((listC ls.length mkLnk (lnksC ls))).length ≤ 1000000) ∧ ((numsP 4 ls.length (lnksC ls) ∧ numsP 1 ((woI (listC ls.length mkLnk (lnksC ls)) v0_0).length) (intsC (woI (listC ls.length mkLnk (lnksC ls)) v0_0)) ∧ clOk cs.length (listC ls.length mkLnk (lnksC ls)) (listC ((woI (listC ls.length mkLnk (lnksC ls)) v0_0).length) mkInt (intsC (woI (listC ls.length mkLnk (lnksC ls)) v0_0)))) ∧ (cond (clO (listC ls.length mkLnk (lnksC ls)) (listC ((woI (listC ls.length mkLnk (lnksC ls)) v0_0).length) mkInt (intsC (woI (listC ls.length mkLnk (lnksC ls)) v0_0))) cs.length) ((0 ≤ v0_0 ∧ v0_0 < ((cs.length : Nat) : Int)) ∧ (post (.tu [.c (.v (.string (txAt cs v0_0.toNat))), .c (.v (.bool true))]))) (lt (IntKind.i64.wrap (v0_0 + (1 : Int))) fun x1 => J 0 (nn0 :: []) (mk_ref01_Named_0 cs ls x1))))) (post (.tu [.c (.v (.string ⟨#[]⟩)), .c (.v (.bool false))]))
theorem er_ref01_Named_0 (J : Inv) (cs : List ByteArray) (ls : List Lnk) (v0_0 : Int) (nn0 : Nat) (post : DV → Prop) : round Try.prog tab Si4117 ann_ref01_Named J Try.f76 post 0 (nn0 :: []) (mk_ref01_Named_0 cs ls v0_0) = rd_ref01_Named_0 J cs ls v0_0 nn0 post := by kernel_rfl
theorem lp_ref01_Named (J : Inv) (post : DV → Prop) : AllG J (loopsFn Try.prog tab Si4117 ann_ref01_Named J Try.f76 post) = (((∀ F s, ¬ J 0 (0 :: F) s) ∧ ∀ n F s, J 0 ((n + 1) :: F) s → round Try.prog tab Si4117 ann_ref01_Named J Try.f76 post 0 (n :: F) s) ∧ True) := by kernel_rfl
def J_ref01_Named (cs : List ByteArray) (ls : List Lnk) : Inv := fun b F s => match b, F with
 | 0, [nn0] => ∃ (v0_0 : Int), s = mk_ref01_Named_0 cs ls v0_0 ∧ ((ntE cs ls = 0 ∧ bdB ls cs.length = false) ∧ 1 ≤ v0_0 ∧ v0_0 ≤ cs.length ∧ (nn0 : Int) + v0_0 = cs.length + 1 ∧ ∀ j : Nat, 1 ≤ j → (j : Int) < v0_0 → nmF ls cs.length j = false)
 | _, _ => False
theorem rnd_ref01_Named_0 (cs : List ByteArray) (ls : List Lnk) (v0_0 : Int) (nn0 : Nat) (hp : ntE cs ls = 0) (hi : (ntE cs ls = 0 ∧ bdB ls cs.length = false) ∧ 1 ≤ v0_0 ∧ v0_0 ≤ cs.length ∧ ((nn0 + 1) : Int) + v0_0 = cs.length + 1 ∧ ∀ j : Nat, 1 ≤ j → (j : Int) < v0_0 → nmF ls cs.length j = false) : rd_ref01_Named_0 (J_ref01_Named cs ls) cs ls v0_0 nn0 (fun r => LeD r (.tu [.c (.v (.string (nmS cs ls))), .c (.v (.bool (nmB cs ls)))])) := by
 obtain ⟨⟨q, q2⟩, i1, i2, i3, i4⟩ := hi
 obtain ⟨k, rfl⟩ : ∃ k : Nat, v0_0 = k := ⟨v0_0.toNat, by omega⟩
 have hk : (k : Int).toNat = k := rfl
 have z := ntE_bd q
 obtain ⟨⟨z1, z2⟩, z3, z4⟩ := z
 rw [Int.toNat_natCast] at z4
 have hn : cs.length ≤ 6 := by omega
 have hl := woK_len ls k ls.length
 have hl : (woI ls k).length ≤ ls.length := hl
 unfold rd_ref01_Named_0
 simp only [lnks_listC, ints_listC]
 rw [hk]
 refine cond_i (fun h => ?_) (fun h => ?_)
 ·have hlt : k < cs.length := by have := of_decide_eq_true h; omega
  refine ⟨⟨txP_txs cs, numsP_lnks ls, by omega⟩, ⟨numsP_lnks ls, numsP_ints _, ⟨by omega, by omega⟩, ⟨by omega, by omega⟩, z4, wo_ok ls k⟩, ?_⟩
  rw [agree_cl hn z4 (wo_ok ls k)]
  refine cond_i (fun g => ⟨by omega, ?_⟩) (fun g => lt_i fun x hx => ?_)
  ·have e : nmI cs ls = some k := (if_neg (by rw [q2]; simp)).trans (nmR_hit (by omega) (by omega) (fun j h1 h2 => i4 j h1 (by omega)) g)
   unfold nmS nmB
   rw [e]
   exact LeD.refl _
  ·rw [wi (by omega)] at hx
   subst hx
   refine ⟨_, rfl, ⟨q, q2⟩, by omega, by omega, by omega, fun j h1 h2 => ?_⟩
   rcases (by omega : (j : Int) < k ∨ j = k) with c | rfl
   ·exact i4 j h1 c
   ·exact g
 ·have h := of_decide_eq_false h
  have e : nmI cs ls = none := (if_neg (by rw [q2]; simp)).trans (nmR_none fun j h1 h2 => i4 j h1 (by omega))
  unfold nmS nmB
  rw [e]
  exact LeD.refl _
theorem zero_ref01_Named_0 (cs : List ByteArray) (ls : List Lnk) (v0_0 : Int)  (hi : (ntE cs ls = 0 ∧ bdB ls cs.length = false) ∧ 1 ≤ v0_0 ∧ v0_0 ≤ cs.length ∧ (0 : Int) + v0_0 = cs.length + 1 ∧ ∀ j : Nat, 1 ≤ j → (j : Int) < v0_0 → nmF ls cs.length j = false) : False := by
 omega
theorem spec_ref01_Named (cs : List ByteArray) (ls : List Lnk) (hp : ntE cs ls = 0) : vc_ref01_Named (J_ref01_Named cs ls) cs ls (fun r => LeD r (.tu [.c (.v (.string (nmS cs ls))), .c (.v (.bool (nmB cs ls)))])) := by
 unfold vc_ref01_Named
 simp only [lnks_listC, ints_listC]
 have z := ntE_bd hp
 obtain ⟨⟨z1, z2⟩, z3, z4⟩ := z
 rw [Int.toNat_natCast] at z4
 have hn : cs.length ≤ 6 := by omega
 have eB : clO ls (alI ls) cs.length = bdB ls cs.length := by rw [agree_cl hn z4 (al_ok ls), sel_all]
 refine ⟨⟨txP_txs cs, numsP_lnks ls, by omega⟩, ⟨numsP_lnks ls, numsP_ints _, ⟨by omega, by omega⟩, ⟨by omega, by rw [al_len]; omega⟩, z4, al_ok ls⟩, cond_i (fun h => ?_) (fun h => ?_)⟩
 ·have h : bdB ls cs.length = true := by rw [← eB]; exact h
  have e : nmI cs ls = none := if_pos h
  unfold nmS nmB
  rw [e]
  exact LeD.refl _
 ·have h : bdB ls cs.length = false := by rw [← eB]; exact h
  exact ⟨cs.length, _, rfl, ⟨hp, h⟩, by omega, by omega, by omega, fun j h1 h2 => by omega⟩
theorem all_ref01_Named (cs : List ByteArray) (ls : List Lnk) (hp : ntE cs ls = 0) : AllG (J_ref01_Named cs ls) (loopsFn Try.prog tab Si4117 ann_ref01_Named (J_ref01_Named cs ls) Try.f76 (fun r => LeD r (.tu [.c (.v (.string (nmS cs ls))), .c (.v (.bool (nmB cs ls)))]))) := by
 rw [lp_ref01_Named]
 refine ⟨⟨?_, ?_⟩, trivial⟩
 ·intro F s h
  obtain _ | ⟨g, F⟩ := F
  case cons => exact h.elim
  obtain ⟨w0, rfl, hi⟩ := h
  exact zero_ref01_Named_0 cs ls w0 hi
 ·intro n F s h
  obtain _ | ⟨g, F⟩ := F
  case cons => exact h.elim
  obtain ⟨w0, rfl, hi⟩ := h
  rw [er_ref01_Named_0]
  exact rnd_ref01_Named_0 cs ls _ _ hp hi
def con_ref01_Named : Con := fun args => match args with
 | [.t (.a [.sl 1 n_cs c_cs, .sl 4 n_ls c_ls])] => some (.tu [.c (.v (.string (nmS (txOf n_cs c_cs) (listC n_ls mkLnk c_ls)))), .c (.v (.bool (nmB (txOf n_cs c_cs) (listC n_ls mkLnk c_ls))))], some (txP n_cs c_cs ∧ numsP 4 n_ls c_ls ∧ ntE (txOf n_cs c_cs) (listC n_ls mkLnk c_ls) = 0), false)
 | _ => none
theorem ok_ref01_Named : Ok Try.prog 76 con_ref01_Named := by
 refine Ok.fn (ann := ann_ref01_Named) mixed tabOK VSi4117 VI1 (fn := Try.f76) (by kernel_rfl) (by kernel_rfl) fit_ref01_Named fun args r pre fresh h hp => ?_
 unfold con_ref01_Named at h
 split at h
 ·rename_i n_cs c_cs n_ls c_ls
  cases h
  obtain ⟨hp0, hp1, hp⟩ := hp
  refine ⟨rfl, J_ref01_Named (txOf n_cs c_cs) (listC n_ls mkLnk c_ls), [.t (.a [.sl 1 ((txOf n_cs c_cs).length) (txsC (txOf n_cs c_cs)), .sl 4 ((listC n_ls mkLnk c_ls).length) (lnksC (listC n_ls mkLnk c_ls))])], ?_, Nat.le_of_ble_eq_true (by kernel_rfl), ?_, ?_⟩
  ·exact (LeA_cons (leT_a (LeCs.cons ((leL_str hp0)) (LeCs.cons ((leL_Lnk hp1)) LeCs.nil))) LeA_nil)
  ·rw [ev_ref01_Named]; exact spec_ref01_Named (txOf n_cs c_cs) (listC n_ls mkLnk c_ls) hp
  ·exact all_ref01_Named (txOf n_cs c_cs) (listC n_ls mkLnk c_ls) hp
 ·cases h
def Si4118 : Sum := addS Si4117 76 con_ref01_Named
theorem VSi4118 : Valid Try.prog Si4118 := Valid.add VSi4117 ok_ref01_Named
end Go.Proofs.Ytkifmfmenobhnaa
set_option linter.unusedVariables false
set_option linter.unusedSimpArgs false
namespace Go.Proofs.Ytkifmfmenobhnaa
open Go.RowKit Ev
theorem netErr_calls {cs : List ByteArray} {ls : List Lnk} (hs : ∀ k, k < cs.length → (txAt cs k).size ≤ 1000000) {W : World} {N : Nat → Prop} (hG : Gd W) {x0 x1 : Value} (h0 : RelF W N (.sl 1 cs.length (txsC cs)) x0) (h1 : RelF W N (.sl 4 ls.length (lnksC ls)) x1) :
  Calls Try.prog 92 #[.agg #[x0, x1]] W fun e w' => e = .returned (.int .i64 (ntE cs ls)) ∧ Below W.heap.size W w' := by
 have h := (ok_clock_netErr [.t (.a [.sl 1 cs.length (txsC cs), .sl 4 ls.length (lnksC ls)])] _ _ _ rfl (by simp only [txs_of]; exact ⟨txP_txs cs, numsP_lnks ls, hs⟩)).2 W N [.agg #[x0, x1]] hG (show All2 (RelD (RelF W N)) _ _ from ⟨⟨[x0, x1], rfl, h0, h1, trivial⟩, trivial⟩)
 refine h.mono ?_
 rintro e w' ⟨u, rfl, hr, hb⟩
 simp only [lnks_listC, txs_of] at hr
 obtain ⟨rfl, _⟩ := hr
 exact ⟨rfl, hb⟩
theorem agree_calls {L : List Lnk} {n : Nat} (hok : bdOk n L) {W : World} {N : Nat → Prop} (hG : Gd W) {x : Value} (h1 : RelF W N (.sl 4 L.length (lnksC L)) x) :
  Calls Try.prog 116 #[.int .i64 n, x] W fun e w' => e = .returned (.bool (bdB L n)) ∧ Below W.heap.size W w' := by
 have h := (ok_clock_agree [.t (.c (.v (.int .i64 n))), .t (.c (.sl 4 L.length (lnksC L)))] _ _ _ rfl (by rw [lnks_listC]; exact ⟨numsP_lnks L, hok⟩)).2 W N [.int .i64 n, x] hG (show All2 (RelD (RelF W N)) _ _ from ⟨⟨rfl, rfl⟩, h1, trivial⟩)
 refine h.mono ?_
 rintro e w' ⟨u, rfl, hr, hb⟩
 simp only [lnks_listC, Int.toNat_natCast] at hr
 obtain ⟨rfl, _⟩ := hr
 exact ⟨rfl, hb⟩
theorem first_calls {z : Int} {W : World} (hG : Gd W) {b : Nat} (hb : b < W.heap.size) (hc : W.cell? ⟨b, 0, none⟩ = some (.int .i64 z)) :
  Calls Try.prog 82 #[.slice (some ⟨b, 0, none⟩) 1 1] W fun e w' => e = .returned (.int .i64 z) ∧ Below W.heap.size W w' := by
 have h := (ok_clock_first [.t (.c (.sl 1 [z].length (intsC [z])))] _ _ _ rfl (by rw [ints_listC]; exact ⟨numsP_ints [z], by simp⟩)).2 W (fun _ => True) [.slice (some ⟨b, 0, none⟩) 1 1] hG (show All2 (RelD (RelF W fun _ => True)) _ _ from ⟨⟨_, _, rfl, Nat.le_refl _, by unfold maxLen; decide, (fun h => by cases h), fun _ => ⟨b, 0, rfl, hb, trivial, fun i j hi hj => by
  obtain rfl : i = 0 := by simp at hi; omega
  obtain rfl : j = 0 := by omega
  exact ⟨.int .i64 z, hc, rfl, rfl⟩⟩⟩, trivial⟩)
 refine h.mono ?_
 rintro e w' ⟨u, rfl, hr, hb⟩
 simp only [ints_listC] at hr
 obtain ⟨rfl, _⟩ := hr
 refine ⟨?_, hb⟩
 have : firstNZ [z] = z := by unfold firstNZ; by_cases c : z = 0 <;> simp [c, firstNZ]
 rw [this]
theorem slAt_lnk {w : World} {N : Nat → Prop} {ls : List Lnk} {v : Value} (h : RelF w N (.sl 4 ls.length (lnksC ls)) v) : SlAt w v ls.length 4 fun i j => lkC (lnkAt ls i) j := by
 obtain ⟨ao, cap, rfl, h1, h2, h3, h4⟩ := h
 refine ⟨ao, cap, rfl, h1, h2, fun h0 => ?_, h3⟩
 obtain ⟨b, off, e1, e2, _, e4⟩ := h4 h0
 refine ⟨b, off, e1, e2, fun i j hi hj => ?_⟩
 obtain ⟨x, y1, y2⟩ := e4 i j hi hj
 rw [y1]
 rcases (by omega : j = 0 ∨ j = 1 ∨ j = 2 ∨ j = 3) with rfl | rfl | rfl | rfl
 ·obtain ⟨rfl, _⟩ := y2; rfl
 ·obtain ⟨rfl, _⟩ := y2; rfl
 ·obtain ⟨rfl, _⟩ := y2; rfl
 ·obtain ⟨rfl, _⟩ := y2; rfl
theorem relF_lk {w : World} {g cap : Nat} {K : List Lnk} (hg : g < w.heap.size) (hc : K.length ≤ cap) (hm : cap ≤ maxLen) (h : LkIn w g K 0 K.length) : RelF w (fun _ => True) (.sl 4 K.length (lnksC K)) (.slice (some ⟨g, 0, none⟩) K.length cap) := by
 refine ⟨_, cap, rfl, hc, hm, (fun h => by cases h), fun _ => ⟨g, 0, rfl, hg, trivial, fun i j hi hj => ⟨_, by rw [Nat.zero_add]; exact h i (Nat.zero_le _) hi j hj, ?_⟩⟩⟩
 rcases (by omega : j = 0 ∨ j = 1 ∨ j = 2 ∨ j = 3) with rfl | rfl | rfl | rfl <;> exact ⟨rfl, rfl⟩
theorem own_lk {w : World} {base : Nat} {u : Value} {ls : List Lnk} (h : w.ownsRow base 125 4 u ls.length (lkFl ls)) (hne : ls ≠ []) : ∃ g cap, u = .slice (some ⟨g, 0, none⟩) ls.length cap ∧ base ≤ g ∧ g < w.heap.size ∧ ls.length ≤ cap ∧ cap ≤ maxLen ∧ LkIn w g ls 0 ls.length ∧ ∀ o, w.frozen? ⟨g, o, none⟩ = false := by
 rcases h.2 with ⟨rfl, h0⟩ | ⟨g, oc, cur, rfl, hbg, hgc, hmc, hcm, hcs, htk⟩
 ·exact absurd (List.eq_nil_of_length_eq_zero h0) hne
 ·refine ⟨g, oc, rfl, hbg, (Array.getElem?_eq_some_iff.1 hgc).1, hmc, hcm, fun p _ hp c hc => ?_, fun o => ?_⟩
  ·rw [cell_of_row w g _ cur _ (0, 0) hgc]
   have e : (lkFl ls)[p * 4 + c]? = some (lkC (lnkAt ls p) c) := by
    unfold lkFl
    rw [flat_get (by omega), show (p * 4 + c) / 4 = p by omega, show (p * 4 + c) % 4 = c by omega]
   rw [← htk, List.getElem?_take] at e
   split at e
   ·simpa using e
   ·cases e
  ·simp [World.frozen?, hgc]
theorem lnk_memJ {l : List Lnk} {k : Nat} (h : k < l.length) : lnkAt l k ∈ l := by
 have : lnkAt l k = l[k] := by simp [lnkAt, List.getD, h]
 rw [this]; exact List.getElem_mem h
def ptrInt (t : Value) (w : World) : Nat := match t with
 | .pointer (some a) => match w.cell? a with
  | some v => (intOf v).toNat
  | none => 0
 | _ => 0
theorem keptK_all (q : Int) (l : List Lnk) : keptK q l l.length = selL l (woI l q) := by
 unfold keptK selL woI woK
 rw [List.take_length, List.map_map]
 have e : l = (List.range l.length).map fun i => lnkAt l i := by
  apply List.ext_getElem (by simp)
  intro i h1 h2
  simp [lnkAt, List.getD, h1]
 conv => lhs; rw [e]
 rw [List.filter_map]
 congr 1
 apply List.filter_congr
 intro i _
 simp only [Function.comp, hasK]
 unfold bne
 cases ((lnkAt l i).frm == q) <;> cases ((lnkAt l i).to == q) <;> rfl
theorem bdB_nil {n : Nat} (hn : n ≤ 6) : bdB [] n = true := by
 have := grow_0 hn []
 have h : (!bdB (selL [] []) n) = false := this
 simpa [selL] using h
def nmdE (cs : List ByteArray) (ls : List Lnk) : Int := if ntE cs ls ≠ 0 then ntE cs ls else if nmB cs ls = true then 0 else 12
def nmdT (cs : List ByteArray) (ls : List Lnk) : ByteArray := if ntE cs ls ≠ 0 then ⟨#[]⟩ else nmS cs ls
set_option maxRecDepth 100000 in
set_option maxHeartbeats 2000000 in
theorem walk_NamedIn (cs : List ByteArray) (ls : List Lnk) (hs : ∀ k, k < cs.length → (txAt cs k).size ≤ 1000000) (W : World) (N : Nat → Prop) (hG : Gd W) (x0 x1 : Value) (h0 : RelF W N (.sl 1 cs.length (txsC cs)) x0) (h1 : RelF W N (.sl 4 ls.length (lnksC ls)) x1) :
  Calls Try.prog 73 #[.agg #[x0, x1]] W fun e w' => e = .returned (.tuple #[.string (nmdT cs ls), .int .i64 (nmdE cs ls)]) ∧ Below W.heap.size W w' := by
 have HG := hid hG
 have HS := hid hs
 have H0 := hid h0
 have H1 := hid h1
 obtain ⟨aoC, capC, hx0, hc1, hc2, _⟩ := h0
 subst hx0
 obtain ⟨aoL, capL, hx1, hl1, hl2, _⟩ := h1
 subst hx1
 have HN : Hid (∀ w, Below W.heap.size W w → Calls Try.prog 92 #[.agg #[.slice aoC cs.length capC, .slice aoL ls.length capL]] w fun e w' => e = .returned (.int .i64 (ntE cs ls)) ∧ Below w.heap.size w w') := hid fun w hb => netErr_calls HS.out (HG.out.below hb) (relF_below H0.out hb) (relF_below H1.out hb)
 have HA : Hid (ntE cs ls = 0 → ∀ w, Below W.heap.size W w → Calls Try.prog 116 #[.int .i64 (cs.length : Nat), .slice aoL ls.length capL] w fun e w' => e = .returned (.bool (bdB ls cs.length)) ∧ Below w.heap.size w w') := hid fun hz w hb => agree_calls (ntE_bd hz) (HG.out.below hb) (relF_below H1.out hb)
 have HF : Hid (∀ z w b, Below W.heap.size W w → b < w.heap.size → w.cell? ⟨b, 0, none⟩ = some (.int .i64 z) → Calls Try.prog 82 #[.slice (some ⟨b, 0, none⟩) 1 1] w fun e w' => e = .returned (.int .i64 z) ∧ Below w.heap.size w w') := hid fun z w b hb hlt hc => first_calls (HG.out.below hb) hlt hc
 clear hs hG
 obtain ⟨z, hz⟩ : ∃ z, z = ntE cs ls := ⟨_, rfl⟩
 rw [← hz] at HN HA
 have HZ := hid hz
 clear hz
 go_enter Try.func73, Try.ntmps73
 go_wp2_with fail
 obtain ⟨W0, hW0⟩ : ∃ W0, W0 = W.alloc (.cells #[.slice aoC cs.length capC, .slice aoL ls.length capL] 55) := ⟨_, rfl⟩
 have r0 : W0.cell? ⟨W.heap.size, 0, none⟩ = some (.slice aoC cs.length capC) := by rw [hW0]; simp
 have r1 : W0.cell? ⟨W.heap.size, 1, none⟩ = some (.slice aoL ls.length capL) := by rw [hW0]; simp
 have hk0 : W.heap.size < W0.heap.size := by rw [hW0]; simp
 have hBW : Below W.heap.size W W0 := by rw [hW0]; exact BelowA
 rw [← hW0]
 clear hW0
 have HK0 := hid hk0
 have HBW := hid hBW
 have HR0 := hid r0
 have HR1 := hid r1
 clear r0 r1
 refine (HN.out _ hBW).mono ?_
 rintro _ w1 ⟨rfl, hb1⟩
 have HB1 := hid hb1
 clear hBW hb1
 go_wp2_with fail
 refine (HF.out z _ w1.heap.size (HBW.out.trans (Below.mono (show Below W0.heap.size W0 _ from HB1.out.trans (by have := HB1.out.size; exact BelowA)) HBW.out.size)) (by simp) (by simp)).mono ?_
 rintro _ w2 ⟨rfl, hb2⟩
 have HB2 : Hid (Below W0.heap.size W0 w2) := hid (HB1.out.trans (Below.mono (show Below w1.heap.size w1 w2 by exact BelowA) HB1.out.size))
 clear hb2
 by_cases hz0 : z = 0
 case neg =>
  go_wp2_with fail
  ((try simp only [Exit.inBlock, Exit.then]); refine bodyPost_ret (v := .tuple #[.string ⟨#[]⟩, .int .i64 z]) ?_ rfl ?_; (next => simp [results, Try.results73, go_sem]))
  have hz : ntE cs ls ≠ 0 := by rw [← HZ.out]; exact hz0
  exact ⟨by rw [show nmdT cs ls = ⟨#[]⟩ from if_pos hz, show nmdE cs ls = ntE cs ls from if_pos hz, ← HZ.out], HBW.out.trans (HB2.out.mono HBW.out.size)⟩
 subst hz0
 have hz : ntE cs ls = 0 := HZ.out.symm
 have HZ0 := hid hz
 clear hz
 have c0 := (HB2.out.cell (p := ⟨W.heap.size, 0, none⟩) HK0.out).trans HR0.out
 have c1 := (HB2.out.cell (p := ⟨W.heap.size, 1, none⟩) HK0.out).trans HR1.out
 go_wp2_with fail
 refine (HA.out (by first | trivial | rfl) _ (HBW.out.trans (HB2.out.mono HBW.out.size))).mono ?_
 rintro _ w3 ⟨rfl, hb3⟩
 have HB3 : Hid (Below W0.heap.size W0 w3) := hid (HB2.out.trans (hb3.mono HB2.out.size))
 clear hb3 c0 c1
 obtain ⟨ag, hag⟩ : ∃ ag, ag = bdB ls cs.length := ⟨_, rfl⟩
 rw [← hag]
 have HAG := hid hag
 clear hag
 cases ag with
 | true =>
  go_wp2_with fail
  ((try simp only [Exit.inBlock, Exit.then]); refine bodyPost_ret (v := .tuple #[.string ⟨#[]⟩, .int .i64 12]) ?_ rfl ?_; (next => simp [results, Try.results73, go_sem]))
  have e : nmI cs ls = none := if_pos HAG.out.symm
  have e1 : nmdT cs ls = ⟨#[]⟩ := by unfold nmdT nmS; rw [if_neg (by rw [HZ0.out]; simp), e]
  have e2 : nmdE cs ls = 12 := by unfold nmdE nmB; rw [if_neg (by rw [HZ0.out]; simp), e]; rfl
  exact ⟨by rw [e1, e2], HBW.out.trans (HB3.out.mono HBW.out.size)⟩
 | false =>
  go_wp2_with fail
  have hne : ls ≠ [] := fun e => by have := HAG.out; rw [e, bdB_nil (by have := (ntE_bd HZ0.out).1; omega)] at this; cases this
  have HNE := hid hne
  clear hne
  go_loopw [5] (fun t wr => ∃ k b : Nat, 1 ≤ k ∧ k ≤ cs.length ∧ t = .pointer (some ⟨b, 0, none⟩) ∧ W0.heap.size ≤ b ∧ b < wr.heap.size ∧ wr.cell? ⟨b, 0, none⟩ = some (.int .i64 k) ∧ Hid (wr.frozen? ⟨b, 0, none⟩ = false) ∧ Below W0.heap.size W0 wr ∧ Hid (∀ j, 1 ≤ j → j < k → nmF ls cs.length j = false)) (fun t w => cs.length - ptrInt t w)
  case atStart => 
   refine ⟨1, w3.heap.size, Nat.le_refl _, by have := (ntE_bd HZ0.out).1; omega, rfl, HB3.out.size, by simp, by simp, hid (by simp), by have := HB3.out; have := HB3.out.size; exact BelowA, hid fun j h1 h2 => by omega⟩
  case round =>
   obtain ⟨k, b, hk1, hk2, rfl, hb0, hb1, hkc, HFZ, hB, HF⟩ := hrel
   have HB := hid hB
   clear hB
   have c0 := (HB.out.cell (p := ⟨W.heap.size, 0, none⟩) HK0.out).trans HR0.out
   have c1 := (HB.out.cell (p := ⟨W.heap.size, 1, none⟩) HK0.out).trans HR1.out
   by_cases hlt : k < cs.length
   ·have HW64 : Hid (wrap64 ((k : Int) + 1) = k + 1) := hid (IntWalk.wrap64_in _ (by have := (ntE_bd HZ0.out).1; clear c0 c1; omega))
    have hWr : Below W.heap.size W wr := HBW.out.trans (HB.out.mono HBW.out.size)
    have HWR := hid hWr
    have HCL := hid (walk_CloneL wr ls (.slice aoL ls.length capL) (slAt_lnk (relF_below H1.out hWr)) (by have := (ntE_bd HZ0.out).2.1; omega))
    have HKC := hid hkc
    have HB1' := hid hb1
    have HB0' := hid hb0
    clear hWr
    go_wp2_with fail
    refine HCL.out.mono ?_
    rintro _ w4 ⟨u, rfl, hown, hb4⟩
    obtain ⟨g, cap, rfl, hg0, hg1, hgc, hgm, hlk, hfz⟩ := own_lk hown HNE.out
    have HD := hid (walk_DeleteL w4 b k (Nat.lt_of_lt_of_le HB1'.out hb4.size) ((hb4.cell (p := ⟨b, 0, none⟩) HB1'.out).trans HKC.out) ls g cap hg1 (by have := HB1'.out; omega) (by have := (ntE_bd HZ0.out).2.1; omega) hlk hfz hgc)
    have HB4 := hid hb4
    have HG0 := hid hg0
    have HG1 := hid hg1
    clear hown hlk hfz hb4
    go_wp2_with fail
    refine HD.out.mono ?_
    rintro _ w5 ⟨rfl, hL5, hU5⟩
    have HU5 := hid hU5
    have HB5 : Hid (Below W0.heap.size W0 w5) := hid (by
     have q := HB.out.trans (HB4.out.mono HB.out.size)
     have zz := HB.out.size
     exact ⟨HU5.out.os.trans q.os, HU5.out.tape.trans q.tape, HU5.out.output.trans q.output, Nat.le_trans q.size HU5.out.size, fun j hj => (HU5.out.block j (by have := q.size; omega) (by have := HG0.out; omega)).trans (q.block j hj)⟩)
    have hkl := keptK_len k ls ls.length
    have hR5 : RelF w5 (fun _ => True) (.sl 4 (keptK k ls ls.length).length (lnksC (keptK k ls ls.length))) (.slice (some ⟨g, 0, none⟩) (keptK k ls ls.length).length cap) := relF_lk (Nat.lt_of_lt_of_le HG1.out HU5.out.size) (by omega) hgm hL5
    have hkc5 : w5.cell? ⟨b, 0, none⟩ = some (.int .i64 k) := (World.cell?_of_block (w := w4) (HU5.out.block b (Nat.lt_of_lt_of_le HB1'.out HB4.out.size) (by have := HB1'.out; have := HG0.out; omega))).trans ((HB4.out.cell (p := ⟨b, 0, none⟩) HB1'.out).trans HKC.out)
    have hb5 : b < w5.heap.size := Nat.lt_of_lt_of_le HB1'.out (Nat.le_trans HB4.out.size HU5.out.size)
    have hok : bdOk cs.length (keptK k ls ls.length) := by
     obtain ⟨z1, z2, z3⟩ := ntE_bd HZ0.out
     refine ⟨z1, by omega, fun i hi => ?_⟩
     have hm := lnk_memJ hi
     unfold keptK at hm
     obtain ⟨i2, hi2, e⟩ := mem_lnkJ (List.mem_of_mem_take (List.mem_filter.1 hm).1)
     unfold keptK
     rw [← e]
     exact z3 i2 hi2
    have HAG5 := hid (agree_calls hok (HG.out.below (HBW.out.trans (HB5.out.mono HBW.out.size))) hR5)
    have c05 := (HB5.out.cell (p := ⟨W.heap.size, 0, none⟩) HK0.out).trans HR0.out
    have c15 := (HB5.out.cell (p := ⟨W.heap.size, 1, none⟩) HK0.out).trans HR1.out
    obtain ⟨fl, hfl⟩ : ∃ fl, fl = bdB (keptK k ls ls.length) cs.length := ⟨_, rfl⟩
    rw [← hfl] at HAG5
    have HFL : Hid (nmF ls cs.length k = fl) := hid (by rw [hfl, keptK_all]; rfl)
    obtain ⟨m, hm⟩ : ∃ m, m = (keptK k ls ls.length).length := ⟨_, rfl⟩
    rw [← hm] at HAG5 ⊢
    have HKC5 := hid hkc5
    have HB5' := hid hb5
    clear hL5 hU5 hR5 hok hfl hm hkl
    cases fl with
    | true =>
     go_wp2_with fail
     refine HAG5.out.mono ?_
     rintro _ w6 ⟨rfl, hb6⟩
     have q6 : Below W0.heap.size W0 w6 := HB5.out.trans (hb6.mono HB5.out.size)
     have c06 := (q6.cell (p := ⟨W.heap.size, 0, none⟩) HK0.out).trans HR0.out
     have hkc6 := (hb6.cell (p := ⟨b, 0, none⟩) HB5'.out).trans HKC5.out
     have q7 : Below W.heap.size W w6 := HBW.out.trans (q6.mono HBW.out.size)
     have Q7 := hid q7
     obtain ⟨ao', cap', e1, _, _, _, e5⟩ := H0.out
     cases e1
     obtain ⟨bC, oC, rfl, e2, _, e4⟩ := e5 (by omega)
     obtain ⟨y, y1, y2⟩ := e4 k 0 hlt (by omega)
     obtain ⟨rfl, _⟩ := y2
     have hs6 : w6.cell? ⟨bC, oC + k, none⟩ = some (.string (txAt cs k)) := by
      rw [q7.cell (p := ⟨bC, oC + k, none⟩) e2, ← y1, show oC + k * 1 + 0 = oC + k by omega]
     clear e4 e5 y1 q6 hb6 q7
     go_wp2_with fail
     ((try simp only [Exit.inBlock, Exit.then]); refine bodyPost_ret (v := .tuple #[.string (txAt cs k), .int .i64 0]) ?_ rfl ?_; (next => simp [results, Try.results73, go_sem]))
     have e : nmI cs ls = some k := (if_neg (by rw [← HAG.out]; simp)).trans (nmR_hit hk1 hlt HF.out HFL.out)
     have e1 : nmdT cs ls = txAt cs k := by unfold nmdT nmS; rw [if_neg (by rw [HZ0.out]; simp), e]
     have e2 : nmdE cs ls = 0 := by unfold nmdE nmB; rw [if_neg (by rw [HZ0.out]; simp), e]; rfl
     exact ⟨by rw [e1, e2], Q7.out⟩
    | false =>
     go_wp2_with fail
     refine HAG5.out.mono ?_
     rintro _ w6 ⟨rfl, hb6⟩
     have q6 : Below W0.heap.size W0 w6 := HB5.out.trans (hb6.mono HB5.out.size)
     have hkc6 := (hb6.cell (p := ⟨b, 0, none⟩) HB5'.out).trans HKC5.out
     have Q6 := hid q6
     clear q6 hb6
     go_wp2_with fail
     go_roundw
     case rel =>
      have hz6 := Q6.out.size
      have q6 := Q6.out
      refine ⟨k + 1, w6.heap.size, by omega, by omega, rfl, hz6, by simp, by rw [HW64.out]; simp, hid (by simp), by exact BelowA, hid fun j h1 h2 => ?_⟩
      rcases (by omega : j < k ∨ j = k) with c | rfl
      ·exact HF.out j h1 c
      ·exact HFL.out
     case measure =>
      have p1 : ptrInt (.pointer (some ⟨b, 0, none⟩)) wr = k := by unfold ptrInt; simp only [HKC.out]; exact Int.toNat_natCast k
      have hc : (w6.alloc (.cells #[.int .i64 (wrap64 (k + 1))] 3)).cell? ⟨w6.heap.size, 0, none⟩ = some (.int .i64 (k + 1)) := by rw [HW64.out]; simp
      have p2 : ptrInt (.pointer (some ⟨w6.heap.size, 0, none⟩)) (w6.alloc (.cells #[.int .i64 (wrap64 (k + 1))] 3)) = k + 1 := by unfold ptrInt; simp only [hc]; exact Int.toNat_natCast (k + 1)
      rw [p1, p2]
      exact Nat.sub_lt_sub_left hlt (Nat.lt_succ_self k)
   ·obtain rfl : k = cs.length := by omega
    go_wp2_with fail
    ((try simp only [Exit.inBlock, Exit.then]); refine bodyPost_ret (v := .tuple #[.string ⟨#[]⟩, .int .i64 12]) ?_ rfl ?_; (next => simp [results, Try.results73, go_sem]))
    have e : nmI cs ls = none := (if_neg (by rw [← HAG.out]; simp)).trans (nmR_none HF.out)
    have e1 : nmdT cs ls = ⟨#[]⟩ := by unfold nmdT nmS; rw [if_neg (by rw [HZ0.out]; simp), e]
    have e2 : nmdE cs ls = 12 := by unfold nmdE nmB; rw [if_neg (by rw [HZ0.out]; simp), e]; rfl
    exact ⟨by rw [e1, e2], HBW.out.trans (HB.out.mono HBW.out.size)⟩
end Go.Proofs.Ytkifmfmenobhnaa
set_option linter.unusedVariables false
set_option linter.unusedSimpArgs false
namespace Go.Proofs.Ytkifmfmenobhnaa
open Go.RowKit Ev
def con_NamedIn : Con := fun args => match args with
 | [.t (.a [.sl 1 n_cs c_cs, .sl 4 n_ls c_ls])] => some (.tu [.c (.v (.string (nmdT (txOf n_cs c_cs) (listC n_ls mkLnk c_ls)))), .c (.v (.int .i64 (nmdE (txOf n_cs c_cs) (listC n_ls mkLnk c_ls))))], some (txP n_cs c_cs ∧ numsP 4 n_ls c_ls ∧ ∀ k, k < (txOf n_cs c_cs).length → (txAt (txOf n_cs c_cs) k).size ≤ 1000000), Fre.no)
 | _ => none
theorem ok_NamedIn : Ok Try.prog 73 con_NamedIn := by
 intro args r pre fresh h hp
 unfold con_NamedIn at h
 split at h
 ·rename_i n_cs c_cs n_ls c_ls
  cases h
  obtain ⟨hp0, hp1, hp⟩ := hp
  refine ⟨Enters.of (fn := Try.f73) (by kernel_rfl) (by kernel_rfl) (by kernel_rfl), fun W N vs hG hv => ?_⟩
  have hv : All2 (RelD (RelF W N)) [.t (.a [.sl 1 n_cs c_cs, .sl 4 n_ls c_ls])] vs := hv
  obtain ⟨v0, us0, rfl, r0, hv0⟩ := hv.cons_inv
  obtain rfl := hv0.nil_inv
  obtain ⟨ws, rfl, r0⟩ := r0
  obtain ⟨x0, ws0, rfl, y0, r0⟩ := r0.cons_inv
  obtain ⟨x1, ws1, rfl, y1, r0⟩ := r0.cons_inv
  obtain rfl := r0.nil_inv
  have h0 : RelF W N (.sl 1 (txOf n_cs c_cs).length (txsC (txOf n_cs c_cs))) x0 := leL_str hp0 W N x0 y0
  have h1 : RelF W N (.sl 4 (listC n_ls mkLnk c_ls).length (lnksC (listC n_ls mkLnk c_ls))) x1 := leL_Lnk hp1 W N x1 y1
  refine (walk_NamedIn _ _ hp W N hG x0 x1 h0 h1).mono ?_
  rintro e w' ⟨rfl, hb⟩
  exact ⟨_, rfl, ⟨[_, _], rfl, ⟨rfl, rfl⟩, ⟨rfl, rfl⟩, trivial⟩, hb⟩
 ·cases h
end Go.Proofs.Ytkifmfmenobhnaa
set_option linter.unusedVariables false
set_option linter.unusedSimpArgs false
namespace Go.Proofs.Ytkifmfmenobhnaa
open Go.RowKit Ev
def Inc : Nat → Nat → List Int → Prop
 | lo, hi, [] => True
 | lo, hi, a :: l => (lo : Int) ≤ a ∧ a < hi ∧ Inc (a.toNat + 1) hi l
theorem grow_any {ls : List Lnk} {n : Nat} : ∀ (r t : List Int) (i0 : Nat), Inc i0 ls.length r → bdB (selL ls (t ++ r)) n = false → (grow ls n r.length t i0).2 = true
 | [], t, i0, _, h => by
  show (!bdB (selL ls t) n) = true
  rw [List.append_nil] at h
  rw [h]; rfl
 | a :: r, t, i0, hi, h => by
  obtain ⟨h1, h2, h3⟩ := hi
  have ih := grow_any r (t ++ [a]) (a.toNat + 1) h3 (by rw [List.append_assoc]; exact h)
  show (grI (fun i => grow ls n r.length (t ++ [(i : Int)]) (i + 1)) (ls.length - i0) i0).2 = true
  refine grI_true _ _ a.toNat (by omega) (by omega) ?_
  rw [show ((a.toNat : Nat) : Int) = a by omega]
  exact ih
theorem grI_found {f : Nat → List Int × Bool} : ∀ n i, (grI f n i).2 = true → ∃ j, i ≤ j ∧ j < i + n ∧ (f j).2 = true ∧ (grI f n i).1 = (f j).1 ∧ ∀ q, i ≤ q → q < j → (f q).2 = false
 | 0, i, h => by rw [grI] at h; cases h
 | n + 1, i, h => by
  rw [grI] at h ⊢
  by_cases c : (f i).2 = true
  ·rw [if_pos c]
   exact ⟨i, Nat.le_refl _, by omega, c, rfl, fun q h1 h2 => by omega⟩
  ·rw [if_neg c] at h ⊢
   obtain ⟨j, h1, h2, h3, h4, h5⟩ := grI_found n (i + 1) h
   refine ⟨j, by omega, by omega, h3, h4, fun q g1 g2 => ?_⟩
   rcases Nat.lt_or_ge q (i + 1) with d | d
   ·rw [show q = i by omega]; simpa using c
   ·exact h5 q d g2
theorem grow_res {ls : List Lnk} {n : Nat} : ∀ (m : Nat) (s : List Int) (i0 : Nat), (grow ls n m s i0).2 = true → ∃ r, (grow ls n m s i0).1 = s ++ r ∧ r.length = m ∧ Inc i0 ls.length r ∧ bdB (selL ls (s ++ r)) n = false
 | 0, s, i0, h => by
  have h : (!bdB (selL ls s) n) = true := h
  exact ⟨[], by rw [List.append_nil]; rfl, rfl, trivial, by rw [List.append_nil]; simpa using h⟩
 | m + 1, s, i0, h => by
  obtain ⟨j, h1, h2, h3, h4, _⟩ := grI_found _ _ (show (grI (fun i => grow ls n m (s ++ [(i : Int)]) (i + 1)) (ls.length - i0) i0).2 = true from h)
  obtain ⟨r, g1, g2, g3, g4⟩ := grow_res m _ _ h3
  refine ⟨(j : Int) :: r, ?_, by simp [g2], ⟨by omega, by omega, by simpa using g3⟩, by simpa using g4⟩
  show (grI (fun i => grow ls n m (s ++ [(i : Int)]) (i + 1)) (ls.length - i0) i0).1 = _
  rw [h4, g1]
  simp
theorem Inc.weak {hi : Nat} : ∀ {l : List Int} {a b : Nat}, b ≤ a → Inc a hi l → Inc b hi l
 | [], _, _, _, _ => trivial
 | x :: l, a, b, h, g => ⟨by have := g.1; omega, g.2.1, g.2.2⟩
theorem Inc.erase {hi : Nat} : ∀ {l : List Int} {lo : Nat} (i : Nat), Inc lo hi l → Inc lo hi (l.take i ++ l.drop (i + 1))
 | [], lo, i, _ => by simp; exact trivial
 | a :: l, lo, 0, h => by
  simp only [List.take_zero, List.nil_append, List.drop_succ_cons, List.drop_zero]
  exact h.2.2.weak (by have := h.1; omega)
 | a :: l, lo, i + 1, h => by
  simp only [List.take_succ_cons, List.cons_append, List.drop_succ_cons]
  exact ⟨h.1, h.2.1, Inc.erase i h.2.2⟩
theorem Inc.rg {hi : Nat} : ∀ {l : List Int} {lo : Nat}, Inc lo hi l → ∀ k, k < l.length → 0 ≤ l.getD k 0 ∧ l.getD k 0 < hi
 | [], _, _, k, hk => absurd hk (by simp)
 | a :: l, lo, h, 0, hk => ⟨by show 0 ≤ a; have := h.1; omega, h.2.1⟩
 | a :: l, lo, h, k + 1, hk => by
  have := Inc.rg h.2.2 k (by simpa using hk)
  simpa [List.getD] using this
theorem cnG_least {ls : List Lnk} {n : Nat} (h : (cnG ls n).2 = true) : Inc 0 ls.length (cnG ls n).1 ∧ (cnG ls n).1.length ≤ ls.length ∧ ∀ i, i < (cnG ls n).1.length → bdB (selL ls ((cnG ls n).1.take i ++ (cnG ls n).1.drop (i + 1))) n = true := by
 obtain ⟨j, _, h2, h3, h4, h5⟩ := grI_found _ _ (show (grI (fun k => grow ls n k [] 0) (ls.length + 1) 0).2 = true from h)
 obtain ⟨r, g1, g2, g3, g4⟩ := grow_res j [] 0 h3
 have e : (cnG ls n).1 = r := by
  show (grI (fun k => grow ls n k [] 0) (ls.length + 1) 0).1 = r
  rw [h4]; simpa using g1
 rw [e]
 refine ⟨g3, by omega, fun i hi => ?_⟩
 cases c : bdB (selL ls (r.take i ++ r.drop (i + 1))) n with
 | true => rfl
 | false =>
  have q := grow_any (n := n) (r.take i ++ r.drop (i + 1)) [] 0 (g3.erase i) (by simpa using c)
  have hl : (r.take i ++ r.drop (i + 1)).length = j - 1 := by simp; omega
  rw [hl] at q
  rw [h5 (j - 1) (Nat.zero_le _) (by omega)] at q
  cases q
end Go.Proofs.Ytkifmfmenobhnaa
set_option linter.unusedVariables false
set_option linter.unusedSimpArgs false
namespace Go.Proofs.Ytkifmfmenobhnaa
open Go.RowKit Ev
theorem n00 : (((0 : Nat) : Int)) = 0 := rfl
theorem lt_v {α : Type} (v : α) (k : α → Prop) : lt v k = k v := by unfold lt; rfl
end Go.Proofs.Ytkifmfmenobhnaa
set_option linter.unusedVariables false
set_option linter.unusedSimpArgs false
namespace Go.Proofs.Ytkifmfmenobhnaa
open Go.RowKit Ev
theorem q2a : ((2 : Int) == 0) = false := rfl
theorem q2b : ((2 : Int) != 0) = true := rfl
theorem q12a : ((12 : Int) == 0) = false := rfl
theorem q12b : ((12 : Int) != 0) = true := rfl
theorem q13a : ((13 : Int) == 0) = false := rfl
theorem q13b : ((13 : Int) != 0) = true := rfl
end Go.Proofs.Ytkifmfmenobhnaa
set_option linter.unusedVariables false
set_option linter.unusedSimpArgs false
namespace Go.Proofs.Ytkifmfmenobhnaa
open Go.RowKit Ev
theorem wr00 : IntKind.i64.wrap (0 + 0) = 0 := rfl
end Go.Proofs.Ytkifmfmenobhnaa
set_option linter.unusedVariables false
set_option linter.unusedSimpArgs false
namespace Go.Proofs.Ytkifmfmenobhnaa
open Go.RowKit Ev
end Go.Proofs.Ytkifmfmenobhnaa
set_option linter.unusedVariables false
set_option linter.unusedSimpArgs false
namespace Go.Proofs.Ytkifmfmenobhnaa
open Go.RowKit Ev
theorem nums_ints (l : List Int) : numsC .i64 l = intsC l := rfl
end Go.Proofs.Ytkifmfmenobhnaa
set_option linter.unusedVariables false
set_option linter.unusedSimpArgs false
namespace Go.Proofs.Ytkifmfmenobhnaa
open Go.RowKit Ev
end Go.Proofs.Ytkifmfmenobhnaa
set_option linter.unusedVariables false
set_option linter.unusedSimpArgs false
namespace Go.Proofs.Ytkifmfmenobhnaa
open Go.RowKit Ev
def free (c : Cab) (l : List Png) : Prop := trOk c l ∧ (∀ i, i < l.length → canB c (pngAt l i) = true) ∧ ∀ i k, i < k → k < l.length → apB c (pngAt l i) (pngAt l k) = false
end Go.Proofs.Ytkifmfmenobhnaa
set_option linter.unusedVariables false
set_option linter.unusedSimpArgs false
namespace Go.Proofs.Ytkifmfmenobhnaa
open Go.RowKit Ev
end Go.Proofs.Ytkifmfmenobhnaa
set_option linter.unusedVariables false
set_option linter.unusedSimpArgs false
namespace Go.Proofs.Ytkifmfmenobhnaa
open Go.RowKit Ev
theorem fwL_ok {cs : List ByteArray} {ls : List Lnk} (h : fwL cs ls = true) : cs.length ≤ 8 ∧ ls.length ≤ 14 ∧ ∀ k, k < cs.length → (txAt cs k).size ≤ 20 := by
 unfold fwL at h
 rw [Bool.and_eq_true, Bool.and_eq_true] at h
 have h1 := of_decide_eq_true h.1
 have h2 := of_decide_eq_true h.2.1
 exact ⟨by omega, by omega, fun k hk => of_decide_eq_true (List.all_eq_true.1 h.2.2 _ (txAt_in hk))⟩
end Go.Proofs.Ytkifmfmenobhnaa