/- Texts of this claim, together. -/
import Derived.Test.YtkifmfmenobhnaaCO10
import Derived.Test.YtkifmfmenobhnaaCO7
import Derived.ArgAppend
import Derived.Test.YtkifmfmenobhnaaCO4
import Derived.Test.YtkifmfmenobhnaaCO5
import Derived.ProofKit
import Derived.OpenShut
import Derived.ShutString
import Derived.ChangeOld
import Derived.Below
import Derived.Lib.SmallJoins
import Derived.Test.YtkifmfmenobhnaaCO8

set_option linter.unusedVariables false
set_option linter.unusedSimpArgs false
namespace Go.Proofs.Ytkifmfmenobhnaa
open Go.RowKit Ev
theorem wpList_append_clip {P : Program} {ops : Array Oper} {rest : List Oper} {o : Oper} {a : Act} {Q : Exit → Act → World → Prop} {w wb : World} (hB : Below wb.heap.size wb w) (hgd : o.guard = none) (s x : Operand) (t : TypeId)
  (ho : o.op = .call { callee := .builtin .append, args := #[s, x], argTypes := #[t, t] }) {e : TypeId} {sz bytes : Nat} (E : Elem P t e sz bytes)
  (ao : Option Addr) (n : Nat) (olds : List Value) (hs : a.eval s = .slice ao n n) (hnone : ao = none → n = 0) (hlo : olds.length = n * sz) (holds : ∀ b, ao = some b → ∀ j u, olds[j]? = some u → w.cell? (b.add j) = some u)
  (us : List Value) (hul : us.length = sz) (h1 : ∀ u ∈ us, u.oneCell' = true) (ad : Addr) (hx : a.eval x = .slice (some ad) 1 1) (hc : ∀ j u, us[j]? = some u → w.cell? (ad.add j) = some u)
  (hb : (n + 1) * bytes ≤ 140737488355328) (hn : n + 1 ≤ maxLen)
  (h : ∀ v' w', w'.ownsRow wb.heap.size e sz v' (n + 1) (olds ++ us) → Below wb.heap.size wb w' → wpList P ops Q rest (a.put o.dst v') w') : wpList P ops Q (o :: rest) a w := by
 obtain ⟨i, z, ht, hi, hz, hsize, hby, hzs, hsz⟩ := E
 refine wpList_append_grows w hgd s x t ho e i z sz bytes ht hi hz hsize hby hzs hsz ao n n olds hs (fun h => ⟨hnone h, hnone h⟩) hlo holds ad 1 1 us hx (by omega) hc h1 (by omega) hn hb ?_
 intro v' w' g1 g2
 refine h v' w' (ownsRow_base g1 hB.size) (hB.trans ?_)
 exact ⟨g2.os, g2.tape, g2.output, g2.size, fun j hj => g2.block j (by have := hB.size; omega) (by simp)⟩
theorem walk_Clip (W : World) (ao : Option Addr) (n cap : Nat) (hn : ao = none → n = 0) (hc : n ≤ cap) (hm : cap ≤ maxLen) :
  Calls Try.prog 132 #[.slice ao n cap] W fun e W' => e = .returned (.slice ao n n) ∧ Below W.heap.size W W' := by
 go_enter Try.func132, Try.ntmps132
 go_wp2_with fail
 ((try simp only [Exit.inBlock, Exit.then]); refine bodyPost_ret (v := .slice ao n n) ?_ rfl ?_; (next => simp [results, Try.results132, go_sem]); refine ⟨?_, ?_⟩; (next => rfl); (next => exact BelowA))
theorem cur_cellC {w : World} {g i m : Nat} {cur : Array Value} {e : TypeId} {xs : List Int} (hg : w.heap[g]? = some (.cells cur e (0, 0))) (htk : cur.toList.take (m * 1) = xs.map (Value.int .i64)) (hx : xs.length = m) (hi : i < m) : w.cell? ⟨g, i, none⟩ = some (.int .i64 (xs.getD i 0)) := by
 rw [cell_of_row w g i cur e (0, 0) hg]
 have e1 : (cur.toList.take (m * 1))[i]? = some (.int .i64 (xs.getD i 0)) := by rw [htk]; simp [List.getD, show i < xs.length by omega]
 rw [List.getElem?_take] at e1
 split at e1
 ·simpa using e1
 ·cases e1
theorem own_relF {w w' : World} {N : Nat → Prop} {base : Nat} {e : TypeId} {v : Value} {L : List Int} (h : w'.ownsRow base e 1 v L.length (L.map (Value.int .i64))) (hb : w.heap.size ≤ base) : RelF w' (resN w N .no) (.sl 1 L.length (intsC L)) v := by
 rcases h.2 with ⟨rfl, h0⟩ | ⟨g, oc, cur, rfl, hbg, hgc, hmc, hcm, hcs, htk⟩
 ·exact ⟨none, 0, by rw [h0], by omega, by unfold maxLen; omega, fun _ => rfl, fun q => by omega⟩
 ·refine ⟨some ⟨g, 0, none⟩, oc, rfl, hmc, hcm, (fun q => by cases q), fun _ => ⟨g, 0, rfl, (Array.getElem?_eq_some_iff.1 hgc).1, Or.inr (by omega), fun i j hi hj => ?_⟩⟩
  have c := cur_cellC hgc htk rfl hi
  refine ⟨_, by rw [show 0 + i * 1 + j = i by omega]; exact c, rfl, rfl⟩
theorem relF_below {W w : World} {N : Nat → Prop} {x : CV} {v : Value} (h : RelF W N x v) (hb : Below W.heap.size W w) : RelF w (resN W N .no) x v :=
 RelF.mono hb.size (fun b _ h2 off => hb.cell (p := ⟨b, off, none⟩) h2) (fun b hN _ => Or.inl ⟨rfl, hN⟩) x h
theorem relF_res {W w w' : World} {N : Nat → Prop} {x : CV} {v : Value} (hs : W.heap.size ≤ w.heap.size) (h : RelF w' (resN w (resN W N .no) .no) x v) : RelF w' (resN W N .no) x v :=
 RelF.all h fun b hb => by
  rcases hb with ⟨_, h⟩ | h
  ·exact h
  ·exact Or.inr (by omega)
set_option maxRecDepth 100000 in
set_option maxHeartbeats 2000000 in
theorem clash_succ (cs : List ByteArray) (ls : List Lnk) (m : Nat) (IH : Hid (GrC cs ls m)) : GrC cs ls (m + 1) := by
 intro W N sel i0 v x0 x1 hG hp hm hi h0 h1 hv
 have HG := hid hG
 have HP := hid hp
 have hl12 : ls.length ≤ 12 := (ntE_bd hp.1).2.1
 have H0 := hid h0
 have H1 := hid h1
 obtain ⟨aoC, capC, hx0, hc1, hc2, _⟩ := h0
 subst hx0
 obtain ⟨aoL, capL, hx1, hl1, hl2, _⟩ := h1
 subst hx1
 obtain ⟨ao, cap, hv1, hcap, hmx, hnil, hcells⟩ := hv
 subst hv1
 have hn0 : ao = none → sel.length = 0 := fun e => by have := hnil e; omega
 have HO : Hid (∀ w', Below W.heap.size W w' → ∀ b, ao = some b → ∀ j u, (sel.map (Value.int .i64))[j]? = some u → w'.cell? (b.add j) = some u) := hid fun w' hw b hb j u hu => by
  have hj : j < sel.length := by have := (List.getElem?_eq_some_iff.1 hu).1; simpa using this
  obtain ⟨b', off, e1, e2, e3, e4⟩ := hcells (by omega)
  rw [hb] at e1
  cases e1
  obtain ⟨x, y1, y2⟩ := e4 j 0 hj (by omega)
  obtain ⟨rfl, _⟩ := y2
  rw [Addr.add_lit, hw.cell (p := ⟨b', off + j, none⟩) e2]
  rw [show off + j * 1 + 0 = off + j by omega] at y1
  rw [y1, ← hu]
  simp [List.getD, hj]
 clear hcells hnil hG hp
 have HCAP := hid hcap
 obtain ⟨q, hq⟩ : ∃ q : Int, q = ((m + 1 : Nat) : Int) := ⟨_, rfl⟩
 rw [← hq]
 have hq0 : (q == 0) = false := by simp; omega
 have hq1 : 1 ≤ q := by omega
 have hq2 : q ≤ 12 := by omega
 have HQ := hid hq
 clear hq
 go_enter Try.func115, Try.ntmps115
 go_wp2_with fail
 (try simp only [hq0])
 obtain ⟨W0, hW0⟩ : ∃ W0, W0 = W.alloc (.cells #[.slice aoC cs.length capC, .slice aoL ls.length capL] 55) := ⟨_, rfl⟩
 have r0 : W0.cell? ⟨W.heap.size, 0, none⟩ = some (.slice aoC cs.length capC) := by rw [hW0]; simp
 have r1 : W0.cell? ⟨W.heap.size, 1, none⟩ = some (.slice aoL ls.length capL) := by rw [hW0]; simp
 have hk0 : W.heap.size < W0.heap.size := by rw [hW0]; simp
 have hBW : Below W.heap.size W W0 := by rw [hW0]; exact BelowA
 rw [← hW0]
 clear hW0
 have HK0 := hid hk0
 have HBW := hid hBW
 have HR0 := hid r0
 have HR1 := hid r1
 clear r0 r1 hBW
 go_loopw [13] (fun i wr => ∃ k : Nat, i0 ≤ k ∧ k ≤ ls.length ∧ i = .int .i64 k ∧ Below W0.heap.size W0 wr ∧ Hid (∀ j, i0 ≤ j → j < k → (grow ls cs.length m (sel ++ [(j : Int)]) (j + 1)).2 = false)) (fun i _ => ls.length - (intOf i).toNat)
 case atStart => exact ⟨i0, Nat.le_refl _, hi, rfl, Below.refl _ _, hid fun j h1 h2 => by omega⟩
 case round =>
  obtain ⟨k, hk1, hk2, rfl, hB, HF⟩ := hrel
  have HB := hid hB
  obtain ⟨hcb, hfb⟩ := bcell hB
  have c0 := (hcb _ 0 hk0).trans HR0.out
  have c1 := (hcb _ 1 hk0).trans HR1.out
  have hkw : W.heap.size < wr.heap.size := Nat.lt_of_lt_of_le hk0 hB.size
  have hBr : Below W.heap.size W wr := HBW.out.trans (hB.mono HBW.out.size)
  have HBR := hid hBr
  clear hcb hfb hB hBr
  by_cases hlt : k < ls.length
  ·obtain ⟨G, hG⟩ : ∃ G, G = grow ls cs.length m (sel ++ [(k : Int)]) (k + 1) := ⟨_, rfl⟩
   have HGR := hid hG
   have HIH : Hid (∀ (w4 : World) (v4 : Value) (base : Nat), Below W.heap.size W w4 → W.heap.size ≤ base → w4.ownsRow base 3 1 v4 (sel.length + 1) (sel.map (Value.int .i64) ++ [.int .i64 k]) → Calls Try.prog 115 #[.agg #[.slice aoC cs.length capC, .slice aoL ls.length capL], v4, .int .i64 (k + 1), .int .i64 (q - 1)] w4 fun e W' => ∃ u, e = .returned (.tuple #[u, .bool G.2]) ∧ RelF W' (resN W N .no) (.sl 1 G.1.length (intsC G.1)) u ∧ Below w4.heap.size w4 W') := by
    refine hid fun w4 v4 base hw hb ho => ?_
    rw [show q - 1 = (m : Int) by have := HQ.out; omega]
    have ho' : w4.ownsRow base 3 1 v4 (sel ++ [(k : Int)]).length ((sel ++ [(k : Int)]).map (Value.int .i64)) := by simpa using ho
    refine (IH.out w4 (resN W N .no) (sel ++ [(k : Int)]) (k + 1) v4 _ _ (HG.out.below hw) (HP.out.more (by omega) hlt) (by simp; omega) (by omega) (relF_below H0.out hw) (relF_below H1.out hw) (own_relF ho' hb)).mono ?_
    rintro e w' ⟨u, rfl, hr, hb'⟩
    rw [← HGR.out] at hr
    exact ⟨u, by rw [← HGR.out], relF_res hw.size hr, hb'⟩
   obtain ⟨g1, g2⟩ := G
   simp only at HIH
   have HCK := hid hkw
   have hmr : m ≤ 12 := by omega
   have hk12 : k < 12 := by omega
   have hs12 : sel.length ≤ 12 := by omega
   clear hG
   go_wp2_with fail
   refine wp_mixC (fun wc => Below (wr.heap.size) wr wc) 15 [.q [0, 1, 3, 6, 7, 8, 9], .p 2 4, .f [5, 10], .q [11, 12, 13, 14]] [.q [15]] (by kernel_rfl) (by kernel_rfl) ((Below.refl _ _).drew) ?_
   intro Q' hQ'
   (rw [wpMixC]; simp only [pick, List.drop_succ_cons, List.drop_zero, List.head?_cons, Option.toList_some, List.cons_append, List.nil_append])
   (repeat (first | go_big_quiet_skip | (go_big_quiet_want; refine quiet_simple rfl ?_; go_big_quiet_op; go_big_quiet_on) | (go_big_quiet_want; refine quiet_agg2B (ty := 55) rfl rfl (by kernel_rfl) (by assumption) (by assumption) (by first | omega | (simp; omega)) ?_; simp only [Act.put, List.setIfInBounds_toArray, List.set_cons_succ, List.set_cons_zero]; go_big_quiet_on)))
   (try refine wpQuiet_nil ?_)
   (rw [wpMixC]; simp only [pick, List.drop_succ_cons, List.drop_zero, List.head?_cons, Option.toList_some, List.cons_append, List.nil_append])
   (refine ⟨?_, ?_⟩)
   all_goals (rw [wpSteps]; go_wp2_with (first | (go_at_call 132; refine (walk_Clip _ ao sel.length cap hn0 HCAP.out hmx).mono ?_; rintro _ w3 ⟨rfl, hb3⟩) | (at_builtin; refine wpList_append_clip (wb := wr) (by exact BelowA) rfl (.tmp 51) (.tmp 53) _ rfl elemInt ao sel.length (sel.map (Value.int .i64)) rfl hn0 (by simp) (HO.out _ (HBR.out.trans (Below.mono (show Below wr.heap.size wr _ by exact BelowA) (Nat.le_of_lt HCK.out)))) [.int .i64 k] rfl (by simp [Value.oneCell']) _ rfl (by first | exact World.news_of_block (cs := #[.int .i64 k]) (heap_alloc_new _ _) | exact World.news_of_block (cs := #[.int .i64 k]) ((hb3.block _ (by simp)).trans (heap_alloc_new _ _))) (by omega) (by unfold maxLen; omega) ?_; intro v4 w4 hown4 hq4) | (go_at_call 115; refine (HIH.out _ v4 _ (HBR.out.trans (hq4.mono (Nat.le_of_lt HCK.out))) (Nat.le_of_lt HCK.out) hown4).mono ?_; rintro _ w5 ⟨u5, rfl, hr5, hb5⟩)); rw [contF]; refine ⟨?_, ?_⟩; (next => exact BelowA))
   all_goals (rw [wpSteps]; go_wp2_with (first | (go_at_call 132; refine (walk_Clip _ ao sel.length cap hn0 HCAP.out hmx).mono ?_; rintro _ w3 ⟨rfl, hb3⟩) | (at_builtin; refine wpList_append_clip (wb := wr) (by exact BelowA) rfl (.tmp 51) (.tmp 53) _ rfl elemInt ao sel.length (sel.map (Value.int .i64)) rfl hn0 (by simp) (HO.out _ (HBR.out.trans (Below.mono (show Below wr.heap.size wr _ by exact BelowA) (Nat.le_of_lt HCK.out)))) [.int .i64 k] rfl (by simp [Value.oneCell']) _ rfl (by first | exact World.news_of_block (cs := #[.int .i64 k]) (heap_alloc_new _ _) | exact World.news_of_block (cs := #[.int .i64 k]) ((hb3.block _ (by simp)).trans (heap_alloc_new _ _))) (by omega) (by unfold maxLen; omega) ?_; intro v4 w4 hown4 hq4) | (go_at_call 115; refine (HIH.out _ v4 _ (HBR.out.trans (hq4.mono (Nat.le_of_lt HCK.out))) (Nat.le_of_lt HCK.out) hown4).mono ?_; rintro _ w5 ⟨u5, rfl, hr5, hb5⟩)); rw [contF]; refine ⟨?_, ?_⟩; (next => exact BelowA))
   all_goals (rw [wpSteps])
   all_goals (rw [wpMixC]; simp only [pick, List.drop_succ_cons, List.drop_zero, List.head?_cons, Option.toList_some, List.cons_append, List.nil_append])
   all_goals (rw [wpSteps]; go_wp2_with (first | (go_at_call 132; refine (walk_Clip _ ao sel.length cap hn0 HCAP.out hmx).mono ?_; rintro _ w3 ⟨rfl, hb3⟩) | (at_builtin; refine wpList_append_clip (wb := wr) (by exact BelowA) rfl (.tmp 51) (.tmp 53) _ rfl elemInt ao sel.length (sel.map (Value.int .i64)) rfl hn0 (by simp) (HO.out _ (HBR.out.trans (Below.mono (show Below wr.heap.size wr _ by exact BelowA) (Nat.le_of_lt HCK.out)))) [.int .i64 k] rfl (by simp [Value.oneCell']) _ rfl (by first | exact World.news_of_block (cs := #[.int .i64 k]) (heap_alloc_new _ _) | exact World.news_of_block (cs := #[.int .i64 k]) ((hb3.block _ (by simp)).trans (heap_alloc_new _ _))) (by omega) (by unfold maxLen; omega) ?_; intro v4 w4 hown4 hq4) | (go_at_call 115; refine (HIH.out _ v4 _ (HBR.out.trans (hq4.mono (Nat.le_of_lt HCK.out))) (Nat.le_of_lt HCK.out) hown4).mono ?_; rintro _ w5 ⟨u5, rfl, hr5, hb5⟩)); rw [contF]; refine ⟨?_, ?_⟩; (next => exact BelowA))
   all_goals (rw [wpSteps]; go_wp2_with (first | (go_at_call 132; refine (walk_Clip _ ao sel.length cap hn0 HCAP.out hmx).mono ?_; rintro _ w3 ⟨rfl, hb3⟩) | (at_builtin; refine wpList_append_clip (wb := wr) (by exact BelowA) rfl (.tmp 51) (.tmp 53) _ rfl elemInt ao sel.length (sel.map (Value.int .i64)) rfl hn0 (by simp) (HO.out _ (HBR.out.trans (Below.mono (show Below wr.heap.size wr _ by exact BelowA) (Nat.le_of_lt HCK.out)))) [.int .i64 k] rfl (by simp [Value.oneCell']) _ rfl (by first | exact World.news_of_block (cs := #[.int .i64 k]) (heap_alloc_new _ _) | exact World.news_of_block (cs := #[.int .i64 k]) ((hb3.block _ (by simp)).trans (heap_alloc_new _ _))) (by omega) (by unfold maxLen; omega) ?_; intro v4 w4 hown4 hq4) | (go_at_call 115; refine (HIH.out _ v4 _ (HBR.out.trans (hq4.mono (Nat.le_of_lt HCK.out))) (Nat.le_of_lt HCK.out) hown4).mono ?_; rintro _ w5 ⟨u5, rfl, hr5, hb5⟩)); rw [contF]; refine ⟨?_, ?_⟩; (next => exact BelowA))
   all_goals (rw [wpSteps])
   all_goals (rw [wpMixC]; simp only [pick, List.drop_succ_cons, List.drop_zero, List.head?_cons, Option.toList_some, List.cons_append, List.nil_append])
   all_goals (repeat (first | go_big_quiet_skip | (go_big_quiet_want; refine quiet_simple rfl ?_; go_big_quiet_op; go_big_quiet_on) | (go_big_quiet_want; refine quiet_agg2B (ty := 55) rfl rfl (by kernel_rfl) (by assumption) (by assumption) (by first | omega | (simp; omega)) ?_; simp only [Act.put, List.setIfInBounds_toArray, List.set_cons_succ, List.set_cons_zero]; go_big_quiet_on)))
   all_goals (try refine wpQuiet_nil ?_)
   all_goals (rw [wpMixC])
   all_goals (rw [wpMix]; simp only [pick, List.drop_succ_cons, List.drop_zero, List.head?_cons, Option.toList_some, List.cons_append, List.nil_append])
   all_goals (repeat (first | (go_big_quiet_step (fail)) | (quiet_step (fail))))
   all_goals (try refine wpQuiet_nil ?_)
   all_goals (rw [wpMix])
   all_goals (refine hQ' _ _ ?_)
   all_goals
    have hB5 : Below wr.heap.size wr w5 := hq4.trans (hb5.mono hq4.size)
    have HR5 := hid hr5
    have HB5 := hid hB5
    clear hr5 hB5 hq4 hb5 hown4 hb3 c0 c1
    cases g2 with
    | true =>
     go_wp2_with fail
     ((try simp only [Exit.inBlock, Exit.then]); refine bodyPost_ret (v := .tuple #[u5, .bool true]) ?_ rfl ?_; (next => simp [results, Try.results115, go_sem]))
     have e := grow_hit (n := cs.length) (m := m) (s := sel) hk1 hlt HF.out (by rw [← HGR.out])
     rw [← HGR.out] at e
     rw [e]
     exact ⟨_, rfl, HR5.out, HBR.out.trans (HB5.out.mono (Nat.le_of_lt HCK.out))⟩
    | false =>
     go_wp2_with fail
     go_roundw
     case rel =>
      refine ⟨k + 1, by omega, by omega, by go_num, HB.out.trans (HB5.out.mono HB.out.size), hid fun j h1 h2 => ?_⟩
      rcases Nat.lt_or_ge j k with c | c
      ·exact HF.out j h1 c
      ·obtain rfl : j = k := by omega
       rw [← HGR.out]
     case measure => simp [intOf]; omega
  ·have e : k = ls.length := by omega
   subst e
   go_wp2_with fail
   ((try simp only [Exit.inBlock, Exit.then]); refine bodyPost_ret (v := .tuple #[.slice none 0 0, .bool false]) ?_ rfl ?_; (next => simp [results, Try.results115, go_sem]))
   have e := grow_none (n := cs.length) (m := m) (s := sel) hk1 HF.out
   rw [e]
   exact ⟨_, rfl, ⟨none, 0, rfl, Nat.le_refl _, by unfold maxLen; omega, fun _ => rfl, fun q => absurd q (by simp)⟩, HBR.out⟩
end Go.Proofs.Ytkifmfmenobhnaa
set_option linter.unusedVariables false
set_option linter.unusedSimpArgs false
namespace Go.Proofs.Ytkifmfmenobhnaa
open Go.RowKit Ev
theorem clash_all (cs : List ByteArray) (ls : List Lnk) : ∀ m, GrC cs ls m
 | 0 => clash_zero cs ls
 | m + 1 => clash_succ cs ls m (hid (clash_all cs ls m))
def con_clash : Con := fun args => match args with
 | [.t (.a [.sl 1 n_cs c_cs, .sl 4 n_ls c_ls]), .t (.c (.v (.slice none 0 0))), .t (.c (.v (.int .i64 0))), .t (.c (.v (.int .i64 m0)))] => some (.tu [.c (.sl 1 (grow (listC n_ls mkLnk c_ls) (txOf n_cs c_cs).length m0.toNat [] 0).1.length (intsC (grow (listC n_ls mkLnk c_ls) (txOf n_cs c_cs).length m0.toNat [] 0).1)), .c (.v (.bool (grow (listC n_ls mkLnk c_ls) (txOf n_cs c_cs).length m0.toNat [] 0).2))], some (txP n_cs c_cs ∧ numsP 4 n_ls c_ls ∧ (0 ≤ m0 ∧ m0 ≤ 12) ∧ ntE (txOf n_cs c_cs) (listC n_ls mkLnk c_ls) = 0), Fre.no)
 | _ => none
theorem ok_clash : Ok Try.prog 115 con_clash := by
 intro args r pre fresh h hp
 unfold con_clash at h
 split at h
 ·rename_i n_cs c_cs n_ls c_ls m0
  cases h
  obtain ⟨hp0, hp1, hp2, hp⟩ := hp
  refine ⟨Enters.of (fn := Try.f115) (by kernel_rfl) (by kernel_rfl) (by kernel_rfl), fun W N vs hG hv => ?_⟩
  have hv : All2 (RelD (RelF W N)) [.t (.a [.sl 1 n_cs c_cs, .sl 4 n_ls c_ls]), .t (.c (.v (.slice none 0 0))), .t (.c (.v (.int .i64 0))), .t (.c (.v (.int .i64 m0)))] vs := hv
  obtain ⟨v0, us0, rfl, r0, hv0⟩ := hv.cons_inv
  obtain ⟨v1, us1, rfl, r1, hv1⟩ := hv0.cons_inv
  obtain ⟨v2, us2, rfl, r2, hv2⟩ := hv1.cons_inv
  obtain ⟨v3, us3, rfl, r3, hv3⟩ := hv2.cons_inv
  obtain rfl := hv3.nil_inv
  obtain ⟨rfl, _⟩ : v1 = .slice none 0 0 ∧ _ := r1
  obtain ⟨rfl, _⟩ : v2 = .int .i64 0 ∧ _ := r2
  obtain ⟨rfl, _⟩ : v3 = .int .i64 m0 ∧ _ := r3
  obtain ⟨ws, rfl, r0⟩ := r0
  obtain ⟨x0, ws0, rfl, y0, r0⟩ := r0.cons_inv
  obtain ⟨x1, ws1, rfl, y1, r0⟩ := r0.cons_inv
  obtain rfl := r0.nil_inv
  have h0 : RelF W N (.sl 1 (txOf n_cs c_cs).length (txsC (txOf n_cs c_cs))) x0 := leL_str hp0 W N x0 y0
  have h1 : RelF W N (.sl 4 (listC n_ls mkLnk c_ls).length (lnksC (listC n_ls mkLnk c_ls))) x1 := leL_Lnk hp1 W N x1 y1
  generalize listC n_ls mkLnk c_ls = L at *
  generalize txOf n_cs c_cs = C at *
  obtain ⟨m, rfl⟩ : ∃ m : Nat, m0 = m := ⟨m0.toNat, by omega⟩
  rw [Int.toNat_natCast]
  refine (clash_all C L m W N [] 0 (.slice none 0 0) x0 x1 hG ⟨hp, by simp, fun k hk => absurd hk (by simp)⟩ (by simp; omega) (Nat.zero_le _) h0 h1 ⟨none, 0, rfl, Nat.le_refl _, by unfold maxLen; omega, fun _ => rfl, fun h => absurd h (by simp)⟩).mono ?_
  rintro e w' ⟨u, rfl, hr, hb⟩
  exact ⟨_, rfl, ⟨[u, _], rfl, hr, ⟨rfl, rfl⟩, trivial⟩, hb⟩
 ·cases h
end Go.Proofs.Ytkifmfmenobhnaa
set_option linter.unusedVariables false
set_option linter.unusedSimpArgs false
namespace Go.Proofs.Ytkifmfmenobhnaa
open Go.RowKit Ev
def cnG (ls : List Lnk) (n : Nat) : List Int × Bool := grI (fun k => grow ls n k [] 0) (ls.length + 1) 0
def cnV (cs : List ByteArray) (ls : List Lnk) : List Int := if ntE cs ls ≠ 0 then [] else (cnG ls cs.length).1
def cnE (cs : List ByteArray) (ls : List Lnk) : Int := if ntE cs ls ≠ 0 then ntE cs ls else if (cnG ls cs.length).2 = true then 0 else 12
def Sf4112 : Sum := addS Sf0111 115 con_clash
theorem VSf4112 : Valid Try.prog Sf4112 := Valid.add VSf0111 ok_clash
def mk_clock_ContradictingIn_0 (cs : List ByteArray) (ls : List Lnk) (v0_0 : Int) (v0_1 : Int) : DS := ⟨[none, some (.t (.c (.p 1 0))), none, none, none, none, none, none, none, none, none, none, none, none, none, none, some (.t (.c (.v (.int .i64 v0_0)))), some (.t (.c (.v (.int .i64 v0_1)))), none, none, none, none, none, none, none, none, none, none, none], [none, some (.box 55 [.sl 1 cs.length (txsC cs), .sl 4 ls.length (lnksC ls)]), none, none, none, none, none, none, none, none, none, none, none, none, none, none, none, none, none, none, none, none, none, none, none, none, none, none, none]⟩
def vc_clock_ContradictingIn (J : Inv) (cs : List ByteArray) (ls : List Lnk) (post : DV → Prop) : Prop := (txP cs.length (txsC cs) ∧ numsP 4 ls.length (lnksC ls) ∧ (∀ k, k < ((txOf cs.length (txsC cs))).length → (txAt (txOf cs.length (txsC cs)) k).size ≤ 1000000)) ∧ (cond ((ntE (txOf cs.length (txsC cs)) (listC ls.length mkLnk (lnksC ls))) != (0 : Int)) (post (.tu [.c (.v (.slice none 0 0)), .c (.v (.int .i64 (ntE (txOf cs.length (txsC cs)) (listC ls.length mkLnk (lnksC ls)))))])) (lt (IntKind.i64.wrap (((ls.length : Nat) : Int) + (1 : Int))) fun x1 => ∃ n, J 0 (n :: []) (mk_clock_ContradictingIn_0 cs ls x1 0)))
def ann_clock_ContradictingIn : Ann := ⟨fun _ => none, fun b => lookA b [(0, (none, some ⟨[1, 16, 17], [1], []⟩))], fun _ => [], I1, false, fun _ => none, fun _ => none⟩
theorem ev_clock_ContradictingIn (J : Inv) (cs : List ByteArray) (ls : List Lnk) (post : DV → Prop) : evFn Try.prog tab Sf4112 ann_clock_ContradictingIn J Try.f70 [.t (.a [.sl 1 cs.length (txsC cs), .sl 4 ls.length (lnksC ls)])] post = vc_clock_ContradictingIn J cs ls post := by kernel_rfl
theorem fit_clock_ContradictingIn : okFn ann_clock_ContradictingIn Try.f70 = true := by kernel_rfl
def rd_clock_ContradictingIn_0 (J : Inv) (cs : List ByteArray) (ls : List Lnk) (v0_0 : Int) (v0_1 : Int) (nn0 : Nat) (post : DV → Prop) : Prop := cond (decide (v0_1 < v0_0)) ((txP cs.length (txsC cs) ∧ numsP 4 ls.length (lnksC ls) ∧ (0 ≤ v0_1 ∧ v0_1 ≤ 12) ∧ ntE (txOf cs.length (txsC cs)) (listC ls.length mkLnk (lnksC ls)) = 0) ∧ (cond ((grow (listC ls.length mkLnk (lnksC ls)) (txOf cs.length (txsC cs)).length (v0_1).toNat [] 0).2) (post (.tu [.c (.sl 1 ((grow (listC ls.length mkLnk (lnksC ls)) (txOf cs.length (txsC cs)).length (v0_1).toNat [] 0).1.length) (intsC (grow (listC ls.length mkLnk (lnksC ls)) (txOf cs.length (txsC cs)).length (v0_1).toNat [] 0).1)), .c (.v (.int .i64 0))])) (lt (IntKind.i64.wrap (v0_1 + (1 : Int))) fun x1 => J 0 (nn0 :: []) (mk_clock_ContradictingIn_0 cs ls v0_0 x1)))) (post (.tu [.c (.v (.slice none 0 0)), .c (.v (.int .i64 12))]))
theorem er_clock_ContradictingIn_0 (J : Inv) (cs : List ByteArray) (ls : List Lnk) (v0_0 : Int) (v0_1 : Int) (nn0 : Nat) (post : DV → Prop) : round Try.prog tab Sf4112 ann_clock_ContradictingIn J Try.f70 post 0 (nn0 :: []) (mk_clock_ContradictingIn_0 cs ls v0_0 v0_1) = rd_clock_ContradictingIn_0 J cs ls v0_0 v0_1 nn0 post := by kernel_rfl
theorem lp_clock_ContradictingIn (J : Inv) (post : DV → Prop) : AllG J (loopsFn Try.prog tab Sf4112 ann_clock_ContradictingIn J Try.f70 post) = (((∀ F s, ¬ J 0 (0 :: F) s) ∧ ∀ n F s, J 0 ((n + 1) :: F) s → round Try.prog tab Sf4112 ann_clock_ContradictingIn J Try.f70 post 0 (n :: F) s) ∧ True) := by kernel_rfl
def J_clock_ContradictingIn (cs : List ByteArray) (ls : List Lnk) : Inv := fun b F s => match b, F with
 | 0, [nn0] => ∃ (v0_0 : Int) (v0_1 : Int), s = mk_clock_ContradictingIn_0 cs ls v0_0 v0_1 ∧ (ntE cs ls = 0 ∧ v0_0 = ((ls.length : Nat) : Int) + 1 ∧ 0 ≤ v0_1 ∧ v0_1 ≤ ls.length + 1 ∧ (nn0 : Int) + v0_1 = ls.length + 2 ∧ ∀ j : Nat, (j : Int) < v0_1 → (grow ls cs.length j [] 0).2 = false)
 | _, _ => False
theorem rnd_clock_ContradictingIn_0 (cs : List ByteArray) (ls : List Lnk) (v0_0 : Int) (v0_1 : Int) (nn0 : Nat) (hp : (∀ k, k < (cs).length → (txAt cs k).size ≤ 1000000)) (hi : ntE cs ls = 0 ∧ v0_0 = ((ls.length : Nat) : Int) + 1 ∧ 0 ≤ v0_1 ∧ v0_1 ≤ ls.length + 1 ∧ ((nn0 + 1) : Int) + v0_1 = ls.length + 2 ∧ ∀ j : Nat, (j : Int) < v0_1 → (grow ls cs.length j [] 0).2 = false) : rd_clock_ContradictingIn_0 (J_clock_ContradictingIn cs ls) cs ls v0_0 v0_1 nn0 (fun r => LeD r (.tu [.c (.sl 1 ((cnV cs ls).length) (intsC (cnV cs ls))), .c (.v (.int .i64 (cnE cs ls)))])) := by
 obtain ⟨q, i0, i1, i2, i3, i4⟩ := hi
 obtain ⟨k, rfl⟩ : ∃ k : Nat, v0_1 = k := ⟨v0_1.toNat, by omega⟩
 have hk : (k : Int).toNat = k := rfl
 subst i0
 have z := (ntE_bd q).2.1
 unfold rd_clock_ContradictingIn_0
 simp only [lnks_listC, txs_of]
 rw [hk]
 have ne : ¬ (ntE cs ls ≠ 0) := fun c => c q
 refine cond_i (fun h => ?_) (fun h => ?_)
 ·have hlt : k < ls.length + 1 := by have := of_decide_eq_true h; omega
  refine ⟨⟨txP_txs cs, numsP_lnks ls, ⟨by omega, by omega⟩, q⟩, cond_i (fun g => ?_) (fun g => lt_i fun x hx => ?_)⟩
  ·have e : cnG ls cs.length = ((grow ls cs.length k [] 0).1, true) := by
    unfold cnG
    rw [grI_skip k _ _ (by omega) fun j _ h2 => i4 j (by omega), show ls.length + 1 - k = (ls.length - k) + 1 by omega, Nat.zero_add, grI, if_pos g]
   rw [show cnV cs ls = (cnG ls cs.length).1 from if_neg ne, show cnE cs ls = if (cnG ls cs.length).2 = true then 0 else 12 from if_neg ne, e]
   exact LeD.refl _
  ·rw [wi (by omega)] at hx
   subst hx
   refine ⟨_, _, rfl, q, rfl, by omega, by omega, by omega, fun j hj => ?_⟩
   rcases (by omega : (j : Int) < k ∨ j = k) with c | rfl
   ·exact i4 j c
   ·exact g
 ·have h := of_decide_eq_false h
  have e : cnG ls cs.length = ([], false) := by
   unfold cnG
   rw [grI_skip (ls.length + 1) _ _ (Nat.le_refl _) fun j _ h2 => i4 j (by omega), Nat.sub_self, grI]
  rw [show cnV cs ls = (cnG ls cs.length).1 from if_neg ne, show cnE cs ls = if (cnG ls cs.length).2 = true then 0 else 12 from if_neg ne, e]
  exact le_tu le_nil (LeD.refl _)
theorem zero_clock_ContradictingIn_0 (cs : List ByteArray) (ls : List Lnk) (v0_0 : Int) (v0_1 : Int)  (hi : ntE cs ls = 0 ∧ v0_0 = ((ls.length : Nat) : Int) + 1 ∧ 0 ≤ v0_1 ∧ v0_1 ≤ ls.length + 1 ∧ (0 : Int) + v0_1 = ls.length + 2 ∧ ∀ j : Nat, (j : Int) < v0_1 → (grow ls cs.length j [] 0).2 = false) : False := by
 omega
theorem spec_clock_ContradictingIn (cs : List ByteArray) (ls : List Lnk) (hp : (∀ k, k < (cs).length → (txAt cs k).size ≤ 1000000)) : vc_clock_ContradictingIn (J_clock_ContradictingIn cs ls) cs ls (fun r => LeD r (.tu [.c (.sl 1 ((cnV cs ls).length) (intsC (cnV cs ls))), .c (.v (.int .i64 (cnE cs ls)))])) := by
 unfold vc_clock_ContradictingIn
 simp only [lnks_listC, txs_of]
 refine ⟨⟨txP_txs cs, numsP_lnks ls, hp⟩, cond_i (fun h => ?_) (fun h => ?_)⟩
 ·have h : ntE cs ls ≠ 0 := by simpa using h
  rw [show cnV cs ls = [] from if_pos h, show cnE cs ls = ntE cs ls from if_pos h]
  exact le_tu le_nil (LeD.refl _)
 ·have h : ntE cs ls = 0 := by simpa using h
  have z := (ntE_bd h).2.1
  refine lt_i fun x hx => ?_
  rw [wi (by omega)] at hx
  subst hx
  exact ⟨ls.length + 2, _, _, rfl, h, rfl, by omega, by omega, by omega, fun j hj => by omega⟩
theorem all_clock_ContradictingIn (cs : List ByteArray) (ls : List Lnk) (hp : (∀ k, k < (cs).length → (txAt cs k).size ≤ 1000000)) : AllG (J_clock_ContradictingIn cs ls) (loopsFn Try.prog tab Sf4112 ann_clock_ContradictingIn (J_clock_ContradictingIn cs ls) Try.f70 (fun r => LeD r (.tu [.c (.sl 1 ((cnV cs ls).length) (intsC (cnV cs ls))), .c (.v (.int .i64 (cnE cs ls)))]))) := by
 rw [lp_clock_ContradictingIn]
 refine ⟨⟨?_, ?_⟩, trivial⟩
 ·intro F s h
  obtain _ | ⟨g, F⟩ := F
  case cons => exact h.elim
  obtain ⟨w0, w1, rfl, hi⟩ := h
  exact zero_clock_ContradictingIn_0 cs ls w0 w1 hi
 ·intro n F s h
  obtain _ | ⟨g, F⟩ := F
  case cons => exact h.elim
  obtain ⟨w0, w1, rfl, hi⟩ := h
  rw [er_clock_ContradictingIn_0]
  exact rnd_clock_ContradictingIn_0 cs ls _ _ _ hp hi
def con_clock_ContradictingIn : Con := fun args => match args with
 | [.t (.a [.sl 1 n_cs c_cs, .sl 4 n_ls c_ls])] => some (.tu [.c (.sl 1 ((cnV (txOf n_cs c_cs) (listC n_ls mkLnk c_ls)).length) (intsC (cnV (txOf n_cs c_cs) (listC n_ls mkLnk c_ls)))), .c (.v (.int .i64 (cnE (txOf n_cs c_cs) (listC n_ls mkLnk c_ls))))], some (txP n_cs c_cs ∧ numsP 4 n_ls c_ls ∧ (∀ k, k < ((txOf n_cs c_cs)).length → (txAt (txOf n_cs c_cs) k).size ≤ 1000000)), false)
 | _ => none
theorem ok_clock_ContradictingIn : Ok Try.prog 70 con_clock_ContradictingIn := by
 refine Ok.fn (ann := ann_clock_ContradictingIn) mixed tabOK VSf4112 VI1 (fn := Try.f70) (by kernel_rfl) (by kernel_rfl) fit_clock_ContradictingIn fun args r pre fresh h hp => ?_
 unfold con_clock_ContradictingIn at h
 split at h
 ·rename_i n_cs c_cs n_ls c_ls
  cases h
  obtain ⟨hp0, hp1, hp⟩ := hp
  refine ⟨rfl, J_clock_ContradictingIn (txOf n_cs c_cs) (listC n_ls mkLnk c_ls), [.t (.a [.sl 1 ((txOf n_cs c_cs).length) (txsC (txOf n_cs c_cs)), .sl 4 ((listC n_ls mkLnk c_ls).length) (lnksC (listC n_ls mkLnk c_ls))])], ?_, Nat.le_of_ble_eq_true (by kernel_rfl), ?_, ?_⟩
  ·exact (LeA_cons (leT_a (LeCs.cons ((leL_str hp0)) (LeCs.cons ((leL_Lnk hp1)) LeCs.nil))) LeA_nil)
  ·rw [ev_clock_ContradictingIn]; exact spec_clock_ContradictingIn (txOf n_cs c_cs) (listC n_ls mkLnk c_ls) hp
  ·exact all_clock_ContradictingIn (txOf n_cs c_cs) (listC n_ls mkLnk c_ls) hp
 ·cases h
def Sf4113 : Sum := addS Sf4112 70 con_clock_ContradictingIn
theorem VSf4113 : Valid Try.prog Sf4113 := Valid.add VSf4112 ok_clock_ContradictingIn
end Go.Proofs.Ytkifmfmenobhnaa
set_option linter.unusedVariables false
set_option linter.unusedSimpArgs false
namespace Go.Proofs.Ytkifmfmenobhnaa
abbrev Bd := Option Int
def Bd.add (a b : Bd) : Bd := match a, b with
 | some x, some y => some (x + y)
 | _, _ => none
def Bd.min (a b : Bd) : Bd := match a, b with
 | some x, some y => some (Min.min x y)
 | some x, none => some x
 | none, b => b
def Bd.le (a b : Bd) : Prop := ∀ y, b = some y → ∃ x, a = some x ∧ x ≤ y
theorem Bd.le_refl (a : Bd) : Bd.le a a := fun y h => ⟨y, h, Int.le_refl _⟩
theorem Bd.le_trans {a b c : Bd} (h : Bd.le a b) (g : Bd.le b c) : Bd.le a c := fun z hz => by
 obtain ⟨y, hy, h1⟩ := g z hz
 obtain ⟨x, hx, h2⟩ := h y hy
 exact ⟨x, hx, by omega⟩
theorem Bd.min_left (a b : Bd) : Bd.le (Bd.min a b) a := fun y h => by
 subst h; cases b with
 | none => exact ⟨y, rfl, Int.le_refl _⟩
 | some z => exact ⟨_, rfl, by omega⟩
theorem Bd.min_right (a b : Bd) : Bd.le (Bd.min a b) b := fun y h => by
 subst h; cases a with
 | none => exact ⟨y, rfl, Int.le_refl _⟩
 | some z => exact ⟨_, rfl, by omega⟩
theorem Bd.le_min {a b c : Bd} (h : Bd.le c a) (g : Bd.le c b) : Bd.le c (Bd.min a b) := fun y e => by
 cases a with
 | none => cases b with
  | none => cases e
  | some z => exact g y e
 | some x => cases b with
  | none => exact h y e
  | some z =>
   obtain ⟨u, hu, h1⟩ := h x rfl
   obtain ⟨v, hv, h2⟩ := g z rfl
   rw [hu] at hv; cases hv
   simp only [Bd.min, Option.some.injEq] at e
   exact ⟨u, hu, by omega⟩
theorem Bd.add_le {a b c d : Bd} (h : Bd.le a c) (g : Bd.le b d) : Bd.le (Bd.add a b) (Bd.add c d) := fun y e => by
 cases c with
 | none => cases d <;> cases e
 | some x => cases d with
  | none => cases e
  | some z =>
   obtain ⟨u, hu, h1⟩ := h x rfl
   obtain ⟨v, hv, h2⟩ := g z rfl
   subst hu; subst hv
   simp only [Bd.add, Option.some.injEq] at e
   exact ⟨u + v, rfl, by omega⟩
theorem Bd.add_assoc (a b c : Bd) : Bd.add (Bd.add a b) c = Bd.add a (Bd.add b c) := by
 cases a <;> cases b <;> cases c <;> simp [Bd.add, Int.add_assoc]
theorem Bd.add_zero_le {a b : Bd} (h : Bd.le (some 0) b) : Bd.le a (Bd.add a b) := fun y e => by
 cases a with
 | none => cases b <;> cases e
 | some x => cases b with
  | none => cases e
  | some z =>
   obtain ⟨u, hu, h1⟩ := h z rfl
   cases hu
   simp only [Bd.add, Option.some.injEq] at e
   exact ⟨x, rfl, by omega⟩
def tight (b : Nat → Nat → Bd) (k : Nat) : Nat → Nat → Bd := fun i j => Bd.min (b i j) (Bd.add (b i k) (b k j))
def triK (b : Nat → Nat → Bd) (k : Nat) : Prop := ∀ i j, Bd.le (b i j) (Bd.add (b i k) (b k j))
theorem tight_keeps {b : Nat → Nat → Bd} {k m : Nat} (h : triK b k) (hm : Bd.le (some 0) (b m m)) : triK (tight b m) k := by
 intro i j
 have hj : Bd.le (tight b m i j) (Bd.add (b i m) (b m j)) := Bd.min_right _ _
 have h0 : Bd.le (tight b m i j) (b i j) := Bd.min_left _ _
 have c1 : tight b m i k = b i k ∨ tight b m i k = Bd.add (b i m) (b m k) := by
  unfold tight; cases b i k <;> cases Bd.add (b i m) (b m k) <;> simp [Bd.min]; omega
 have c2 : tight b m k j = b k j ∨ tight b m k j = Bd.add (b k m) (b m j) := by
  unfold tight; cases b k j <;> cases Bd.add (b k m) (b m j) <;> simp [Bd.min]; omega
 rcases c1 with c1 | c1 <;> rcases c2 with c2 | c2 <;> rw [c1, c2]
 ·exact Bd.le_trans h0 (h i j)
 ·rw [← Bd.add_assoc]
  exact Bd.le_trans hj (Bd.add_le (h i m) (Bd.le_refl _))
 ·rw [Bd.add_assoc]
  exact Bd.le_trans hj (Bd.add_le (Bd.le_refl _) (h m j))
 ·refine Bd.le_trans hj ?_
  have e : Bd.add (Bd.add (b i m) (b m k)) (Bd.add (b k m) (b m j)) = Bd.add (Bd.add (b i m) (Bd.add (b m k) (b k m))) (b m j) := by
   simp only [Bd.add_assoc]
  rw [e]
  exact Bd.add_le (Bd.add_zero_le (Bd.le_trans hm (h m m))) (Bd.le_refl _)
theorem tight_own {b : Nat → Nat → Bd} {k : Nat} (hk : b k k = some 0) : triK (tight b k) k := by
 intro i j
 have e1 : tight b k i k = b i k := by unfold tight; rw [hk]; cases b i k <;> simp [Bd.add, Bd.min]
 have e2 : tight b k k j = b k j := by unfold tight; rw [hk]; cases b k j <;> simp [Bd.add, Bd.min]
 rw [e1, e2]
 exact Bd.min_right _ _
def keeps (b : Nat → Nat → Bd) (o : Nat → Int) : Prop := ∀ i j x, b i j = some x → o j - o i ≤ x
theorem keeps_tight {b : Nat → Nat → Bd} {o : Nat → Int} (h : keeps b o) (k : Nat) : keeps (tight b k) o := by
 intro i j x e
 unfold tight at e
 have h1 := h i j
 have h2 := h i k
 have h3 := h k j
 cases e1 : b i j <;> cases e2 : b i k <;> cases e3 : b k j <;> rw [e1, e2, e3] at e <;> simp [Bd.add, Bd.min] at e
 ·have a := h2 _ e2; have c := h3 _ e3; omega
 ·have a := h1 _ e1; omega
 ·have a := h1 _ e1; omega
 ·have a := h1 _ e1; omega
 ·have a := h1 _ e1; have c := h2 _ e2; have d := h3 _ e3; omega
theorem Bd.min_idem (a t : Bd) : Bd.min (Bd.min a t) t = Bd.min a t := by
 cases a <;> cases t <;> simp [Bd.min]
theorem Bd.min_zero (a : Bd) : Bd.min a (Bd.add a (some 0)) = a ∧ Bd.min a (Bd.add (some 0) a) = a := by
 cases a <;> simp [Bd.min, Bd.add]
def updB (b : Nat → Nat → Bd) (i j : Nat) (v : Bd) : Nat → Nat → Bd := fun x y => if x = i ∧ y = j then v else b x y
def seqStep (k : Nat) (b : Nat → Nat → Bd) (p : Nat × Nat) : Nat → Nat → Bd := updB b p.1 p.2 (Bd.min (b p.1 p.2) (Bd.add (b p.1 k) (b k p.2)))
def pairsN (n : Nat) : List (Nat × Nat) := (List.range n).flatMap fun i => (List.range n).map fun j => (i, j)
theorem mem_pairsN {n i j : Nat} : (i, j) ∈ pairsN n ↔ i < n ∧ j < n := by
 unfold pairsN
 simp only [List.mem_flatMap, List.mem_map, List.mem_range, Prod.mk.injEq]
 constructor
 ·rintro ⟨a, ha, b, hb, rfl, rfl⟩; exact ⟨ha, hb⟩
 ·rintro ⟨h1, h2⟩; exact ⟨i, h1, j, h2, rfl, rfl⟩
def seqK (n : Nat) (b : Nat → Nat → Bd) (k : Nat) : Nat → Nat → Bd := (pairsN n).foldl (seqStep k) b
def seqN (n : Nat) (b : Nat → Nat → Bd) : Nat → Nat → Nat → Bd
 | 0 => b
 | m + 1 => seqK n (seqN n b m) m
theorem seq_fold {b : Nat → Nat → Bd} {k : Nat} (hk : b k k = some 0) : ∀ (l : List (Nat × Nat)) (c : Nat → Nat → Bd), (∀ x, c x k = b x k) → (∀ y, c k y = b k y) →
  ∀ x y, l.foldl (seqStep k) c x y = if (x, y) ∈ l then Bd.min (c x y) (Bd.add (b x k) (b k y)) else c x y := by
 intro l
 induction l with
 | nil => intro c _ _ x y; simp
 | cons p l ih =>
  intro c h1 h2 x y
  obtain ⟨i, j⟩ := p
  rw [List.foldl_cons, ih]
  ·have e : seqStep k c (i, j) x y = if x = i ∧ y = j then Bd.min (c x y) (Bd.add (b x k) (b k y)) else c x y := by
    unfold seqStep updB
    simp only
    split
    ·next h => rw [h.1, h.2, h1, h2]
    ·rfl
   rw [e]
   by_cases hp : x = i ∧ y = j
   ·rw [if_pos hp, if_pos (show (x, y) ∈ (i, j) :: l by rw [hp.1, hp.2]; simp), Bd.min_idem]
    split <;> rfl
   ·rw [if_neg hp]
    have hm : ((x, y) ∈ (i, j) :: l) ↔ (x, y) ∈ l := by
     simp only [List.mem_cons, Prod.mk.injEq]
     exact ⟨fun h => h.elim (fun h => (hp h).elim) id, Or.inr⟩
    by_cases h3 : (x, y) ∈ l
    ·rw [if_pos h3, if_pos (hm.2 h3)]
    ·rw [if_neg h3, if_neg (fun h => h3 (hm.1 h))]
  ·intro x
   unfold seqStep updB; simp only
   split
   ·next h => rw [h.1, ← h.2, h1, h2, hk, (Bd.min_zero _).1]
   ·exact h1 x
  ·intro y
   unfold seqStep updB; simp only
   split
   ·next h => rw [h.2, ← h.1, h2, h2, hk, (Bd.min_zero _).2]
   ·exact h2 y
def supp (n : Nat) (b : Nat → Nat → Bd) : Prop := ∀ i j, ¬ (i < n ∧ j < n) → b i j = none
theorem tight_supp {n : Nat} {b : Nat → Nat → Bd} (h : supp n b) (k : Nat) : supp n (tight b k) := by
 intro i j hij
 unfold tight
 rw [h i j hij]
 by_cases hi : i < n
 ·rw [h k j (by omega)]; cases b i k <;> rfl
 ·rw [h i k (by omega)]; rfl
theorem seqK_tight {n : Nat} {b : Nat → Nat → Bd} (h : supp n b) {k : Nat} (hk : b k k = some 0) : seqK n b k = tight b k := by
 funext x y
 unfold seqK
 rw [seq_fold hk _ _ (fun _ => rfl) (fun _ => rfl)]
 split
 ·rfl
 ·next hn => rw [h x y (fun hh => hn (mem_pairsN.2 hh)), tight_supp h k x y (fun hh => hn (mem_pairsN.2 hh))]
theorem seqStep_le (k : Nat) (b : Nat → Nat → Bd) (p : Nat × Nat) (x y : Nat) : Bd.le (seqStep k b p x y) (b x y) := by
 unfold seqStep updB
 split
 ·next h => rw [h.1, h.2]; exact Bd.min_left _ _
 ·exact Bd.le_refl _
theorem seqK_le (n k : Nat) (b : Nat → Nat → Bd) (x y : Nat) : Bd.le (seqK n b k x y) (b x y) := by
 unfold seqK
 have : ∀ (l : List (Nat × Nat)) (c : Nat → Nat → Bd), Bd.le (l.foldl (seqStep k) c x y) (c x y) := by
  intro l
  induction l with
  | nil => intro c; exact Bd.le_refl _
  | cons p l ih => intro c; exact Bd.le_trans (ih _) (seqStep_le k c p x y)
 exact this _ _
theorem keeps_step {b : Nat → Nat → Bd} {o : Nat → Int} (h : keeps b o) (k : Nat) (p : Nat × Nat) : keeps (seqStep k b p) o := by
 intro i j x e
 unfold seqStep updB at e
 split at e
 ·next hh => rw [hh.1, hh.2]; exact keeps_tight h k p.1 p.2 x e
 ·exact h i j x e
theorem keeps_seq {n : Nat} {b : Nat → Nat → Bd} {o : Nat → Int} (h : keeps b o) : ∀ m, keeps (seqN n b m) o := by
 intro m
 induction m with
 | zero => exact h
 | succ m ih =>
  unfold seqN seqK
  have : ∀ (l : List (Nat × Nat)) (c : Nat → Nat → Bd), keeps c o → keeps (l.foldl (seqStep m) c) o := by
   intro l
   induction l with
   | nil => intro c hc; exact hc
   | cons p l ih2 => intro c hc; exact ih2 _ (keeps_step hc m p)
  exact this _ _ ih
theorem seqN_le (n : Nat) (b : Nat → Nat → Bd) {m k : Nat} (h : m ≤ k) (x y : Nat) : Bd.le (seqN n b k x y) (seqN n b m x y) := by
 induction k with
 | zero => rw [show m = 0 by omega]; exact Bd.le_refl _
 | succ k ih =>
  rcases (by omega : m = k + 1 ∨ m ≤ k) with rfl | h1
  ·exact Bd.le_refl _
  ·exact Bd.le_trans (seqK_le n k _ x y) (ih h1)
theorem Bd.zero_of {a : Bd} (h : Bd.le a (some 0)) (g : Bd.le (some 0) a) : a = some 0 := by
 obtain ⟨x, hx, h1⟩ := h 0 rfl
 subst hx
 obtain ⟨z, hz, h2⟩ := g x rfl
 cases hz
 rw [show x = 0 by omega]
theorem seq_tri {n : Nat} {b : Nat → Nat → Bd} (hs : supp n b) (h0 : ∀ i, i < n → b i i = some 0) (hf : ∀ i, i < n → Bd.le (some 0) (seqN n b n i i)) : ∀ k, k < n → triK (seqN n b n) k := by
 have hz : ∀ m, m ≤ n → ∀ i, i < n → seqN n b m i i = some 0 := fun m hm i hi => by
  refine Bd.zero_of ?_ (Bd.le_trans (hf i hi) (seqN_le n b hm i i))
  have := seqN_le n b (Nat.zero_le m) i i
  rw [show seqN n b 0 i i = some 0 from h0 i hi] at this
  exact this
 have key : ∀ m, m ≤ n → supp n (seqN n b m) ∧ ∀ k, k < m → triK (seqN n b m) k := by
  intro m
  induction m with
  | zero => intro _; exact ⟨hs, fun k hk => by omega⟩
  | succ m ih =>
   intro hm
   obtain ⟨a1, a2⟩ := ih (by omega)
   have e : seqN n b (m + 1) = tight (seqN n b m) m := seqK_tight a1 (hz m (by omega) m (by omega))
   rw [e]
   refine ⟨tight_supp a1 m, fun k hk => ?_⟩
   rcases (by omega : k = m ∨ k < m) with rfl | hkm
   ·exact tight_own (hz k (by omega) k (by omega))
   ·exact tight_keeps (a2 k hkm) (by rw [hz m (by omega) m (by omega)]; exact Bd.le_refl _)
 exact (key n (Nat.le_refl _)).2
end Go.Proofs.Ytkifmfmenobhnaa
set_option linter.unusedVariables false
set_option linter.unusedSimpArgs false
namespace Go.Proofs.Ytkifmfmenobhnaa
open Go.RowKit Ev
def toB (n : Nat) (f : Nat → Nat → Int) : Nat → Nat → Bd := fun x y => if x < n ∧ y < n ∧ f x y < far then some (f x y) else none
theorem toB_some {n : Nat} {f : Nat → Nat → Int} {x y : Nat} (hx : x < n) (hy : y < n) (h : f x y < far) : toB n f x y = some (f x y) := if_pos ⟨hx, hy, h⟩
theorem toB_none {n : Nat} {f : Nat → Nat → Int} {x y : Nat} (h : ¬ f x y < far) : toB n f x y = none := if_neg fun c => h c.2.2
theorem toB_out {n : Nat} {f : Nat → Nat → Int} {x y : Nat} {v : Int} (h : toB n f x y = some v) : x < n ∧ y < n ∧ f x y < far ∧ f x y = v := by
 unfold toB at h
 split at h
 ·rename_i c; cases h; exact ⟨c.1, c.2.1, c.2.2, rfl⟩
 ·cases h
theorem toB_supp (n : Nat) (f : Nat → Nat → Int) : supp n (toB n f) := fun i j h => if_neg fun c => h ⟨c.1, c.2.1⟩
theorem toB_step {n : Nat} {U : Int} (hU : 0 ≤ U ∧ 2 * U < 1125899906842624) {k : Nat} {f g : Nat → Nat → Int} (h : relK n U k f g) {i j : Nat} (hk : k < n) (hi : i < n) (hj : j < n) : toB n (stepK f k i j) = seqStep k (toB n f) (i, j) := by
 have ef : far = 1152921504606846976 := rfl
 have h1 := h i k hi hk
 have h2 := h k j hk hj
 funext x y
 unfold stepK seqStep updB
 simp only
 by_cases c : f i k < far ∧ f k j < far
 ·rw [if_pos c, toB_some hi hk c.1, toB_some hk hj c.2]
  have a1 : f i k ≤ U := by
   rcases h1 with h1 | ⟨h1, h4, h5⟩
   ·omega
   ·exact h5 (Or.inr rfl)
  have a2 : f k j ≤ U := by
   rcases h2 with h2 | ⟨h2, h4, h5⟩
   ·omega
   ·exact h5 (Or.inl rfl)
  by_cases e : x = i ∧ y = j
  ·obtain ⟨rfl, rfl⟩ := e
   rw [if_pos ⟨rfl, rfl⟩]
   rw [show toB n (updI f x y (min (f x y) (f x k + f k y))) x y = some (min (f x y) (f x k + f k y)) from by
    unfold toB updI
    rw [if_pos (⟨rfl, rfl⟩ : x = x ∧ y = y)]
    exact if_pos ⟨hi, hj, by omega⟩]
   by_cases d : f x y < far
   ·rw [toB_some hi hj d]; rfl
   ·rw [toB_none d]
    show some _ = some _
    rw [show min (f x y) (f x k + f k y) = f x k + f k y by omega]
  ·rw [if_neg e]
   unfold toB updI
   rw [if_neg e]
 ·rw [if_neg c]
  have e2 : Bd.add (toB n f i k) (toB n f k j) = none := by
   by_cases d : f i k < far
   ·rw [toB_none (x := k) (fun q => c ⟨d, q⟩)]; cases toB n f i k <;> rfl
   ·rw [toB_none d]; rfl
  rw [e2]
  by_cases e : x = i ∧ y = j
  ·rw [if_pos e, e.1, e.2]; cases toB n f i j <;> rfl
  ·rw [if_neg e]
theorem toB_j {n : Nat} {U : Int} (hU : 0 ≤ U ∧ 2 * U < 1125899906842624) {k : Nat} {f g : Nat → Nat → Int} (h : relK n U k f g) {i : Nat} (hk : k < n) (hi : i < n) : ∀ j, j ≤ n → toB n (jK f k i j) = ((List.range j).map fun j => (i, j)).foldl (seqStep k) (toB n f)
 | 0, _ => rfl
 | j + 1, hj => by
  rw [List.range_succ, List.map_append, List.foldl_append, ← toB_j hU h hk hi j (by omega)]
  exact toB_step hU (h.j hU hk hi j (by omega)) hk hi (by omega)
theorem toB_i {n : Nat} {U : Int} (hU : 0 ≤ U ∧ 2 * U < 1125899906842624) {k : Nat} {f g : Nat → Nat → Int} (h : relK n U k f g) (hk : k < n) : ∀ i, i ≤ n → toB n (iK f n k i) = ((List.range i).flatMap fun i => (List.range n).map fun j => (i, j)).foldl (seqStep k) (toB n f)
 | 0, _ => rfl
 | i + 1, hi => by
  rw [List.range_succ, List.flatMap_append, List.foldl_append, ← toB_i hU h hk i (by omega), List.flatMap_singleton]
  exact toB_j hU (h.i hU hk i (by omega)) hk (by omega) n (Nat.le_refl _)
theorem toB_k {n : Nat} {f g : Nat → Nat → Int} (hn : n ≤ 6) (h : rel2 n 1000000000 f g) : ∀ k, k ≤ n → toB n (kK f n k) = seqN n (toB n f) k
 | 0, _ => rfl
 | k + 1, hk => by
  have ih := h.k hn k (by omega)
  have hp : (0 : Int) ≤ 2 ^ k * 1000000000 ∧ 2 * (2 ^ k * 1000000000) < (1125899906842624 : Int) := by
   rcases (by omega : k = 0 ∨ k = 1 ∨ k = 2 ∨ k = 3 ∨ k = 4 ∨ k = 5) with rfl | rfl | rfl | rfl | rfl | rfl <;> decide
  rw [seqN, ← toB_k hn h k (by omega)]
  exact toB_i hp (ih.start hp.1 k) (by omega) n (Nat.le_refl _)
theorem bd_seq {n : Nat} (hn : n ≤ 6) {l : List Lnk} (hok : ∀ k, k < l.length → (lnkAt l k).ok n) : toB n (bdF l n) = seqN n (toB n (lnkM l l.length)) n := by
 have h := rel2.links hok (al_ok l) (alI l).length (Nat.le_refl _)
 rw [sel_all, al_len] at h
 exact toB_k hn h n (Nat.le_refl _)
theorem seqN_mono {b b' : Nat → Nat → Bd} (h : ∀ x y, Bd.le (b x y) (b' x y)) (n : Nat) : ∀ m x y, Bd.le (seqN n b m x y) (seqN n b' m x y)
 | 0, x, y => h x y
 | m + 1, x, y => by
  have key : ∀ (l : List (Nat × Nat)) (c c' : Nat → Nat → Bd), (∀ x y, Bd.le (c x y) (c' x y)) → ∀ x y, Bd.le (l.foldl (seqStep m) c x y) (l.foldl (seqStep m) c' x y) := by
   intro l
   induction l with
   | nil => intro c c' hc; exact hc
   | cons p l ih =>
    intro c c' hc
    refine ih _ _ fun x y => ?_
    unfold seqStep updB
    split
    ·exact Bd.le_min (Bd.le_trans (Bd.min_left _ _) (hc _ _)) (Bd.le_trans (Bd.min_right _ _) (Bd.add_le (hc _ _) (hc _ _)))
    ·exact hc x y
  exact key _ _ _ (seqN_mono h n m) x y
theorem lnk_le : ∀ (l : List Lnk) (f : Nat → Nat → Int), (∀ x y, l.foldl lnkG f x y ≤ f x y) ∧ ∀ z ∈ l, l.foldl lnkG f z.frm.toNat z.to.toNat ≤ z.hi ∧ l.foldl lnkG f z.to.toNat z.frm.toNat ≤ -z.lo
 | [], f => ⟨fun x y => Int.le_refl _, fun z hz => by cases hz⟩
 | a :: l, f => by
  obtain ⟨h1, h2⟩ := lnk_le l (lnkG f a)
  have g1 : ∀ x y, lnkF f a x y ≤ f x y := fun x y => by
   unfold lnkF updI
   split
   ·rename_i e; rw [e.1, e.2]; omega
   ·exact Int.le_refl _
  have g2 : ∀ x y, lnkG f a x y ≤ lnkF f a x y := fun x y => by
   unfold lnkG updI
   split
   ·rename_i e; rw [e.1, e.2]; omega
   ·exact Int.le_refl _
  refine ⟨fun x y => Int.le_trans (h1 x y) (Int.le_trans (g2 x y) (g1 x y)), fun z hz => ?_⟩
  rcases List.mem_cons.1 hz with rfl | hz
  ·have a1 := h1 z.frm.toNat z.to.toNat
   have a2 := g2 z.frm.toNat z.to.toNat
   have a3 := h1 z.to.toNat z.frm.toNat
   have a4 : lnkF f z z.frm.toNat z.to.toNat ≤ z.hi := by unfold lnkF updI; rw [if_pos ⟨rfl, rfl⟩]; omega
   have a5 : lnkG f z z.to.toNat z.frm.toNat ≤ -z.lo := by unfold lnkG; unfold updI; rw [if_pos ⟨rfl, rfl⟩]; omega
   exact ⟨by show (l.foldl lnkG (lnkG f z)) _ _ ≤ _; omega, by show (l.foldl lnkG (lnkG f z)) _ _ ≤ _; omega⟩
  ·exact h2 z hz
theorem lnk_from : ∀ (l : List Lnk) (f : Nat → Nat → Int) (x y : Nat), l.foldl lnkG f x y = f x y ∨ ∃ z ∈ l, (x = z.frm.toNat ∧ y = z.to.toNat ∧ l.foldl lnkG f x y = z.hi) ∨ (x = z.to.toNat ∧ y = z.frm.toNat ∧ l.foldl lnkG f x y = -z.lo)
 | [], f, x, y => Or.inl rfl
 | a :: l, f, x, y => by
  rcases lnk_from l (lnkG f a) x y with h | ⟨z, hz, h⟩
  ·have e : lnkG f a x y = f x y ∨ (x = a.frm.toNat ∧ y = a.to.toNat ∧ lnkG f a x y = a.hi) ∨ (x = a.to.toNat ∧ y = a.frm.toNat ∧ lnkG f a x y = -a.lo) := by
    unfold lnkG
    unfold updI
    by_cases e : x = a.to.toNat ∧ y = a.frm.toNat
    ·rw [if_pos e]
     by_cases c : lnkF f a a.to.toNat a.frm.toNat ≤ -a.lo
     ·rw [show min (lnkF f a a.to.toNat a.frm.toNat) (-a.lo) = lnkF f a a.to.toNat a.frm.toNat by omega, ← e.1, ← e.2]
      unfold lnkF updI
      by_cases e2 : x = a.frm.toNat ∧ y = a.to.toNat
      ·rw [if_pos e2, ← e2.1, ← e2.2]
       rcases (by omega : min (f x y) a.hi = f x y ∨ min (f x y) a.hi = a.hi) with q | q
       ·exact Or.inl q
       ·exact Or.inr (Or.inl ⟨by omega, by omega, q⟩)
      ·rw [if_neg e2]; exact Or.inl rfl
     ·exact Or.inr (Or.inr ⟨e.1, e.2, by omega⟩)
    ·rw [if_neg e]
     unfold lnkF updI
     by_cases e2 : x = a.frm.toNat ∧ y = a.to.toNat
     ·rw [if_pos e2, ← e2.1, ← e2.2]
      rcases (by omega : min (f x y) a.hi = f x y ∨ min (f x y) a.hi = a.hi) with q | q
      ·exact Or.inl q
      ·exact Or.inr (Or.inl ⟨rfl, rfl, q⟩)
     ·rw [if_neg e2]; exact Or.inl rfl
   show (l.foldl lnkG (lnkG f a)) x y = _ ∨ _
   rcases e with e | e
   ·exact Or.inl (h.trans e)
   ·refine Or.inr ⟨a, by simp, ?_⟩
    rw [← h] at e
    exact e
  ·exact Or.inr ⟨z, by simp [hz], h⟩
theorem lnkM_all (l : List Lnk) : lnkM l l.length = l.foldl lnkG initM := by unfold lnkM; rw [List.take_length]
theorem mem_lnk {l : List Lnk} {z : Lnk} (h : z ∈ l) : ∃ k, k < l.length ∧ lnkAt l k = z := by
 obtain ⟨i, hi, e⟩ := List.getElem_of_mem h
 exact ⟨i, hi, by simp [lnkAt, List.getD, hi, e]⟩
theorem lnk_mem {l : List Lnk} {k : Nat} (h : k < l.length) : lnkAt l k ∈ l := by
 have : lnkAt l k = l[k] := by simp [lnkAt, List.getD, h]
 rw [this]; exact List.getElem_mem h
theorem lnkM_diag {n : Nat} {l : List Lnk} (hok : ∀ k, k < l.length → (lnkAt l k).ok n) (i : Nat) : lnkM l l.length i i = 0 := by
 rw [lnkM_all]
 rcases lnk_from l initM i i with h | ⟨z, hz, h⟩
 ·rw [h]; simp [initM]
 ·obtain ⟨k, hk, rfl⟩ := mem_lnk hz
  obtain ⟨o1, o2, o3, _⟩ := hok k hk
  rcases h with h | h <;> omega
theorem init_mono {n : Nat} {l s : List Lnk} (hs : ∀ z ∈ s, z ∈ l) (x y : Nat) : Bd.le (toB n (lnkM l l.length) x y) (toB n (lnkM s s.length) x y) := by
 intro v hv
 obtain ⟨hx, hy, hf, e⟩ := toB_out hv
 have h : lnkM l l.length x y ≤ v := by
  rw [lnkM_all] at *
  obtain ⟨g1, g2⟩ := lnk_le l initM
  rcases lnk_from s initM x y with h | ⟨z, hz, ⟨rfl, rfl, h⟩ | ⟨rfl, rfl, h⟩⟩
  ·have := g1 x y; omega
  ·have := (g2 z (hs z hz)).1; omega
  ·have := (g2 z (hs z hz)).2; omega
 exact ⟨_, toB_some hx hy (by omega), h⟩
theorem bdB_sub {n : Nat} (hn : n ≤ 6) {l s : List Lnk} (hok : ∀ k, k < l.length → (lnkAt l k).ok n) (hs : ∀ z ∈ s, z ∈ l) (h : bdB l n = true) : bdB s n = true := by
 have hok2 : ∀ k, k < s.length → (lnkAt s k).ok n := fun k hk => by
  obtain ⟨q, hq, e⟩ := mem_lnk (hs _ (lnk_mem hk))
  rw [← e]; exact hok q hq
 have ef : far = 1152921504606846976 := rfl
 refine bdB_true.2 fun i hi => ?_
 by_cases c : bdF s n i i < far
 ·have m := seqN_mono (init_mono (n := n) hs) n n i i
  rw [← bd_seq hn hok, ← bd_seq hn hok2] at m
  obtain ⟨x, hx, hle⟩ := m _ (toB_some hi hi c)
  obtain ⟨_, _, _, e⟩ := toB_out hx
  have := bdB_true.1 h i hi
  omega
 ·omega
end Go.Proofs.Ytkifmfmenobhnaa
set_option linter.unusedVariables false
set_option linter.unusedSimpArgs false
namespace Go.Proofs.Ytkifmfmenobhnaa
open Go.RowKit Ev
theorem grI_true {f : Nat → List Int × Bool} : ∀ n i j, i ≤ j → j < i + n → (f j).2 = true → (grI f n i).2 = true
 | 0, i, j, h1, h2, _ => by omega
 | n + 1, i, j, h1, h2, h => by
  rw [grI]
  by_cases c : (f i).2 = true
  ·rw [if_pos c]
  ·rw [if_neg c]
   exact grI_true n (i + 1) j (by have : i ≠ j := fun e => c (by rw [e]; exact h); omega) (by omega) h
theorem grow_full {ls : List Lnk} {n : Nat} (h : bdB ls n = false) : ∀ m i0, i0 + m = ls.length → (grow ls n m ((List.range i0).map fun i : Nat => (i : Int)) i0).2 = true
 | 0, i0, e => by
  rw [grow]
  show (!bdB (selL ls _) n) = true
  rw [show i0 = ls.length by omega]
  have q := sel_all ls
  unfold alI at q
  rw [q, h]; rfl
 | m + 1, i0, e => by
  have ih := grow_full h m (i0 + 1) (by omega)
  rw [List.range_succ, List.map_append, List.map_singleton] at ih
  rw [grow, show ls.length - i0 = (ls.length - i0 - 1) + 1 by omega, grI, if_pos ih]
theorem grow_no {ls : List Lnk} {n : Nat} (hn : n ≤ 6) (hok : ∀ k, k < ls.length → (lnkAt ls k).ok n) (h : bdB ls n = true) : ∀ m (s : List Int) i0, (∀ q ∈ s, 0 ≤ q ∧ q < ls.length) → (grow ls n m s i0).2 = false
 | 0, s, i0, hs => by
  rw [grow]
  show (!bdB (selL ls s) n) = false
  rw [bdB_sub hn hok (fun z hz => ?_) h]; rfl
  unfold selL at hz
  obtain ⟨q, hq, rfl⟩ := List.mem_map.1 hz
  have := hs q hq
  exact lnk_mem (by omega)
 | m + 1, s, i0, hs => by
  rw [grow, grI_skip (ls.length - i0) _ _ (Nat.le_refl _) fun j h1 h2 => grow_no hn hok h m _ _ fun q hq => ?_, Nat.sub_self, grI]
  rcases List.mem_append.1 hq with hq | hq
  ·exact hs q hq
  ·rw [List.mem_singleton.1 hq]; omega
theorem cnG_eq {ls : List Lnk} {n : Nat} (hn : n ≤ 6) (hok : ∀ k, k < ls.length → (lnkAt ls k).ok n) : (cnG ls n).2 = !bdB ls n := by
 unfold cnG
 cases h : bdB ls n with
 | false => exact grI_true _ _ ls.length (Nat.zero_le _) (by omega) (grow_full h ls.length 0 (by omega))
 | true =>
  rw [grI_skip (ls.length + 1) _ _ (Nat.le_refl _) fun j h1 h2 => grow_no hn hok h j [] 0 (fun q hq => absurd hq (by simp)), Nat.sub_self, grI]; rfl
theorem co_in {ls : List Lnk} {o : List Int} {k : Nat} (h : coF ls o k = 0) : (lnkAt ls k).lo ≤ o.getD (lnkAt ls k).to.toNat 0 - o.getD (lnkAt ls k).frm.toNat 0 ∧ o.getD (lnkAt ls k).to.toNat 0 - o.getD (lnkAt ls k).frm.toNat 0 ≤ (lnkAt ls k).hi := by
 unfold coF at h
 rw [unl_0 (by decide)] at h
 exact inB_true.1 h
theorem in_co {ls : List Lnk} {o : List Int} {k : Nat} (h : (lnkAt ls k).lo ≤ o.getD (lnkAt ls k).to.toNat 0 - o.getD (lnkAt ls k).frm.toNat 0 ∧ o.getD (lnkAt ls k).to.toNat 0 - o.getD (lnkAt ls k).frm.toNat 0 ≤ (lnkAt ls k).hi) : coF ls o k = 0 := by
 unfold coF
 rw [unl_0 (by decide)]
 exact inB_true.2 h
theorem keeps_bd {n : Nat} (hn : n ≤ 6) {ls : List Lnk} (hok : ∀ k, k < ls.length → (lnkAt ls k).ok n) {o : List Int} (h : ∀ k, k < ls.length → coF ls o k = 0) {i j : Nat} (hi : i < n) (hj : j < n) (hf : bdF ls n i j < far) : o.getD j 0 - o.getD i 0 ≤ bdF ls n i j := by
 have k0 : keeps (toB n (lnkM ls ls.length)) fun i => o.getD i 0 := by
  intro i j x hx
  obtain ⟨_, _, hf, e⟩ := toB_out hx
  rw [lnkM_all] at *
  rcases lnk_from ls initM i j with g | ⟨z, hz, ⟨rfl, rfl, g⟩ | ⟨rfl, rfl, g⟩⟩
  ·rw [g] at hf e
   unfold initM at hf e
   split at e
   ·rename_i c; subst c; omega
   ·rename_i c; rw [if_neg c] at hf; omega
  ·obtain ⟨k, hk, rfl⟩ := mem_lnk hz
   have := co_in (h k hk)
   simp only
   omega
  ·obtain ⟨k, hk, rfl⟩ := mem_lnk hz
   have := co_in (h k hk)
   simp only
   omega
 have k1 := keeps_seq (n := n) k0 n
 rw [← bd_seq hn hok] at k1
 exact k1 i j _ (toB_some hi hj hf)
theorem bd_link {n : Nat} (hn : n ≤ 6) {ls : List Lnk} (hok : ∀ k, k < ls.length → (lnkAt ls k).ok n) {k : Nat} (hk : k < ls.length) : (bdF ls n (lnkAt ls k).frm.toNat (lnkAt ls k).to.toNat < far ∧ bdF ls n (lnkAt ls k).frm.toNat (lnkAt ls k).to.toNat ≤ (lnkAt ls k).hi) ∧ bdF ls n (lnkAt ls k).to.toNat (lnkAt ls k).frm.toNat < far ∧ bdF ls n (lnkAt ls k).to.toNat (lnkAt ls k).frm.toNat ≤ -(lnkAt ls k).lo := by
 have ef : far = 1152921504606846976 := rfl
 obtain ⟨o1, o2, o3, o4, o5, o6⟩ := hok k hk
 obtain ⟨g1, g2⟩ := (lnk_le ls initM).2 _ (lnk_mem hk)
 rw [← lnkM_all] at g1 g2
 have m := fun x y => seqN_le n (toB n (lnkM ls ls.length)) (Nat.zero_le n) x y
 rw [← bd_seq hn hok] at m
 constructor
 ·obtain ⟨x, hx, hle⟩ := m (lnkAt ls k).frm.toNat (lnkAt ls k).to.toNat _ (toB_some (by omega) (by omega) (by omega))
  obtain ⟨_, _, hf, e⟩ := toB_out hx
  exact ⟨hf, by omega⟩
 ·obtain ⟨x, hx, hle⟩ := m (lnkAt ls k).to.toNat (lnkAt ls k).frm.toNat _ (toB_some (by omega) (by omega) (by omega))
  obtain ⟨_, _, hf, e⟩ := toB_out hx
  exact ⟨hf, by omega⟩
theorem bd_diag {n : Nat} (hn : n ≤ 6) {ls : List Lnk} (hok : ∀ k, k < ls.length → (lnkAt ls k).ok n) (h : bdB ls n = true) {i : Nat} (hi : i < n) : bdF ls n i i = 0 := by
 have ef : far = 1152921504606846976 := rfl
 have m := seqN_le n (toB n (lnkM ls ls.length)) (Nat.zero_le n) i i
 rw [← bd_seq hn hok] at m
 have d := lnkM_diag hok i
 obtain ⟨x, hx, hle⟩ := m _ (toB_some hi hi (by omega))
 obtain ⟨_, _, hf, e⟩ := toB_out hx
 have := bdB_true.1 h i hi
 omega
theorem bd_tri {n : Nat} (hn : n ≤ 6) {ls : List Lnk} (hok : ∀ k, k < ls.length → (lnkAt ls k).ok n) (h : bdB ls n = true) {i k j : Nat} (hi : i < n) (hk : k < n) (hj : j < n) (h1 : bdF ls n i k < far) (h2 : bdF ls n k j < far) : bdF ls n i j < far ∧ bdF ls n i j ≤ bdF ls n i k + bdF ls n k j := by
 have ef : far = 1152921504606846976 := rfl
 have t := seq_tri (toB_supp n (lnkM ls ls.length)) (fun i hi => by rw [toB_some hi hi (by rw [lnkM_diag hok i]; decide), lnkM_diag hok i]) (fun i hi => by
  rw [← bd_seq hn hok, toB_some hi hi (by rw [bd_diag hn hok h hi]; decide), bd_diag hn hok h hi]
  exact Bd.le_refl _) k hk
 rw [← bd_seq hn hok] at t
 obtain ⟨x, hx, hle⟩ := t i j _ (by rw [toB_some hi hk h1, toB_some hk hj h2]; rfl)
 obtain ⟨_, _, hf, e⟩ := toB_out hx
 exact ⟨hf, by omega⟩
theorem bd_side {n : Nat} (hn : n ≤ 6) {ls : List Lnk} (hok : ∀ k, k < ls.length → (lnkAt ls k).ok n) (C : Nat → Bool) (hC : ∀ k, k < ls.length → C (lnkAt ls k).frm.toNat = C (lnkAt ls k).to.toNat) {i j : Nat} (hi : i < n) (hj : j < n) (h : bdF ls n i j < far) : C i = C j := by
 have key : ∀ m x y, C x ≠ C y → seqN n (toB n (lnkM ls ls.length)) m x y = none := by
  intro m
  induction m with
  | zero =>
   intro x y hxy
   refine toB_none fun hf => ?_
   rw [lnkM_all] at hf
   rcases lnk_from ls initM x y with g | ⟨z, hz, ⟨rfl, rfl, g⟩ | ⟨rfl, rfl, g⟩⟩
   ·rw [g] at hf
    unfold initM at hf
    rw [if_neg (fun e => hxy (by rw [e]))] at hf
    omega
   ·obtain ⟨k, hk, rfl⟩ := mem_lnk hz
    exact hxy (hC k hk)
   ·obtain ⟨k, hk, rfl⟩ := mem_lnk hz
    exact hxy (hC k hk).symm
  | succ m ih =>
   rw [seqN]
   unfold seqK
   generalize seqN n (toB n (lnkM ls ls.length)) m = c at ih
   generalize pairsN n = l
   induction l generalizing c with
   | nil => exact ih
   | cons p l ih2 =>
    refine ih2 _ fun x y hxy => ?_
    unfold seqStep updB
    split
    ·rename_i e
     rw [e.1, e.2] at hxy
     rw [ih _ _ hxy]
     by_cases d : C p.1 = C m
     ·rw [ih m p.2 (fun q => hxy (d.trans q))]; cases c p.1 m <;> rfl
     ·rw [ih p.1 m d]; rfl
    ·exact ih x y hxy
 by_cases d : C i = C j
 ·exact d
 ·have := key n i j d
  rw [← bd_seq hn hok, toB_some hi hj h] at this
  cases this
theorem countP_more {p q : Nat → Bool} (h : ∀ x, p x = true → q x = true) {y : Nat} (hq : q y = true) (hp : p y = false) : ∀ {l : List Nat}, y ∈ l → l.countP p + 1 ≤ l.countP q
 | [], hy => by cases hy
 | a :: l, hy => by
  have mono : l.countP p ≤ l.countP q := List.countP_mono_left fun x _ => h x
  rw [List.countP_cons, List.countP_cons]
  rcases List.mem_cons.1 hy with rfl | hy
  ·rw [hq, hp]; simp; omega
  ·have ih := countP_more h hq hp hy
   by_cases c : p a = true
   ·rw [if_pos c, if_pos (h a c)]; omega
   ·rw [if_neg c]; split <;> omega
theorem five {n : Nat} (hn : n ≤ 6) (h0 : 0 < n) (ls : List Lnk) (hok : ∀ k, k < ls.length → (lnkAt ls k).ok n) (d : Nat → Int) (E : Int) (hE : 0 ≤ E) (hd : d 0 ≤ 0) (hl : ∀ k, k < ls.length → d (lnkAt ls k).to.toNat ≤ d (lnkAt ls k).frm.toNat + E ∧ d (lnkAt ls k).frm.toNat ≤ d (lnkAt ls k).to.toNat + E)
  (hC : ∀ C : Nat → Bool, C 0 = true → (∀ k, k < ls.length → C (lnkAt ls k).frm.toNat = C (lnkAt ls k).to.toNat) → ∀ j, j < n → C j = true) : ∀ j, j < n → d j ≤ 5 * E := by
 have key : ∀ k : Nat, (∀ j, j < n → d j ≤ k * E) ∨ k + 1 ≤ (List.range n).countP fun j => decide (d j ≤ k * E) := by
  intro k
  induction k with
  | zero =>
   right
   have : (List.range n).countP (fun _ => false) + 1 ≤ (List.range n).countP fun j => decide (d j ≤ ((0 : Nat) : Int) * E) := countP_more (y := 0) (fun x h => by cases h) (decide_eq_true (by simpa using hd)) rfl (List.mem_range.2 h0)
   omega
  | succ k ih =>
   have e1 : ((k + 1 : Nat) : Int) * E = k * E + E := by rw [Int.natCast_add, Int.add_mul]; simp
   rcases ih with ih | ih
   ·left; intro j hj; have := ih j hj; omega
   ·by_cases c : ∀ q, q < ls.length → decide (d (lnkAt ls q).frm.toNat ≤ k * E) = decide (d (lnkAt ls q).to.toNat ≤ k * E)
    ·left
     intro j hj
     have kE : 0 ≤ (k : Int) * E := Int.mul_nonneg (by omega) hE
     have := of_decide_eq_true (hC (fun j => decide (d j ≤ k * E)) (decide_eq_true (by omega)) c j hj)
     omega
    ·right
     simp only [Classical.not_forall] at c
     obtain ⟨q, hq, c⟩ := c
     obtain ⟨o1, o2, _⟩ := hok q hq
     obtain ⟨l1, l2⟩ := hl q hq
     have mono : ∀ x, decide (d x ≤ k * E) = true → decide (d x ≤ ((k + 1 : Nat) : Int) * E) = true := fun x h => by
      have := of_decide_eq_true h
      exact decide_eq_true (by omega)
     by_cases a : d (lnkAt ls q).frm.toNat ≤ k * E
     ·have b : ¬ d (lnkAt ls q).to.toNat ≤ k * E := fun b => c (by rw [decide_eq_true a, decide_eq_true b])
      have := countP_more mono (y := (lnkAt ls q).to.toNat) (decide_eq_true (by omega)) (decide_eq_false b) (List.mem_range.2 (show _ < n by omega))
      omega
     ·have b : d (lnkAt ls q).to.toNat ≤ k * E := by
       by_cases b : d (lnkAt ls q).to.toNat ≤ k * E
       ·exact b
       ·exact absurd (by rw [decide_eq_false a, decide_eq_false b]) c
      have := countP_more mono (y := (lnkAt ls q).frm.toNat) (decide_eq_true (by omega)) (decide_eq_false a) (List.mem_range.2 (show _ < n by omega))
      omega
 rcases key 5 with h | h
 ·intro j hj; exact h j hj
 ·have e : (List.range n).countP (fun j => decide (d j ≤ ((5 : Nat) : Int) * E)) = (List.range n).length := by
   have := List.countP_le_length (p := fun j => decide (d j ≤ ((5 : Nat) : Int) * E)) (l := List.range n)
   rw [List.length_range] at *
   omega
  rw [List.countP_eq_length] at e
  intro j hj
  exact of_decide_eq_true (e j (List.mem_range.2 hj))
end Go.Proofs.Ytkifmfmenobhnaa
set_option linter.unusedVariables false
set_option linter.unusedSimpArgs false
namespace Go.Proofs.Ytkifmfmenobhnaa
open Go.RowKit Ev
theorem coE_0 {cs : List ByteArray} {ls : List Lnk} {o : List Int} (h : coE cs ls o = 0) : coH cs o = 0 ∧ o.getD 0 0 = 0 ∧ ∀ k, k < ls.length → coF ls o k = 0 := by
 unfold coE at h
 by_cases c : coH cs o = 0
 ·rw [if_neg (by rw [c]; simp)] at h
  by_cases d : o.getD 0 0 = 0
  ·rw [if_neg (by rw [d]; simp)] at h
   exact ⟨c, d, scan_zero h⟩
  ·rw [if_pos d] at h; cases h
 ·rw [if_pos c] at h; exact absurd h c
theorem coE_all {cs : List ByteArray} {ls : List Lnk} {o : List Int} (h1 : o.length = cs.length) (h2 : ∀ i, i < cs.length → -8000000000 ≤ o.getD i 0 ∧ o.getD i 0 ≤ 8000000000) (h3 : o.getD 0 0 = 0) (h4 : ∀ k, k < ls.length → coF ls o k = 0) : coE cs ls o = 0 ∧ coI cs ls o = 0 := by
 have c : coH cs o = 0 := by
  unfold coH
  rw [firstNZ_zero]
  intro x hx
  simp only [List.mem_cons, List.not_mem_nil, or_false] at hx
  rcases hx with rfl | rfl
  ·rw [unl_0 (by decide)]; simp [h1]
  ·rw [unl_0 (by decide), List.all_eq_true]
   intro x hx
   obtain ⟨i, hi, e⟩ := List.getElem_of_mem hx
   have := h2 i (by omega)
   rw [show o.getD i 0 = x by simp [List.getD, hi, e]] at this
   exact inB_true.2 this
 constructor
 ·unfold coE; rw [if_neg (by rw [c]; simp), if_neg (by rw [h3]; simp), scan_end h4]
 ·unfold coI; rw [if_neg (by rw [c]; simp), if_neg (by rw [h3]; simp), scanI_end h4]
theorem of_rg {ls : List Lnk} {n i : Nat} (hi : i < n) : rgAt (ofK ls n n) i = ⟨-bdF ls n i 0, bdF ls n 0 i⟩ := by simp [rgAt, ofK, List.getD, hi]
theorem ends_at {V : List Rg} {f : Rg → Int} {i : Nat} (hi : i < V.length) : (V.map f).getD i 0 = f (rgAt V i) := by simp [rgAt, List.getD, hi]
theorem of_cases (cs : List ByteArray) (ls : List Lnk) (o : List Int) (hz : ntE cs ls = 0) :
  (ofE cs ls = 13 ∧ cnE cs ls = 0 ∧ (ckE cs ls o != 0) = true) ∨ (ofE cs ls = 21 ∧ cnE cs ls = 12) ∨
  (ofE cs ls = 0 ∧ cnE cs ls = 12 ∧ (ofV cs ls).length = cs.length ∧ 0 < cs.length ∧ (rgAt (ofV cs ls) 0).lo = 0 ∧ (rgAt (ofV cs ls) 0).hi = 0 ∧ (ckE cs ls o = 0 → o.length = cs.length ∧ ∀ i, i < cs.length → inB (o.getD i 0) (rgAt (ofV cs ls) i).lo (rgAt (ofV cs ls) i).hi = true) ∧ (ckE cs ls ((ofV cs ls).map Rg.lo) = 0 ∧ ckI cs ls ((ofV cs ls).map Rg.lo) = 0) ∧ ckE cs ls ((ofV cs ls).map Rg.hi) = 0 ∧ ckI cs ls ((ofV cs ls).map Rg.hi) = 0) := by
 have ef : far = 1152921504606846976 := rfl
 have z := ntE_bd hz
 obtain ⟨⟨z1, z2⟩, z3, hok⟩ := z
 rw [Int.toNat_natCast] at hok
 have hn : cs.length ≤ 6 := by omega
 have h0 : 0 < cs.length := by omega
 have ne : ¬ (ntE cs ls ≠ 0) := fun c => c hz
 have ck : ∀ o, ckE cs ls o = coE cs ls o := fun o => if_neg ne
 have ci : ∀ o, ckI cs ls o = coI cs ls o := fun o => if_neg ne
 have hcn : cnE cs ls = if (cnG ls cs.length).2 = true then 0 else 12 := if_neg ne
 rw [cnG_eq hn hok] at hcn
 cases hB : bdB ls cs.length with
 | false =>
  left
  rw [hB] at hcn
  refine ⟨by unfold ofE; rw [if_neg ne, if_neg (by rw [hB]; simp)], hcn, ?_⟩
  rw [ck, bne_iff_ne]
  intro h
  have k := (coE_0 h).2.2
  have : bdB ls cs.length = true := bdB_true.2 fun i hi => by
   by_cases c : bdF ls cs.length i i < far
   ·have := keeps_bd hn hok k hi hi c
    omega
   ·omega
  rw [hB] at this; cases this
 | true =>
  rw [hB] at hcn
  right
  cases hS : ofS cs ls with
  | true => left; exact ⟨by unfold ofE; rw [if_neg ne, if_pos hB, if_pos hS], hcn⟩
  | false =>
   right
   have e0 : ofE cs ls = 0 := by unfold ofE; rw [if_neg ne, if_pos hB, if_neg (by rw [hS]; simp)]
   have eV : ofV cs ls = ofK ls cs.length cs.length := if_pos e0
   have fin : ∀ i, i < cs.length → bdF ls cs.length 0 i < far ∧ bdF ls cs.length i 0 < far := fun i hi => by
    have q : opnB ls cs.length i = false := by
     cases c : opnB ls cs.length i
     ·rfl
     ·have : ofS cs ls = true := List.any_eq_true.2 ⟨i, List.mem_range.2 hi, c⟩
      rw [hS] at this; cases this
    unfold opnB at q
    simp only [Bool.or_eq_false_iff, beq_eq_false_iff_ne] at q
    have b1 := (bdF_rg (n := cs.length) ⟨⟨z1, z2⟩, z3, by rw [Int.toNat_natCast]; exact hok⟩ 0 i).2
    have b2 := (bdF_rg (n := cs.length) ⟨⟨z1, z2⟩, z3, by rw [Int.toNat_natCast]; exact hok⟩ i 0).2
    omega
   have d0 := bd_diag hn hok hB h0
   have tri := fun {i k j : Nat} => bd_tri (i := i) (k := k) (j := j) hn hok hB
   have side : ∀ C : Nat → Bool, C 0 = true → (∀ k, k < ls.length → C (lnkAt ls k).frm.toNat = C (lnkAt ls k).to.toNat) → ∀ j, j < cs.length → C j = true := fun C c0 hC j hj => by
    rw [← bd_side hn hok C hC h0 hj (fin j hj).1]; exact c0
   have up : ∀ j, j < cs.length → bdF ls cs.length 0 j ≤ 5 * 1000000000 := five hn h0 ls hok (fun j => bdF ls cs.length 0 j) 1000000000 (by decide) (by omega) (fun k hk => by
    obtain ⟨o1, o2, o3, o4, o5, o6⟩ := hok k hk
    obtain ⟨⟨l1, l2⟩, l3, l4⟩ := bd_link hn hok hk
    have t1 := (tri h0 (show (lnkAt ls k).frm.toNat < cs.length by omega) (show (lnkAt ls k).to.toNat < cs.length by omega) (fin _ (by omega)).1 l1).2
    have t2 := (tri h0 (show (lnkAt ls k).to.toNat < cs.length by omega) (show (lnkAt ls k).frm.toNat < cs.length by omega) (fin _ (by omega)).1 l3).2
    omega) side
   have dn : ∀ j, j < cs.length → bdF ls cs.length j 0 ≤ 5 * 1000000000 := five hn h0 ls hok (fun j => bdF ls cs.length j 0) 1000000000 (by decide) (by omega) (fun k hk => by
    obtain ⟨o1, o2, o3, o4, o5, o6⟩ := hok k hk
    obtain ⟨⟨l1, l2⟩, l3, l4⟩ := bd_link hn hok hk
    have t1 := (tri (show (lnkAt ls k).frm.toNat < cs.length by omega) (show (lnkAt ls k).to.toNat < cs.length by omega) h0 l1 (fin _ (by omega)).2).2
    have t2 := (tri (show (lnkAt ls k).to.toNat < cs.length by omega) (show (lnkAt ls k).frm.toNat < cs.length by omega) h0 l3 (fin _ (by omega)).2).2
    omega) side
   have sm : ∀ j, j < cs.length → 0 ≤ bdF ls cs.length 0 j + bdF ls cs.length j 0 := fun j hj => by
    have := (tri h0 hj h0 (fin j hj).1 (fin j hj).2).2
    omega
   have hl : (ofV cs ls).length = cs.length := by rw [eV]; simp [ofK]
   have at_ : ∀ i, i < cs.length → rgAt (ofV cs ls) i = ⟨-bdF ls cs.length i 0, bdF ls cs.length 0 i⟩ := fun i hi => by rw [eV]; exact of_rg hi
   have lo : ∀ i, i < cs.length → ((ofV cs ls).map Rg.lo).getD i 0 = -bdF ls cs.length i 0 := fun i hi => by rw [ends_at (by omega), at_ i hi]
   have hi_ : ∀ i, i < cs.length → ((ofV cs ls).map Rg.hi).getD i 0 = bdF ls cs.length 0 i := fun i hi => by rw [ends_at (by omega), at_ i hi]
   have A := coE_all (cs := cs) (ls := ls) (o := (ofV cs ls).map Rg.lo) (by simpa using hl) (fun i hi => by have := up i hi; have := dn i hi; have := sm i hi; rw [lo i hi]; omega) (by rw [lo 0 h0]; omega) (fun k hk => by
    obtain ⟨o1, o2, o3, o4, o5, o6⟩ := hok k hk
    obtain ⟨⟨l1, l2⟩, l3, l4⟩ := bd_link hn hok hk
    have t1 := (tri (show (lnkAt ls k).frm.toNat < cs.length by omega) (show (lnkAt ls k).to.toNat < cs.length by omega) h0 l1 (fin _ (by omega)).2).2
    have t2 := (tri (show (lnkAt ls k).to.toNat < cs.length by omega) (show (lnkAt ls k).frm.toNat < cs.length by omega) h0 l3 (fin _ (by omega)).2).2
    refine in_co ?_
    rw [lo _ (by omega), lo _ (by omega)]
    omega)
   have B := coE_all (cs := cs) (ls := ls) (o := (ofV cs ls).map Rg.hi) (by simpa using hl) (fun i hi => by have := up i hi; have := dn i hi; have := sm i hi; rw [hi_ i hi]; omega) (by rw [hi_ 0 h0]; omega) (fun k hk => by
    obtain ⟨o1, o2, o3, o4, o5, o6⟩ := hok k hk
    obtain ⟨⟨l1, l2⟩, l3, l4⟩ := bd_link hn hok hk
    have t1 := (tri h0 (show (lnkAt ls k).frm.toNat < cs.length by omega) (show (lnkAt ls k).to.toNat < cs.length by omega) (fin _ (by omega)).1 l1).2
    have t2 := (tri h0 (show (lnkAt ls k).to.toNat < cs.length by omega) (show (lnkAt ls k).frm.toNat < cs.length by omega) (fin _ (by omega)).1 l3).2
    refine in_co ?_
    rw [hi_ _ (by omega), hi_ _ (by omega)]
    omega)
   refine ⟨e0, hcn, hl, h0, by rw [at_ 0 h0]; simp only; omega, by rw [at_ 0 h0]; simp only; omega, fun h => ?_, by rw [ck, ci]; exact A, by rw [ck]; exact B.1, by rw [ci]; exact B.2⟩
   rw [ck] at h
   obtain ⟨k1, k2, k3⟩ := coE_0 h
   refine ⟨(coH_ok k1).1, fun i hi => ?_⟩
   have a := keeps_bd hn hok k3 h0 hi (fin i hi).1
   have b := keeps_bd hn hok k3 hi h0 (fin i hi).2
   rw [at_ i hi]
   exact inB_true.2 ⟨by simp only; omega, by simp only; omega⟩
end Go.Proofs.Ytkifmfmenobhnaa
set_option linter.unusedVariables false
set_option linter.unusedSimpArgs false
namespace Go.Proofs.Ytkifmfmenobhnaa
open Go.RowKit Ev
theorem n00 : (((0 : Nat) : Int)) = 0 := rfl
theorem lt_v {α : Type} (v : α) (k : α → Prop) : lt v k = k v := by unfold lt; rfl
end Go.Proofs.Ytkifmfmenobhnaa
set_option linter.unusedVariables false
set_option linter.unusedSimpArgs false
namespace Go.Proofs.Ytkifmfmenobhnaa
open Go.RowKit Ev
theorem q2a : ((2 : Int) == 0) = false := rfl
theorem q2b : ((2 : Int) != 0) = true := rfl
theorem q12a : ((12 : Int) == 0) = false := rfl
theorem q12b : ((12 : Int) != 0) = true := rfl
theorem q13a : ((13 : Int) == 0) = false := rfl
theorem q13b : ((13 : Int) != 0) = true := rfl
end Go.Proofs.Ytkifmfmenobhnaa
set_option linter.unusedVariables false
set_option linter.unusedSimpArgs false
namespace Go.Proofs.Ytkifmfmenobhnaa
open Go.RowKit Ev
theorem wr00 : IntKind.i64.wrap (0 + 0) = 0 := rfl
end Go.Proofs.Ytkifmfmenobhnaa
set_option linter.unusedVariables false
set_option linter.unusedSimpArgs false
namespace Go.Proofs.Ytkifmfmenobhnaa
open Go.RowKit Ev
end Go.Proofs.Ytkifmfmenobhnaa
set_option linter.unusedVariables false
set_option linter.unusedSimpArgs false
namespace Go.Proofs.Ytkifmfmenobhnaa
open Go.RowKit Ev
theorem nums_ints (l : List Int) : numsC .i64 l = intsC l := rfl
end Go.Proofs.Ytkifmfmenobhnaa
set_option linter.unusedVariables false
set_option linter.unusedSimpArgs false
namespace Go.Proofs.Ytkifmfmenobhnaa
open Go.RowKit Ev
end Go.Proofs.Ytkifmfmenobhnaa
set_option linter.unusedVariables false
set_option linter.unusedSimpArgs false
namespace Go.Proofs.Ytkifmfmenobhnaa
open Go.RowKit Ev
def free (c : Cab) (l : List Png) : Prop := trOk c l ∧ (∀ i, i < l.length → canB c (pngAt l i) = true) ∧ ∀ i k, i < k → k < l.length → apB c (pngAt l i) (pngAt l k) = false
end Go.Proofs.Ytkifmfmenobhnaa
set_option linter.unusedVariables false
set_option linter.unusedSimpArgs false
namespace Go.Proofs.Ytkifmfmenobhnaa
open Go.RowKit Ev
end Go.Proofs.Ytkifmfmenobhnaa
set_option linter.unusedVariables false
set_option linter.unusedSimpArgs false
namespace Go.Proofs.Ytkifmfmenobhnaa
open Go.RowKit Ev
theorem fwL_ok {cs : List ByteArray} {ls : List Lnk} (h : fwL cs ls = true) : cs.length ≤ 8 ∧ ls.length ≤ 14 ∧ ∀ k, k < cs.length → (txAt cs k).size ≤ 20 := by
 unfold fwL at h
 rw [Bool.and_eq_true, Bool.and_eq_true] at h
 have h1 := of_decide_eq_true h.1
 have h2 := of_decide_eq_true h.2.1
 exact ⟨by omega, by omega, fun k hk => of_decide_eq_true (List.all_eq_true.1 h.2.2 _ (txAt_in hk))⟩
end Go.Proofs.Ytkifmfmenobhnaa
set_option linter.unusedVariables false
set_option linter.unusedSimpArgs false
namespace Go.Proofs.Ytkifmfmenobhnaa
open Go.RowKit Ev
theorem t21_13 : ((21 : Int) == 13) = false := rfl
theorem t21_0 : ((21 : Int) != 0) = true := rfl
theorem t0_13 : ((0 : Int) == 13) = false := rfl
theorem t12_0 : ((12 : Int) == 0) = false := rfl
theorem t0_0 : ((0 : Int) != 0) = false := rfl
def mk_law01_ClockOffsets_0 (cs : List ByteArray) (ls : List Lnk) (o : List Int) (v0_0 : List Int) (v0_1 : List Int) (v0_2 : Int) : DS := ⟨[none, some (.t (.c (.sl 1 o.length (intsC o)))), some (.t (.c (.p 2 0))), none, none, some (.t (.c (.sl 2 ((ofV (txOf ((txOf cs.length (txsC cs)).length) (txsC (txOf cs.length (txsC cs)))) (listC ((listC ls.length mkLnk (lnksC ls)).length) mkLnk (lnksC (listC ls.length mkLnk (lnksC ls))))).length) (rgsC (ofV (txOf ((txOf cs.length (txsC cs)).length) (txsC (txOf cs.length (txsC cs)))) (listC ((listC ls.length mkLnk (lnksC ls)).length) mkLnk (lnksC (listC ls.length mkLnk (lnksC ls))))))))), none, none, some (.t (.c (.v (.int .i64 (ckE (txOf ((txOf cs.length (txsC cs)).length) (txsC (txOf cs.length (txsC cs)))) (listC ((listC ls.length mkLnk (lnksC ls)).length) mkLnk (lnksC (listC ls.length mkLnk (lnksC ls)))) (listC ((listC o.length mkInt (intsC o)).length) mkInt (intsC (listC o.length mkInt (intsC o))))))))), none, none, some (.t (.c (.os 11))), some (.t (.c (.os 12))), some (.t (.c (.v (.int .i64 v0_2)))), none, none, none, none, none, none, none, none, none, none, none, none, none, none, none, none, none, none, none, none, none, none, none, none, none, none, none, none, none, none, none, none, none, none, none, none, none, none, none, none, none, none, none, none, none, none, none, none, none, none, none, none, none, none, none, none, none, none, none, none, none, none, none, none, none, none, none, none, none, none, none, none, none, none, none, none, none, none, none, none, none, none, none, none, none, none, none, none, none, none, none, none, none, none, none, none, none, none, none, none, none, none, none, none, none, none, none, none, none, none, none, none, none, none, none, none, none, none, none, none, none, none, none, none, none, none, none, none, none, none, none, none, none, none, none, none], [none, none, some (.box 55 [.sl 1 cs.length (txsC cs), .sl 4 ls.length (lnksC ls)]), none, none, none, none, none, none, none, none, some (.num 3 .i64 v0_0), some (.num 3 .i64 v0_1), none, none, none, none, none, none, none, none, none, none, none, none, none, none, none, none, none, none, none, none, none, none, none, none, none, none, none, none, none, none, none, none, none, none, none, none, none, none, none, none, none, none, none, none, none, none, none, none, none, none, none, none, none, none, none, none, none, none, none, none, none, none, none, none, none, none, none, none, none, none, none, none, none, none, none, none, none, none, none, none, none, none, none, none, none, none, none, none, none, none, none, none, none, none, none, none, none, none, none, none, none, none, none, none, none, none, none, none, none, none, none, none, none, none, none, none, none, none, none, none, none, none, none, none, none, none, none, none, none, none, none, none, none, none, none, none, none]⟩
def vc_law01_ClockOffsets (J : Inv) (cs : List ByteArray) (ls : List Lnk) (o : List Int) (post : DV → Prop) : Prop := (txP cs.length (txsC cs) ∧ numsP 4 ls.length (lnksC ls)) ∧ ((cond (!(fwL (txOf cs.length (txsC cs)) (listC ls.length mkLnk (lnksC ls)))) ((true = true) ∧ ((true = true) ∧ (True))) ((txP cs.length (txsC cs) ∧ numsP 4 ls.length (lnksC ls) ∧ (∀ k, k < ((txOf cs.length (txsC cs))).length → (txAt (txOf cs.length (txsC cs)) k).size ≤ 1000000)) ∧ (cond ((ntE (txOf cs.length (txsC cs)) (listC ls.length mkLnk (lnksC ls))) != (0 : Int)) ((true = true) ∧ (True)) (True)))) ∧ (lt ((bif (!(fwL (txOf cs.length (txsC cs)) (listC ls.length mkLnk (lnksC ls)))) then true else (bif ((ntE (txOf cs.length (txsC cs)) (listC ls.length mkLnk (lnksC ls))) != (0 : Int)) then true else decide (((o.length : Nat) : Int) > (10 : Int))))) fun x1 => cond x1 (post (.t (.c (.v (.bool true))))) ((txP cs.length (txsC cs) ∧ numsP 4 ls.length (lnksC ls) ∧ ((txOf cs.length (txsC cs))).length ≤ 1000 ∧ ((listC ls.length mkLnk (lnksC ls))).length ≤ 1000) ∧ ((txP ((txOf cs.length (txsC cs)).length) (txsC (txOf cs.length (txsC cs))) ∧ numsP 4 ((listC ls.length mkLnk (lnksC ls)).length) (lnksC (listC ls.length mkLnk (lnksC ls))) ∧ (∀ k, k < ((txOf ((txOf cs.length (txsC cs)).length) (txsC (txOf cs.length (txsC cs))))).length → (txAt (txOf ((txOf cs.length (txsC cs)).length) (txsC (txOf cs.length (txsC cs)))) k).size ≤ 1000000)) ∧ ((txP cs.length (txsC cs) ∧ numsP 4 ls.length (lnksC ls) ∧ ((txOf cs.length (txsC cs))).length ≤ 1000 ∧ ((listC ls.length mkLnk (lnksC ls))).length ≤ 1000) ∧ ((numsP 1 o.length (intsC o) ∧ ((listC o.length mkInt (intsC o))).length ≤ 1000) ∧ ((txP ((txOf cs.length (txsC cs)).length) (txsC (txOf cs.length (txsC cs))) ∧ numsP 4 ((listC ls.length mkLnk (lnksC ls)).length) (lnksC (listC ls.length mkLnk (lnksC ls))) ∧ numsP 1 ((listC o.length mkInt (intsC o)).length) (intsC (listC o.length mkInt (intsC o))) ∧ (∀ k, k < ((txOf ((txOf cs.length (txsC cs)).length) (txsC (txOf cs.length (txsC cs))))).length → (txAt (txOf ((txOf cs.length (txsC cs)).length) (txsC (txOf cs.length (txsC cs)))) k).size ≤ 1000000) ∧ ((listC ((listC o.length mkInt (intsC o)).length) mkInt (intsC (listC o.length mkInt (intsC o))))).length ≤ 1000000) ∧ ((txP cs.length (txsC cs) ∧ numsP 4 ls.length (lnksC ls) ∧ ((txOf cs.length (txsC cs))).length ≤ 1000 ∧ ((listC ls.length mkLnk (lnksC ls))).length ≤ 1000) ∧ ((txP ((txOf cs.length (txsC cs)).length) (txsC (txOf cs.length (txsC cs))) ∧ numsP 4 ((listC ls.length mkLnk (lnksC ls)).length) (lnksC (listC ls.length mkLnk (lnksC ls))) ∧ (∀ k, k < ((txOf ((txOf cs.length (txsC cs)).length) (txsC (txOf cs.length (txsC cs))))).length → (txAt (txOf ((txOf cs.length (txsC cs)).length) (txsC (txOf cs.length (txsC cs)))) k).size ≤ 1000000)) ∧ (cond ((ofE (txOf ((txOf cs.length (txsC cs)).length) (txsC (txOf cs.length (txsC cs)))) (listC ((listC ls.length mkLnk (lnksC ls)).length) mkLnk (lnksC (listC ls.length mkLnk (lnksC ls))))) == (13 : Int)) ((cond ((ckE (txOf ((txOf cs.length (txsC cs)).length) (txsC (txOf cs.length (txsC cs)))) (listC ((listC ls.length mkLnk (lnksC ls)).length) mkLnk (lnksC (listC ls.length mkLnk (lnksC ls)))) (listC ((listC o.length mkInt (intsC o)).length) mkInt (intsC (listC o.length mkInt (intsC o))))) != (0 : Int)) (True) ((false = false) ∧ (True))) ∧ (lt ((bif ((ckE (txOf ((txOf cs.length (txsC cs)).length) (txsC (txOf cs.length (txsC cs)))) (listC ((listC ls.length mkLnk (lnksC ls)).length) mkLnk (lnksC (listC ls.length mkLnk (lnksC ls)))) (listC ((listC o.length mkInt (intsC o)).length) mkInt (intsC (listC o.length mkInt (intsC o))))) != (0 : Int)) then ((cnE (txOf ((txOf cs.length (txsC cs)).length) (txsC (txOf cs.length (txsC cs)))) (listC ((listC ls.length mkLnk (lnksC ls)).length) mkLnk (lnksC (listC ls.length mkLnk (lnksC ls))))) == (0 : Int)) else false)) fun x2 => post (.t (.c (.v (.bool x2)))))) (cond ((cnE (txOf ((txOf cs.length (txsC cs)).length) (txsC (txOf cs.length (txsC cs)))) (listC ((listC ls.length mkLnk (lnksC ls)).length) mkLnk (lnksC (listC ls.length mkLnk (lnksC ls))))) != (12 : Int)) (post (.t (.c (.v (.bool false))))) (cond ((ofE (txOf ((txOf cs.length (txsC cs)).length) (txsC (txOf cs.length (txsC cs)))) (listC ((listC ls.length mkLnk (lnksC ls)).length) mkLnk (lnksC (listC ls.length mkLnk (lnksC ls))))) != (0 : Int)) (post (.t (.c (.v (.bool ((ofE (txOf ((txOf cs.length (txsC cs)).length) (txsC (txOf cs.length (txsC cs)))) (listC ((listC ls.length mkLnk (lnksC ls)).length) mkLnk (lnksC (listC ls.length mkLnk (lnksC ls))))) == (21 : Int))))))) ((cond ((((ofV (txOf ((txOf cs.length (txsC cs)).length) (txsC (txOf cs.length (txsC cs)))) (listC ((listC ls.length mkLnk (lnksC ls)).length) mkLnk (lnksC (listC ls.length mkLnk (lnksC ls))))).length : Nat) : Int) != ((cs.length : Nat) : Int)) ((true = true) ∧ (True)) ((0 ≤ (0 : Int) ∧ (0 : Int) < (((ofV (txOf ((txOf cs.length (txsC cs)).length) (txsC (txOf cs.length (txsC cs)))) (listC ((listC ls.length mkLnk (lnksC ls)).length) mkLnk (lnksC (listC ls.length mkLnk (lnksC ls))))).length : Nat) : Int)) ∧ (True))) ∧ (lt ((bif ((((ofV (txOf ((txOf cs.length (txsC cs)).length) (txsC (txOf cs.length (txsC cs)))) (listC ((listC ls.length mkLnk (lnksC ls)).length) mkLnk (lnksC (listC ls.length mkLnk (lnksC ls))))).length : Nat) : Int) != ((cs.length : Nat) : Int)) then true else (!(bif (((rgAt (ofV (txOf ((txOf cs.length (txsC cs)).length) (txsC (txOf cs.length (txsC cs)))) (listC ((listC ls.length mkLnk (lnksC ls)).length) mkLnk (lnksC (listC ls.length mkLnk (lnksC ls))))) 0).lo) == (0 : Int)) then (bif (((rgAt (ofV (txOf ((txOf cs.length (txsC cs)).length) (txsC (txOf cs.length (txsC cs)))) (listC ((listC ls.length mkLnk (lnksC ls)).length) mkLnk (lnksC (listC ls.length mkLnk (lnksC ls))))) 0).hi) == (0 : Int)) then true else false) else false)))) fun x3 => cond x3 (post (.t (.c (.v (.bool false))))) (∃ n, J 0 (n :: []) (mk_law01_ClockOffsets_0 cs ls o ([]) ([]) 0))))))))))))))))
def ann_law01_ClockOffsets : Ann := ⟨fun r => lookA r [(20, ([[], [0], [0, 1], [0, 1, 2], [0, 1, 2], [0, 1, 2, 3, 4], [0, 1, 2, 3, 4, 5], [0, 1, 2], [0, 1, 2], [0, 1, 2, 7, 8], [0, 1, 2, 7, 8, 9], [0, 1, 2, 7, 8, 9, 10], [0, 1, 2], [0, 1, 2], [0, 1, 2, 12, 13], [0, 1, 2, 12, 13, 14], [0, 1, 2, 12, 13, 14, 15], [0, 1, 2, 3, 4, 5, 6, 7, 8, 9, 10, 11, 12, 13, 14, 15, 16], [0, 1, 2, 3, 4, 5, 6, 7, 8, 9, 10, 11, 12, 13, 14, 15, 16, 17], [0, 1, 2, 3, 4, 5, 6, 7, 8, 9, 10, 11, 12, 13, 14, 15, 16, 17, 18]], [[103], [103], [103], [103], [103], [103], [103], [103], [103], [103], [103], [103], [103], [103], [103], [103], [103], [], [], []])), (22, ([[], [], [], [1, 2], [1, 2, 3], [1, 2, 3, 4], [1, 2, 3, 4, 5], [0, 1, 2, 3, 4, 5, 6], [], [], [], [9, 10], [9, 10, 11], [9, 10, 11, 12], [9, 10, 11, 12, 13], [0, 1, 2, 3, 4, 5, 6, 7, 8, 9, 10, 11, 12, 13, 14], [0, 1, 2, 3, 4, 5, 6, 7, 8, 9, 10, 11, 12, 13, 14, 15], [0, 1, 2, 3, 4, 5, 6, 7, 8, 9, 10, 11, 12, 13, 14, 15, 16]], [[112, 120], [112, 120], [112, 120], [112, 120], [112, 120], [112, 120], [120], [9999, 11, 112, 113], [112, 120], [112, 120], [112, 120], [11, 112, 113, 120], [112, 120], [11, 112, 113, 120], [11, 112, 113], [], [], []]))], fun b => lookA b [(0, (none, some ⟨[1, 2, 5, 8, 13], [2], [(11, .num 3 .i64 ([])), (12, .num 3 .i64 ([]))]⟩))], fun _ => [], I1, false, fun r => lookA r [(3, (4, [32])), (9, (3, [4])), (14, (7, [79])), (20, (3, [105])), (25, (3, [4]))], fun _ => none⟩
theorem ev_law01_ClockOffsets (J : Inv) (cs : List ByteArray) (ls : List Lnk) (o : List Int) (post : DV → Prop) : evFn Try.prog tab Sf4113 ann_law01_ClockOffsets J Try.f11 [.t (.a [.sl 1 cs.length (txsC cs), .sl 4 ls.length (lnksC ls)]), .t (.c (.sl 1 o.length (intsC o)))] post = vc_law01_ClockOffsets J cs ls o post := by kernel_rfl
theorem fit_law01_ClockOffsets : okFn ann_law01_ClockOffsets Try.f11 = true := by kernel_rfl
def rd_law01_ClockOffsets_0 (J : Inv) (cs : List ByteArray) (ls : List Lnk) (o : List Int) (v0_0 : List Int) (v0_1 : List Int) (v0_2 : Int) (nn0 : Nat) (post : DV → Prop) : Prop := cond (decide (v0_2 < (((ofV (txOf ((txOf cs.length (txsC cs)).length) (txsC (txOf cs.length (txsC cs)))) (listC ((listC ls.length mkLnk (lnksC ls)).length) mkLnk (lnksC (listC ls.length mkLnk (lnksC ls))))).length : Nat) : Int))) ((cond ((ckE (txOf ((txOf cs.length (txsC cs)).length) (txsC (txOf cs.length (txsC cs)))) (listC ((listC ls.length mkLnk (lnksC ls)).length) mkLnk (lnksC (listC ls.length mkLnk (lnksC ls)))) (listC ((listC o.length mkInt (intsC o)).length) mkInt (intsC (listC o.length mkInt (intsC o))))) == (0 : Int)) ((0 ≤ v0_2 ∧ v0_2 < ((o.length : Nat) : Int)) ∧ ((0 ≤ v0_2 ∧ v0_2 < (((ofV (txOf ((txOf cs.length (txsC cs)).length) (txsC (txOf cs.length (txsC cs)))) (listC ((listC ls.length mkLnk (lnksC ls)).length) mkLnk (lnksC (listC ls.length mkLnk (lnksC ls))))).length : Nat) : Int)) ∧ ((0 ≤ v0_2 ∧ v0_2 < (((ofV (txOf ((txOf cs.length (txsC cs)).length) (txsC (txOf cs.length (txsC cs)))) (listC ((listC ls.length mkLnk (lnksC ls)).length) mkLnk (lnksC (listC ls.length mkLnk (lnksC ls))))).length : Nat) : Int)) ∧ (True)))) ((false = false) ∧ (True))) ∧ (lt ((bif ((ckE (txOf ((txOf cs.length (txsC cs)).length) (txsC (txOf cs.length (txsC cs)))) (listC ((listC ls.length mkLnk (lnksC ls)).length) mkLnk (lnksC (listC ls.length mkLnk (lnksC ls)))) (listC ((listC o.length mkInt (intsC o)).length) mkInt (intsC (listC o.length mkInt (intsC o))))) == (0 : Int)) then (!(inB (o.getD v0_2.toNat 0) ((rgAt (ofV (txOf ((txOf cs.length (txsC cs)).length) (txsC (txOf cs.length (txsC cs)))) (listC ((listC ls.length mkLnk (lnksC ls)).length) mkLnk (lnksC (listC ls.length mkLnk (lnksC ls))))) v0_2.toNat).lo) ((rgAt (ofV (txOf ((txOf cs.length (txsC cs)).length) (txsC (txOf cs.length (txsC cs)))) (listC ((listC ls.length mkLnk (lnksC ls)).length) mkLnk (lnksC (listC ls.length mkLnk (lnksC ls))))) v0_2.toNat).hi))) else false)) fun x1 => cond x1 (post (.t (.c (.v (.bool false))))) ((0 ≤ v0_2 ∧ v0_2 < (((ofV (txOf ((txOf cs.length (txsC cs)).length) (txsC (txOf cs.length (txsC cs)))) (listC ((listC ls.length mkLnk (lnksC ls)).length) mkLnk (lnksC (listC ls.length mkLnk (lnksC ls))))).length : Nat) : Int)) ∧ (((IntKind.i64 = IntKind.i64 ∧ True) ∧ roomP 8 (v0_0.length + ([(rgAt (ofV (txOf ((txOf cs.length (txsC cs)).length) (txsC (txOf cs.length (txsC cs)))) (listC ((listC ls.length mkLnk (lnksC ls)).length) mkLnk (lnksC (listC ls.length mkLnk (lnksC ls))))) v0_2.toNat).lo] : List Int).length)) ∧ ((0 ≤ v0_2 ∧ v0_2 < (((ofV (txOf ((txOf cs.length (txsC cs)).length) (txsC (txOf cs.length (txsC cs)))) (listC ((listC ls.length mkLnk (lnksC ls)).length) mkLnk (lnksC (listC ls.length mkLnk (lnksC ls))))).length : Nat) : Int)) ∧ (((IntKind.i64 = IntKind.i64 ∧ True) ∧ roomP 8 (v0_1.length + ([(rgAt (ofV (txOf ((txOf cs.length (txsC cs)).length) (txsC (txOf cs.length (txsC cs)))) (listC ((listC ls.length mkLnk (lnksC ls)).length) mkLnk (lnksC (listC ls.length mkLnk (lnksC ls))))) v0_2.toNat).hi] : List Int).length)) ∧ (lt (IntKind.i64.wrap (v0_2 + (1 : Int))) fun x2 => J 0 (nn0 :: []) (mk_law01_ClockOffsets_0 cs ls o (v0_0 ++ ([(rgAt (ofV (txOf ((txOf cs.length (txsC cs)).length) (txsC (txOf cs.length (txsC cs)))) (listC ((listC ls.length mkLnk (lnksC ls)).length) mkLnk (lnksC (listC ls.length mkLnk (lnksC ls))))) v0_2.toNat).lo])) (v0_1 ++ ([(rgAt (ofV (txOf ((txOf cs.length (txsC cs)).length) (txsC (txOf cs.length (txsC cs)))) (listC ((listC ls.length mkLnk (lnksC ls)).length) mkLnk (lnksC (listC ls.length mkLnk (lnksC ls))))) v0_2.toNat).hi])) x2)))))))) ((txP cs.length (txsC cs) ∧ numsP 4 ls.length (lnksC ls) ∧ ((txOf cs.length (txsC cs))).length ≤ 1000 ∧ ((listC ls.length mkLnk (lnksC ls))).length ≤ 1000) ∧ ((txP ((txOf cs.length (txsC cs)).length) (txsC (txOf cs.length (txsC cs))) ∧ numsP 4 ((listC ls.length mkLnk (lnksC ls)).length) (lnksC (listC ls.length mkLnk (lnksC ls))) ∧ numsP 1 v0_0.length (numsC .i64 v0_0) ∧ (∀ k, k < ((txOf ((txOf cs.length (txsC cs)).length) (txsC (txOf cs.length (txsC cs))))).length → (txAt (txOf ((txOf cs.length (txsC cs)).length) (txsC (txOf cs.length (txsC cs)))) k).size ≤ 1000000) ∧ ((listC v0_0.length mkInt (numsC .i64 v0_0))).length ≤ 1000000) ∧ ((txP cs.length (txsC cs) ∧ numsP 4 ls.length (lnksC ls) ∧ ((txOf cs.length (txsC cs))).length ≤ 1000 ∧ ((listC ls.length mkLnk (lnksC ls))).length ≤ 1000) ∧ ((txP ((txOf cs.length (txsC cs)).length) (txsC (txOf cs.length (txsC cs))) ∧ numsP 4 ((listC ls.length mkLnk (lnksC ls)).length) (lnksC (listC ls.length mkLnk (lnksC ls))) ∧ numsP 1 v0_1.length (numsC .i64 v0_1) ∧ (∀ k, k < ((txOf ((txOf cs.length (txsC cs)).length) (txsC (txOf cs.length (txsC cs))))).length → (txAt (txOf ((txOf cs.length (txsC cs)).length) (txsC (txOf cs.length (txsC cs)))) k).size ≤ 1000000) ∧ ((listC v0_1.length mkInt (numsC .i64 v0_1))).length ≤ 1000000) ∧ ((cond ((ckE (txOf ((txOf cs.length (txsC cs)).length) (txsC (txOf cs.length (txsC cs)))) (listC ((listC ls.length mkLnk (lnksC ls)).length) mkLnk (lnksC (listC ls.length mkLnk (lnksC ls)))) (listC v0_0.length mkInt (numsC .i64 v0_0))) == (0 : Int)) (cond ((ckI (txOf ((txOf cs.length (txsC cs)).length) (txsC (txOf cs.length (txsC cs)))) (listC ((listC ls.length mkLnk (lnksC ls)).length) mkLnk (lnksC (listC ls.length mkLnk (lnksC ls)))) (listC v0_0.length mkInt (numsC .i64 v0_0))) == (0 : Int)) (cond ((ckE (txOf ((txOf cs.length (txsC cs)).length) (txsC (txOf cs.length (txsC cs)))) (listC ((listC ls.length mkLnk (lnksC ls)).length) mkLnk (lnksC (listC ls.length mkLnk (lnksC ls)))) (listC v0_1.length mkInt (numsC .i64 v0_1))) == (0 : Int)) (True) ((false = false) ∧ (True))) ((false = false) ∧ ((false = false) ∧ (True)))) ((false = false) ∧ ((false = false) ∧ ((false = false) ∧ (True))))) ∧ (lt ((bif ((ckE (txOf ((txOf cs.length (txsC cs)).length) (txsC (txOf cs.length (txsC cs)))) (listC ((listC ls.length mkLnk (lnksC ls)).length) mkLnk (lnksC (listC ls.length mkLnk (lnksC ls)))) (listC v0_0.length mkInt (numsC .i64 v0_0))) == (0 : Int)) then (bif ((ckI (txOf ((txOf cs.length (txsC cs)).length) (txsC (txOf cs.length (txsC cs)))) (listC ((listC ls.length mkLnk (lnksC ls)).length) mkLnk (lnksC (listC ls.length mkLnk (lnksC ls)))) (listC v0_0.length mkInt (numsC .i64 v0_0))) == (0 : Int)) then (bif ((ckE (txOf ((txOf cs.length (txsC cs)).length) (txsC (txOf cs.length (txsC cs)))) (listC ((listC ls.length mkLnk (lnksC ls)).length) mkLnk (lnksC (listC ls.length mkLnk (lnksC ls)))) (listC v0_1.length mkInt (numsC .i64 v0_1))) == (0 : Int)) then ((ckI (txOf ((txOf cs.length (txsC cs)).length) (txsC (txOf cs.length (txsC cs)))) (listC ((listC ls.length mkLnk (lnksC ls)).length) mkLnk (lnksC (listC ls.length mkLnk (lnksC ls)))) (listC v0_1.length mkInt (numsC .i64 v0_1))) == (0 : Int)) else false) else false) else false)) fun x3 => post (.t (.c (.v (.bool x3))))))))))
theorem er_law01_ClockOffsets_0 (J : Inv) (cs : List ByteArray) (ls : List Lnk) (o : List Int) (v0_0 : List Int) (v0_1 : List Int) (v0_2 : Int) (nn0 : Nat) (post : DV → Prop) : round Try.prog tab Sf4113 ann_law01_ClockOffsets J Try.f11 post 0 (nn0 :: []) (mk_law01_ClockOffsets_0 cs ls o v0_0 v0_1 v0_2) = rd_law01_ClockOffsets_0 J cs ls o v0_0 v0_1 v0_2 nn0 post := by kernel_rfl
theorem lp_law01_ClockOffsets (J : Inv) (post : DV → Prop) : AllG J (loopsFn Try.prog tab Sf4113 ann_law01_ClockOffsets J Try.f11 post) = (((∀ F s, ¬ J 0 (0 :: F) s) ∧ ∀ n F s, J 0 ((n + 1) :: F) s → round Try.prog tab Sf4113 ann_law01_ClockOffsets J Try.f11 post 0 (n :: F) s) ∧ True) := by kernel_rfl
def J_law01_ClockOffsets (cs : List ByteArray) (ls : List Lnk) (o : List Int) : Inv := fun b F s => match b, F with
 | 0, [nn0] => ∃ (v0_0 : List Int) (v0_1 : List Int) (v0_2 : Int), s = mk_law01_ClockOffsets_0 cs ls o v0_0 v0_1 v0_2 ∧ ((ofE cs ls = 0 ∧ ntE cs ls = 0 ∧ fwL cs ls = true ∧ o.length ≤ 10) ∧ 0 ≤ v0_2 ∧ v0_2 ≤ (ofV cs ls).length ∧ (nn0 : Int) + v0_2 = (ofV cs ls).length + 1 ∧ v0_0 = ((ofV cs ls).take v0_2.toNat).map Rg.lo ∧ v0_1 = ((ofV cs ls).take v0_2.toNat).map Rg.hi)
 | _, _ => False
set_option maxHeartbeats 8000000 in
set_option maxRecDepth 100000 in
theorem rnd_law01_ClockOffsets_0 (cs : List ByteArray) (ls : List Lnk) (o : List Int) (v0_0 : List Int) (v0_1 : List Int) (v0_2 : Int) (nn0 : Nat) (hi : (ofE cs ls = 0 ∧ ntE cs ls = 0 ∧ fwL cs ls = true ∧ o.length ≤ 10) ∧ 0 ≤ v0_2 ∧ v0_2 ≤ (ofV cs ls).length ∧ ((nn0 + 1) : Int) + v0_2 = (ofV cs ls).length + 1 ∧ v0_0 = ((ofV cs ls).take v0_2.toNat).map Rg.lo ∧ v0_1 = ((ofV cs ls).take v0_2.toNat).map Rg.hi) : rd_law01_ClockOffsets_0 (J_law01_ClockOffsets cs ls o) cs ls o v0_0 v0_1 v0_2 nn0 (fun r => LeD r (.t (.c (.v (.bool true))))) := by
 obtain ⟨⟨q1, q2, q3, q4⟩, i1, i2, i3, i4, i5⟩ := hi
 obtain ⟨k, rfl⟩ : ∃ k : Nat, v0_2 = k := ⟨v0_2.toNat, by omega⟩
 have hk : (k : Int).toNat = k := rfl
 rw [hk] at i4 i5
 obtain ⟨f1, f2, f3⟩ := fwL_ok q3
 have hs : ∀ k, k < cs.length → (txAt cs k).size ≤ 1000000 := fun k hk => by have := f3 k hk; omega
 have n1 := txP_txs cs
 have n2 := numsP_lnks ls
 unfold rd_law01_ClockOffsets_0
 simp only [ints_listC, lpps_listC, pngs_listC, rgs_listC, txs_of, lnks_listC]
 rw [hk]
 rcases of_cases cs ls o q2 with ⟨a1, _⟩ | ⟨a1, _⟩ | ⟨a1, a2, a3, a4, a5, a6, a7, a8, a9, a10⟩
 ·omega
 ·omega
 refine cond_i (fun h => ?_) (fun h => ?_)
 ·have hlt : k < (ofV cs ls).length := by have := of_decide_eq_true h; omega
  have e1 : ((ofV cs ls).take k).map Rg.lo ++ [(rgAt (ofV cs ls) k).lo] = ((ofV cs ls).take (k + 1)).map Rg.lo := by
   rw [List.take_succ_eq_append_getElem hlt, List.map_append]; simp [rgAt, List.getD, hlt]
  have e2 : ((ofV cs ls).take k).map Rg.hi ++ [(rgAt (ofV cs ls) k).hi] = ((ofV cs ls).take (k + 1)).map Rg.hi := by
   rw [List.take_succ_eq_append_getElem hlt, List.map_append]; simp [rgAt, List.getD, hlt]
  have r1 : roomP 8 (v0_0.length + 1) := by unfold roomP maxLen; rw [i4]; simp; omega
  have r2 : roomP 8 (v0_1.length + 1) := by unfold roomP maxLen; rw [i5]; simp; omega
  have fin : ∀ x2 : Int, IntKind.i64.wrap ((k : Int) + 1) = x2 → J_law01_ClockOffsets cs ls o 0 (nn0 :: []) (mk_law01_ClockOffsets_0 cs ls o (v0_0 ++ [(rgAt (ofV cs ls) k).lo]) (v0_1 ++ [(rgAt (ofV cs ls) k).hi]) x2) := fun x2 hx => by
   rw [wi (by omega)] at hx
   subst hx
   refine ⟨_, _, _, rfl, ⟨q1, q2, q3, q4⟩, by omega, by omega, by omega, ?_, ?_⟩
   ·rw [i4, e1, show ((k : Int) + 1).toNat = k + 1 by omega]
   ·rw [i5, e2, show ((k : Int) + 1).toNat = k + 1 by omega]
  by_cases hc : ckE cs ls o = 0
  ·obtain ⟨b1, b2⟩ := a7 hc
   have b2 := b2 k (by omega)
   simp only [hc, b2, n00, beq_self_eq_true, bne_self_eq_false, Bool.not_true, Bool.not_false, _root_.cond_true, _root_.cond_false, decide_true, eq_self_iff_true, List.length_nil, lt_v, q2a, q2b, q12a, q12b, q13a, q13b, wr00, nums_ints, nums_ints, t21_13, t21_0, t0_13, t12_0, t0_0]
   (repeat' with_reducible first | assumption | trivial | (refine And.intro ?_ ?_))
   all_goals first | omega | exact fin _ rfl | exact r1 | exact r2
  ·have hc : (ckE cs ls o == 0) = false := by simpa using hc
   simp only [hc, n00, beq_self_eq_true, bne_self_eq_false, Bool.not_true, Bool.not_false, _root_.cond_true, _root_.cond_false, decide_true, eq_self_iff_true, List.length_nil, lt_v, q2a, q2b, q12a, q12b, q13a, q13b, wr00, nums_ints, nums_ints, t21_13, t21_0, t0_13, t12_0, t0_0]
   (repeat' with_reducible first | assumption | trivial | (refine And.intro ?_ ?_))
   all_goals first | omega | exact fin _ rfl | exact r1 | exact r2
 ·have h := of_decide_eq_false h
  obtain rfl : k = (ofV cs ls).length := by omega
  rw [List.take_length] at i4 i5
  subst i4 i5
  have n4 := numsP_ints ((ofV cs ls).map Rg.lo)
  have n5 := numsP_ints ((ofV cs ls).map Rg.hi)
  have l4 : ((ofV cs ls).map Rg.lo).length ≤ 1000000 := by simp; omega
  have l5 : ((ofV cs ls).map Rg.hi).length ≤ 1000000 := by simp; omega
  simp only [nums_ints, ints_listC, a8.1, a8.2, a9, a10, n00, beq_self_eq_true, bne_self_eq_false, Bool.not_true, Bool.not_false, _root_.cond_true, _root_.cond_false, decide_true, eq_self_iff_true, List.length_nil, lt_v, q2a, q2b, q12a, q12b, q13a, q13b, wr00, nums_ints, nums_ints, t21_13, t21_0, t0_13, t12_0, t0_0]
  (repeat' with_reducible first | assumption | trivial | (refine And.intro ?_ ?_))
  all_goals first | omega | exact LeD.refl _ | exact leB rfl | exact numsP_ints _
theorem zero_law01_ClockOffsets_0 (cs : List ByteArray) (ls : List Lnk) (o : List Int) (v0_0 : List Int) (v0_1 : List Int) (v0_2 : Int)  (hi : (ofE cs ls = 0 ∧ ntE cs ls = 0 ∧ fwL cs ls = true ∧ o.length ≤ 10) ∧ 0 ≤ v0_2 ∧ v0_2 ≤ (ofV cs ls).length ∧ (0 : Int) + v0_2 = (ofV cs ls).length + 1 ∧ v0_0 = ((ofV cs ls).take v0_2.toNat).map Rg.lo ∧ v0_1 = ((ofV cs ls).take v0_2.toNat).map Rg.hi) : False := by
 omega
set_option maxHeartbeats 8000000 in
set_option maxRecDepth 100000 in
theorem spec_law01_ClockOffsets (cs : List ByteArray) (ls : List Lnk) (o : List Int) : vc_law01_ClockOffsets (J_law01_ClockOffsets cs ls o) cs ls o (fun r => LeD r (.t (.c (.v (.bool true))))) := by
 unfold vc_law01_ClockOffsets
 simp only [ints_listC, lpps_listC, pngs_listC, rgs_listC, txs_of, lnks_listC]
 have n1 := txP_txs cs
 have n2 := numsP_lnks ls
 have n3 := numsP_ints o
 cases hf : fwL cs ls with
 | false =>
  simp only [n00, beq_self_eq_true, bne_self_eq_false, Bool.not_true, Bool.not_false, _root_.cond_true, _root_.cond_false, decide_true, eq_self_iff_true, List.length_nil, lt_v, q2a, q2b, q12a, q12b, q13a, q13b, wr00, nums_ints, nums_ints, t21_13, t21_0, t0_13, t12_0, t0_0]
  (repeat' with_reducible first | assumption | trivial | (refine And.intro ?_ ?_))
  all_goals first | omega | exact LeD.refl _ | exact leB rfl | exact numsP_ints _
 | true =>
 obtain ⟨f1, f2, f3⟩ := fwL_ok hf
 have hs : ∀ k, k < cs.length → (txAt cs k).size ≤ 1000000 := fun k hk => by have := f3 k hk; omega
 by_cases hz : ntE cs ls = 0
 case neg =>
  simp only [show (ntE cs ls != 0) = true from by simpa using hz, n00, beq_self_eq_true, bne_self_eq_false, Bool.not_true, Bool.not_false, _root_.cond_true, _root_.cond_false, decide_true, eq_self_iff_true, List.length_nil, lt_v, q2a, q2b, q12a, q12b, q13a, q13b, wr00, nums_ints, nums_ints, t21_13, t21_0, t0_13, t12_0, t0_0]
  (repeat' with_reducible first | assumption | trivial | (refine And.intro ?_ ?_))
  all_goals first | omega | exact LeD.refl _ | exact leB rfl | exact numsP_ints _
 by_cases ho : o.length ≤ 10
 case neg =>
  simp only [show (ntE cs ls != 0) = false from by simpa using hz, decide_eq_true (show ((o.length : Nat) : Int) > 10 by omega), n00, beq_self_eq_true, bne_self_eq_false, Bool.not_true, Bool.not_false, _root_.cond_true, _root_.cond_false, decide_true, eq_self_iff_true, List.length_nil, lt_v, q2a, q2b, q12a, q12b, q13a, q13b, wr00, nums_ints, nums_ints, t21_13, t21_0, t0_13, t12_0, t0_0]
  (repeat' with_reducible first | assumption | trivial | (refine And.intro ?_ ?_))
  all_goals first | omega | exact LeD.refl _ | exact leB rfl | exact numsP_ints _
 have nz : (ntE cs ls != 0) = false := by simpa using hz
 simp only [nz, decide_eq_false (show ¬ ((o.length : Nat) : Int) > 10 by omega), n00, beq_self_eq_true, bne_self_eq_false, Bool.not_true, Bool.not_false, _root_.cond_true, _root_.cond_false, decide_true, eq_self_iff_true, List.length_nil, lt_v, q2a, q2b, q12a, q12b, q13a, q13b, wr00, nums_ints, nums_ints, t21_13, t21_0, t0_13, t12_0, t0_0]
 rcases of_cases cs ls o hz with ⟨a1, a2, a3⟩ | ⟨a1, a2⟩ | ⟨a1, a2, a3, a4, a5, a6, a7, a8, a9, a10⟩
 ·simp only [a1, a2, a3, n00, beq_self_eq_true, bne_self_eq_false, Bool.not_true, Bool.not_false, _root_.cond_true, _root_.cond_false, decide_true, eq_self_iff_true, List.length_nil, lt_v, q2a, q2b, q12a, q12b, q13a, q13b, wr00, nums_ints, nums_ints, t21_13, t21_0, t0_13, t12_0, t0_0]
  (repeat' with_reducible first | assumption | trivial | (refine And.intro ?_ ?_))
  all_goals first | omega | exact LeD.refl _ | exact leB rfl | exact numsP_ints _
 ·simp only [a1, a2, n00, beq_self_eq_true, bne_self_eq_false, Bool.not_true, Bool.not_false, _root_.cond_true, _root_.cond_false, decide_true, eq_self_iff_true, List.length_nil, lt_v, q2a, q2b, q12a, q12b, q13a, q13b, wr00, nums_ints, nums_ints, t21_13, t21_0, t0_13, t12_0, t0_0]
  (repeat' with_reducible first | assumption | trivial | (refine And.intro ?_ ?_))
  all_goals first | omega | exact LeD.refl _ | exact leB rfl | exact numsP_ints _
 ·simp only [a1, a2, a3, a5, a6, n00, beq_self_eq_true, bne_self_eq_false, Bool.not_true, Bool.not_false, _root_.cond_true, _root_.cond_false, decide_true, eq_self_iff_true, List.length_nil, lt_v, q2a, q2b, q12a, q12b, q13a, q13b, wr00, nums_ints, nums_ints, t21_13, t21_0, t0_13, t12_0, t0_0]
  have hJ : ∃ v0_0 v0_1 v0_2, mk_law01_ClockOffsets_0 cs ls o [] [] 0 = mk_law01_ClockOffsets_0 cs ls o v0_0 v0_1 v0_2 ∧ (ofE cs ls = 0 ∧ ntE cs ls = 0 ∧ fwL cs ls = true ∧ o.length ≤ 10) ∧ 0 ≤ v0_2 ∧ v0_2 ≤ (ofV cs ls).length ∧ (((ofV cs ls).length + 1 : Nat) : Int) + v0_2 = (ofV cs ls).length + 1 ∧ v0_0 = ((ofV cs ls).take v0_2.toNat).map Rg.lo ∧ v0_1 = ((ofV cs ls).take v0_2.toNat).map Rg.hi := ⟨[], [], 0, rfl, ⟨a1, hz, hf, ho⟩, by omega, by omega, by omega, rfl, rfl⟩
  (repeat' with_reducible first | assumption | trivial | (refine And.intro ?_ ?_))
  all_goals first | omega | exact ⟨(ofV cs ls).length + 1, hJ⟩
theorem all_law01_ClockOffsets (cs : List ByteArray) (ls : List Lnk) (o : List Int) : AllG (J_law01_ClockOffsets cs ls o) (loopsFn Try.prog tab Sf4113 ann_law01_ClockOffsets (J_law01_ClockOffsets cs ls o) Try.f11 (fun r => LeD r (.t (.c (.v (.bool true)))))) := by
 rw [lp_law01_ClockOffsets]
 refine ⟨⟨?_, ?_⟩, trivial⟩
 ·intro F s h
  obtain _ | ⟨g, F⟩ := F
  case cons => exact h.elim
  obtain ⟨w0, w1, w2, rfl, hi⟩ := h
  exact zero_law01_ClockOffsets_0 cs ls o w0 w1 w2 hi
 ·intro n F s h
  obtain _ | ⟨g, F⟩ := F
  case cons => exact h.elim
  obtain ⟨w0, w1, w2, rfl, hi⟩ := h
  rw [er_law01_ClockOffsets_0]
  exact rnd_law01_ClockOffsets_0 cs ls o _ _ _ _ hi
theorem law_law01_ClockOffsets (cs : List ByteArray) (ls : List Lnk) (o : List Int) (W : World) (N : Nat → Prop) (vs : List Value) (h : All2 (RelD (RelF W N)) [.t (.a [.sl 1 cs.length (txsC cs), .sl 4 ls.length (lnksC ls)]), .t (.c (.sl 1 o.length (intsC o)))] vs) : Calls Try.prog 11 vs.toArray W fun e w' => e = .returned (.bool true) ∧ Below W.heap.size W w' :=
 law_end (fn_sound mixed tabOK VSf4113 (ann := ann_law01_ClockOffsets) VI1 (fn := Try.f11) (J := J_law01_ClockOffsets cs ls o) (by kernel_rfl) fit_law01_ClockOffsets (args := [.t (.a [.sl 1 cs.length (txsC cs), .sl 4 ls.length (lnksC ls)]), .t (.c (.sl 1 o.length (intsC o)))]) (post := (fun r => LeD r (.t (.c (.v (.bool true)))))) (by rw [ev_law01_ClockOffsets]; exact spec_law01_ClockOffsets cs ls o) (all_law01_ClockOffsets cs ls o) (Nat.le_of_ble_eq_true (by kernel_rfl)) W N vs trivial h)
end Go.Proofs.Ytkifmfmenobhnaa
set_option linter.unusedVariables false
set_option linter.unusedSimpArgs false
namespace Go.Proofs.Ytkifmfmenobhnaa
open Go.RowKit
section
variable {H : Type} {enc : TypeId × Value → H} {P : Program} {w : World} {base : Nat} {spare : Nat → Bool} {held : Bool}
theorem cell_lt {w : World} {a : Addr} {v : Value} (h : w.cell? a = some v) : a.block < w.heap.size := by
 unfold World.cell? at h
 cases e : w.heap[a.block]? with
 | none => simp [e] at h
 | some o => exact (Array.getElem?_eq_some_iff.1 e).1
theorem list_of {α : Type} (d : α) : ∀ (n : Nat) {R : Nat → α → Prop}, (∀ i, i < n → ∃ x, R i x) → ∃ l : List α, l.length = n ∧ ∀ i, i < n → R i (l.getD i d) := by
 intro n
 induction n with
 | zero => intro R _; exact ⟨[], rfl, fun i hi => absurd hi (by omega)⟩
 | succ n ih =>
  intro R h
  obtain ⟨l, hl, hr⟩ := ih (fun i hi => h i (by omega))
  obtain ⟨x, hx⟩ := h n (by omega)
  refine ⟨l ++ [x], by simp [hl], fun i hi => ?_⟩
  rcases Nat.lt_or_ge i n with h1 | h1
  ·have : (l ++ [x]).getD i d = l.getD i d := by simp [List.getD, List.getElem?_append_left (show i < l.length by omega)]
   rw [this]; exact hr i h1
  ·have e : i = n := by omega
   subst e
   have : (l ++ [x]).getD i d = x := by rw [← hl]; simp [List.getD]
   rw [this]; exact hx
theorem SlAt.congr {w : World} {v : Value} {n sz : Nat} {c d : Nat → Nat → Value} (h : SlAt w v n sz c) (e : ∀ i j, i < n → j < sz → c i j = d i j) : SlAt w v n sz d := by
 obtain ⟨ao, cap, rfl, h1, h2, h3, h4⟩ := h
 refine ⟨ao, cap, rfl, h1, h2, fun h0 => ?_, h4⟩
 obtain ⟨b, off, e1, hlt, hc⟩ := h3 h0
 exact ⟨b, off, e1, hlt, fun i j hi hj => by rw [hc i j hi hj, e i j hi hj]⟩
theorem slAt_of_trod {t e : TypeId} {sz fuel : Nat} {v : Value} {x : DataW H × List MemPlace} (ht : P.underlying t = some (.slice e)) (hc : P.cellsOf e = sz) (hsz : 0 < sz)
  (h : DataW.trod enc P w base spare held fuel t [v] = some x) :
  ∃ (n : Nat) (css : Nat → List Value), SlAt w v n sz (fun i j => (css i).getD j undef) ∧ ∀ i, i < n → (css i).length = sz ∧ ∃ m y, DataW.trod enc P w base spare held m e (css i) = some y := by
 rcases DataW.trod_slice ht h with ⟨h0, _⟩ | ⟨a, len, cap, elems, rest, m, _, h0, _, hb, hl, hm, hlen, hel, _, _⟩
 ·obtain rfl : v = .slice none 0 0 := by simpa using h0
  exact ⟨0, fun _ => [], ⟨none, 0, rfl, by simp, by simp, fun h => absurd h (by omega), fun _ => rfl⟩, fun i hi => absurd hi (by omega)⟩
 ·obtain rfl : v = .slice (some a) len cap := by simpa using h0
  have each : ∀ i, i < len → ∃ cs : List Value, w.cells? base (a.add (i * sz)) sz = some cs ∧ ∃ y, DataW.trod enc P w base spare held m e cs = some y := by
   intro i hi
   have h1 := hel i hi
   rw [hc] at h1
   have h2 : elems[i]? = some elems[i] := by simp
   rw [h2, Option.bind_eq_some_iff] at h1
   obtain ⟨cs, h3, h4⟩ := h1
   exact ⟨cs, h3, _, h4⟩
  obtain ⟨css, hcl, hcs⟩ := list_of ([] : List Value) len each
  have hcell : ∀ i j, i < len → j < sz → w.cell? ((a.add (i * sz)).add j) = some ((css.getD i []).getD j undef) := by
   intro i j hi hj
   obtain ⟨_, h2, h3⟩ := World.cells?_some (hcs i hi).1
   rw [h3 j hj]
   generalize css.getD i [] = c at h2 ⊢
   rw [List.getElem?_eq_getElem (by omega)]
   simp [List.getD, List.getElem?_eq_getElem (show j < c.length by omega)]
  refine ⟨len, fun i => css.getD i [], ⟨some a, cap, rfl, hl, hm, fun hp => ?_, fun h => by cases h⟩, fun i hi => ⟨(World.cells?_some (hcs i hi).1).2.1, m, (hcs i hi).2⟩⟩
  obtain ⟨b, off, spot⟩ := a
  have hspot : spot = none := by simpa [Addr.add] using World.cell?_spot (hcell 0 0 hp hsz)
  subst hspot
  refine ⟨b, off, rfl, by simpa [Addr.add] using cell_lt (hcell 0 0 hp hsz), fun i j hi hj => ?_⟩
  have := hcell i j hi hj
  rw [add_plain', add_plain'] at this
  exact this
end
end Go.Proofs.Ytkifmfmenobhnaa
set_option linter.unusedVariables false
set_option linter.unusedSimpArgs false
namespace Go.Proofs.Ytkifmfmenobhnaa.Ev
open Go.RowKit
inductive CK where
 | int (k : IntKind)
 | bool
 | str
 | sl (e : TypeId)
def findF (P : Program) (go : TypeId → Nat → Option CK) (j : Nat) : List Field → Option CK
 | [] => none
 | f :: l => bif Nat.ble f.offset j && Nat.blt j (f.offset + P.cellsOf f.type) then go f.type (j - f.offset) else findF P go j l
def kindAt (P : Program) : Nat → TypeId → Nat → Option CK
 | 0, _, _ => none
 | k + 1, t, j => match P.underlying t with
  | some (.int ik) => bif Nat.beq j 0 then some (.int ik) else none
  | some .bool => bif Nat.beq j 0 then some .bool else none
  | some .string => bif Nat.beq j 0 then some .str else none
  | some (.slice e) => bif Nat.beq j 0 then some (.sl e) else none
  | some (.array n e) => bif Nat.blt j (n * P.cellsOf e) then kindAt P k e (j % P.cellsOf e) else none
  | some (.struct fs) => findF P (kindAt P k) j fs.toList
  | _ => none
def kindB (P : Program) : Nat → TypeId → Bool
 | 0, _ => false
 | d + 1, t => (List.range (P.cellsOf t)).all fun j => match kindAt P 20 t j with
  | some (.sl e) => Nat.blt 0 (P.cellsOf e) && kindB P d e
  | some _ => true
  | none => false
def okK (P : Program) : Nat → CK → CV → Prop
 | _, .int ik, c => ∃ n, c = .v (.int ik n) ∧ (Lit.int ik n).wf = true
 | _, .bool, c => ∃ b, c = .v (.bool b)
 | _, .str, c => ∃ s, c = .v (.string s) ∧ s.size ≤ maxLen
 | 0, .sl e, c => False
 | d + 1, .sl e, c => ∃ n cc, c = .sl (P.cellsOf e) n cc ∧ n ≤ maxLen ∧ ∀ i j, i < n → j < P.cellsOf e → ∃ κ, kindAt P 20 e j = some κ ∧ okK P d κ (cc i j)
section
variable {H : Type} {enc : TypeId × Value → H} {P : Program} {w : World} {base : Nat} {spare : Nat → Bool} {held : Bool}
def leaf (H : Type) (enc : TypeId × Value → H) (P : Program) (w : World) (base : Nat) (spare : Nat → Bool) (held : Bool) : CK → Value → Prop
 | .int ik, u => ∃ n, u = .int ik n ∧ (Lit.int ik n).wf = true
 | .bool, u => ∃ b, u = .bool b
 | .str, u => ∃ s : ByteArray, u = .string s ∧ s.size ≤ maxLen
 | .sl e, u => ∃ t m y, P.underlying t = some (.slice e) ∧ DataW.trod enc P w base spare held m t [u] = some y
theorem leaf_of : ∀ (k : Nat) (t : TypeId) (fuel : Nat) (cs : List Value) (x : DataW H × List MemPlace) (j : Nat) (κ : CK), kindAt P k t j = some κ → DataW.trod enc P w base spare held fuel t cs = some x → ∃ u, cs[j]? = some u ∧ leaf H enc P w base spare held κ u := by
 intro k
 induction k with
 | zero => intro t fuel cs x j κ h; cases h
 | succ k ih =>
  intro t fuel cs x j κ hk h
  unfold kindAt at hk
  have zero : ∀ {κ' : CK}, (bif Nat.beq j 0 then some κ' else none) = some κ → j = 0 ∧ κ' = κ := by
   intro κ' e
   cases hb : Nat.beq j 0 with
   | false => rw [hb] at e; cases e
   | true => rw [hb] at e; cases e; exact ⟨Nat.eq_of_beq_eq_true hb, rfl⟩
  split at hk
  ·rename_i ik ht
   obtain ⟨rfl, rfl⟩ := zero hk
   obtain ⟨n, rfl, _, h2⟩ := DataW.trod_int ht h
   exact ⟨_, rfl, n, rfl, h2⟩
  ·rename_i ht
   obtain ⟨rfl, rfl⟩ := zero hk
   obtain ⟨b, rfl, _⟩ := DataW.trod_bool ht h
   exact ⟨_, rfl, b, rfl⟩
  ·rename_i ht
   obtain ⟨rfl, rfl⟩ := zero hk
   obtain ⟨s, rfl, _, h2⟩ := DataW.trod_string ht h
   exact ⟨_, rfl, s, rfl, h2⟩
  ·rename_i e ht
   obtain ⟨rfl, rfl⟩ := zero hk
   rcases DataW.trod_slice ht h with ⟨rfl, _⟩ | ⟨a, len, cap, elems, rest, m, _, rfl, _⟩
   ·exact ⟨_, rfl, t, fuel, x, ht, h⟩
   ·exact ⟨_, rfl, t, fuel, x, ht, h⟩
  ·rename_i n e ht
   cases hb : Nat.blt j (n * P.cellsOf e) with
   | false => rw [hb] at hk; cases hk
   | true =>
    rw [hb] at hk
    simp only [cond_true] at hk
    have hj : j < n * P.cellsOf e := Nat.le_of_ble_eq_true hb
    have hpos : 0 < P.cellsOf e := by
     rcases Nat.eq_zero_or_pos (P.cellsOf e) with q | q
     ·rw [q, Nat.mul_zero] at hj; omega
     ·exact q
    obtain ⟨xs, m, _, _, hl, hxs, hf⟩ := DataW.trod_array ht h
    have hi : j / P.cellsOf e < n := Nat.div_lt_of_lt_mul (by rwa [Nat.mul_comm])
    have h5 := hf _ hi
    rw [show xs[j / P.cellsOf e]? = some xs[j / P.cellsOf e] from List.getElem?_eq_getElem (by omega)] at h5
    obtain ⟨u, h6, h7⟩ := ih e _ _ _ _ _ hk h5
    refine ⟨u, ?_, h7⟩
    rw [List.getElem?_take, if_pos (Nat.mod_lt _ hpos), List.getElem?_drop] at h6
    rwa [Nat.div_add_mod' j (P.cellsOf e)] at h6
  ·rename_i fs ht
   obtain ⟨xs, m, _, _, hl, hxs, hf⟩ := DataW.trod_struct ht h
   have find : ∀ l : List Field, (∀ f ∈ l, ∃ i : Nat, fs[i]? = some f) → findF P (kindAt P k) j l = some κ → ∃ (f : Field) (i : Nat), fs[i]? = some f ∧ f.offset ≤ j ∧ j < f.offset + P.cellsOf f.type ∧ kindAt P k f.type (j - f.offset) = some κ := by
    intro l
    induction l with
    | nil => intro _ h; cases h
    | cons f l ihl =>
     intro hm h
     unfold findF at h
     cases hb : (Nat.ble f.offset j && Nat.blt j (f.offset + P.cellsOf f.type)) with
     | false => rw [hb] at h; exact ihl (fun g hg => hm g (by simp [hg])) h
     | true =>
      rw [hb] at h
      simp only [Bool.and_eq_true] at hb
      obtain ⟨i, hi⟩ := hm f (by simp)
      exact ⟨f, i, hi, Nat.le_of_ble_eq_true hb.1, Nat.le_of_ble_eq_true hb.2, h⟩
   obtain ⟨f, i, hi, h1, h2, h3⟩ := find fs.toList (fun f hf => by
    obtain ⟨i, hi, e⟩ := List.getElem_of_mem hf
    exact ⟨i, by rw [← e]; simp at hi ⊢⟩) hk
   have h5 := hf i f hi
   have hlt : i < fs.size := by
    rcases Nat.lt_or_ge i fs.size with q | q
    ·exact q
    ·rw [Array.getElem?_eq_none q] at hi; cases hi
   rw [show xs[i]? = some xs[i] from List.getElem?_eq_getElem (by omega)] at h5
   obtain ⟨u, h6, h7⟩ := ih _ _ _ _ _ _ h3 h5
   refine ⟨u, ?_, h7⟩
   rw [List.getElem?_take, if_pos (by omega), List.getElem?_drop] at h6
   rwa [show f.offset + (j - f.offset) = j by omega] at h6
  ·cases hk
theorem open_cell : ∀ (d : Nat) (t : TypeId) (fuel : Nat) (cs : List Value) (x : DataW H × List MemPlace), kindB P d t = true → DataW.trod enc P w base spare held fuel t cs = some x → ∀ j, j < P.cellsOf t → ∃ κ c u, kindAt P 20 t j = some κ ∧ cs[j]? = some u ∧ RelF w (fun _ => True) c u ∧ okK P d κ c := by
 intro d
 induction d with
 | zero => intro t fuel cs x h; cases h
 | succ d ih =>
  intro t fuel cs x hB h j hj
  have hB' := hB
  unfold kindB at hB
  have h1 := List.all_eq_true.1 hB j (List.mem_range.2 hj)
  cases hk : kindAt P 20 t j with
  | none => rw [hk] at h1; cases h1
  | some κ =>
   rw [hk] at h1
   obtain ⟨u, h2, h3⟩ := leaf_of 20 t fuel cs x j κ hk h
   cases κ with
   | int ik =>
    obtain ⟨n, rfl, hw⟩ := h3
    exact ⟨_, .v (.int ik n), _, rfl, h2, ⟨rfl, rfl⟩, by simp only [okK]; exact ⟨n, rfl, hw⟩⟩
   | bool =>
    obtain ⟨b, rfl⟩ := h3
    exact ⟨_, .v (.bool b), _, rfl, h2, ⟨rfl, rfl⟩, by simp only [okK]; exact ⟨b, rfl⟩⟩
   | str =>
    obtain ⟨s, rfl, hs⟩ := h3
    exact ⟨_, .v (.string s), _, rfl, h2, ⟨rfl, rfl⟩, by simp only [okK]; exact ⟨s, rfl, hs⟩⟩
   | sl e =>
    simp only [Bool.and_eq_true] at h1
    have hpos : 0 < P.cellsOf e := Nat.le_of_ble_eq_true h1.1
    obtain ⟨t', m, y, ht, hy⟩ := h3
    obtain ⟨n, css, ⟨ao, cap, rfl, g1, g2, g3, g4⟩, hel⟩ := slAt_of_trod ht rfl hpos hy
    have each : ∀ i j, i < n → j < P.cellsOf e → ∃ c : CV, ∃ κ u, kindAt P 20 e j = some κ ∧ (css i)[j]? = some u ∧ RelF w (fun _ => True) c u ∧ okK P d κ c := by
     intro i j hi hj
     obtain ⟨_, m', y', h6⟩ := hel i hi
     obtain ⟨κ, c, u, q⟩ := ih e m' (css i) y' h1.2 h6 j hj
     exact ⟨c, κ, u, q⟩
    classical
    let cc : Nat → Nat → CV := fun i j => if h : i < n ∧ j < P.cellsOf e then Classical.choose (each i j h.1 h.2) else .v (.bool false)
    have hcc : ∀ i j, i < n → j < P.cellsOf e → ∃ κ u, kindAt P 20 e j = some κ ∧ (css i)[j]? = some u ∧ RelF w (fun _ => True) (cc i j) u ∧ okK P d κ (cc i j) := by
     intro i j hi hj
     have : cc i j = Classical.choose (each i j hi hj) := dif_pos ⟨hi, hj⟩
     rw [this]
     exact Classical.choose_spec (each i j hi hj)
    refine ⟨_, .sl (P.cellsOf e) n cc, _, rfl, h2, ⟨ao, cap, rfl, g1, g2, g4, fun h0 => ?_⟩, by
     simp only [okK]
     exact ⟨n, cc, rfl, Nat.le_trans g1 g2, fun i j hi hj => by obtain ⟨κ, u, q1, _, _, q4⟩ := hcc i j hi hj; exact ⟨κ, q1, q4⟩⟩⟩
    obtain ⟨b, off, e1, hlt, hc⟩ := g3 h0
    refine ⟨b, off, e1, hlt, trivial, fun i j hi hj => ?_⟩
    obtain ⟨κ, u, q1, q2, q3, _⟩ := hcc i j hi hj
    refine ⟨u, ?_, q3⟩
    rw [hc i j hi hj]
    simp [List.getD, q2]
theorem open_cells {d : Nat} {t : TypeId} {fuel : Nat} {cs : List Value} {x : DataW H × List MemPlace} (hB : kindB P d t = true) (hl : cs.length = P.cellsOf t) (h : DataW.trod enc P w base spare held fuel t cs = some x) :
  ∃ l : List CV, l.length = P.cellsOf t ∧ All2 (RelF w (fun _ => True)) l cs ∧ ∀ j, j < P.cellsOf t → ∃ κ, kindAt P 20 t j = some κ ∧ okK P d κ (l.getD j (.v (.bool false))) := by
 have each := open_cell d t fuel cs x hB h
 obtain ⟨l, h1, h2⟩ := list_of (CV.v (.bool false)) (P.cellsOf t) (R := fun j c => ∃ κ u, kindAt P 20 t j = some κ ∧ cs[j]? = some u ∧ RelF w (fun _ => True) c u ∧ okK P d κ c) (fun j hj => by obtain ⟨κ, c, u, q⟩ := each j hj; exact ⟨c, κ, u, q⟩)
 refine ⟨l, h1, All2.of_get (by omega) fun i a b ha hb => ?_, fun j hj => ?_⟩
 ·have hi : i < P.cellsOf t := by
   rcases Nat.lt_or_ge i l.length with q | q
   ·omega
   ·rw [List.getElem?_eq_none q] at ha; cases ha
  obtain ⟨κ, u, _, q2, q3, _⟩ := h2 i hi
  rw [hb] at q2
  cases q2
  rw [show l.getD i (.v (.bool false)) = a by simp [List.getD, ha]] at q3
  exact q3
 ·obtain ⟨κ, u, q1, _, _, q4⟩ := h2 j hj
  exact ⟨κ, q1, q4⟩
theorem open_agg {d : Nat} {t : TypeId} {cs : Array Value} {y : DataW H} {ps : List MemPlace} (hB : kindB P d t = true) (hl : cs.size = P.cellsOf t) (h : DataW.Trod enc P w base spare held t (.agg cs) y ps) :
  ∃ l : List CV, l.length = P.cellsOf t ∧ All2 (RelF w (fun _ => True)) l cs.toList ∧ ∀ j, j < P.cellsOf t → ∃ κ, kindAt P 20 t j = some κ ∧ okK P d κ (l.getD j (.v (.bool false))) := by
 obtain ⟨fuel, hf⟩ := h
 exact open_cells hB (by simpa using hl) (by simpa [Value.cells] using hf)
end
theorem open_i64 {P : Program} {d : Nat} {t : TypeId} {j : Nat} {c : CV} (hk : kindAt P 20 t j = some (.int .i64)) (h : ∃ κ, kindAt P 20 t j = some κ ∧ okK P d κ c) : ∃ n : Int, c = .v (.int .i64 n) ∧ -9223372036854775808 ≤ n ∧ n ≤ 9223372036854775807 := by
 obtain ⟨κ, h1, h2⟩ := h
 rw [hk] at h1
 cases h1
 have h3 : ∃ n, c = .v (.int .i64 n) ∧ (Lit.int .i64 n).wf = true := by cases d <;> exact h2
 obtain ⟨n, e, hw⟩ := h3
 have := bounds_i64 hw
 exact ⟨n, e, this.1, this.2⟩
theorem open_st {P : Program} {d : Nat} {t : TypeId} {j : Nat} {c : CV} (hk : kindAt P 20 t j = some .str) (h : ∃ κ, kindAt P 20 t j = some κ ∧ okK P d κ c) : ∃ s : ByteArray, c = .v (.string s) ∧ s.size ≤ maxLen := by
 obtain ⟨κ, h1, h2⟩ := h
 rw [hk] at h1
 cases h1
 cases d <;> exact h2
theorem open_sl {P : Program} {d : Nat} {t e : TypeId} {j : Nat} {c : CV} (hk : kindAt P 20 t j = some (.sl e)) (h : ∃ κ, kindAt P 20 t j = some κ ∧ okK P (d + 1) κ c) : ∃ n cc, c = .sl (P.cellsOf e) n cc ∧ n ≤ maxLen ∧ ∀ i j, i < n → j < P.cellsOf e → ∃ κ, kindAt P 20 e j = some κ ∧ okK P d κ (cc i j) := by
 obtain ⟨κ, h1, h2⟩ := h
 rw [hk] at h1
 cases h1
 exact h2
def allI (P : Program) (e : TypeId) : Bool := (List.range (P.cellsOf e)).all fun j => match kindAt P 20 e j with
 | some (.int .i64) => true
 | _ => false
theorem nums_of {P : Program} {d : Nat} {e : TypeId} {n : Nat} {cc : Nat → Nat → CV} (hk : allI P e = true) (h : ∀ i j, i < n → j < P.cellsOf e → ∃ κ, kindAt P 20 e j = some κ ∧ okK P d κ (cc i j)) : numsP (P.cellsOf e) n cc := by
 intro i j hi hj
 have h1 := List.all_eq_true.1 hk j (List.mem_range.2 hj)
 split at h1
 ·rename_i hq
  obtain ⟨m, e1, _⟩ := open_i64 hq (h i j hi hj)
  rw [e1]; rfl
 ·cases h1
end Go.Proofs.Ytkifmfmenobhnaa.Ev
set_option linter.unusedVariables false
namespace Go.Proofs.Ytkifmfmenobhnaa
open Go.RowKit Ev
theorem txP_of {P : Program} {d : Nat} {e : TypeId} {n : Nat} {c : Nat → Nat → CV} (hk : kindAt P 20 e 0 = some .str) (hz : P.cellsOf e = 1) (f : ∀ i j, i < n → j < P.cellsOf e → ∃ κ, kindAt P 20 e j = some κ ∧ okK P d κ (c i j)) : txP n c := by
 intro i hi
 obtain ⟨s, hs, _⟩ := open_st (by rw [hk]) (f i 0 hi (by omega))
 rw [hs]; rfl
end Go.Proofs.Ytkifmfmenobhnaa