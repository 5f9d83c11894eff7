/- Ratios made. -/
import Derived.Test.YtlmdmpjfehpjeaaK19
set_option linter.unusedVariables false
set_option linter.unusedSimpArgs false
namespace Go.Proofs.Ytlmdmpjfehpjeaa
open Go.RowKit

theorem four_cells {w : World} {g : Nat} {x y z u : Value} {t : TypeId} (h : w.heap[g]? = some (.cells #[x, y, z, u] t (0, 0))) :
    w.cell? ⟨g, 0, none⟩ = some x ∧ w.cell? ⟨g, 1, none⟩ = some y ∧ w.cell? ⟨g, 2, none⟩ = some z ∧ w.cell? ⟨g, 3, none⟩ = some u ∧ w.frozen? ⟨g, 0, none⟩ = false ∧ w.frozen? ⟨g, 1, none⟩ = false ∧ w.frozen? ⟨g, 2, none⟩ = false ∧ w.frozen? ⟨g, 3, none⟩ = false ∧ g < w.heap.size := by
  refine ⟨?_, ?_, ?_, ?_, frozen_of_row w g 0 _ t h, frozen_of_row w g 1 _ t h, frozen_of_row w g 2 _ t h, frozen_of_row w g 3 _ t h, (Array.getElem?_eq_some_iff.1 h).1⟩
  · rw [cell_of_row w g 0 _ t (0, 0) h]; rfl
  · rw [cell_of_row w g 1 _ t (0, 0) h]; rfl
  · rw [cell_of_row w g 2 _ t (0, 0) h]; rfl
  · rw [cell_of_row w g 3 _ t (0, 0) h]; rfl
theorem WideAt.set1 {w : World} {v : Value} {z : Int} {N : Nat → Prop} {B : Nat} (h : WideAt w v z N) (hN : ∀ b, N b → b ≠ B) (off : Nat) (x : Value) : WideAt (w.setCell ⟨B, off, none⟩ x) v z N :=
  h.keep (by rw [World.size_setCell]; exact Nat.le_refl _) fun b hlt h0 => ⟨heap_setCell_other _ _ _ _ (hN b h0), h0⟩
theorem WideAt.set4 {w : World} {v : Value} {z : Int} {N N' : Nat → Prop} {B : Nat} (h : WideAt w v z N) (hN : ∀ b, N b → b ≠ B ∧ N' b) (x0 x1 x2 x3 : Value) :
    WideAt ((((w.setCell ⟨B, 0, none⟩ x0).setCell ⟨B, 1, none⟩ x1).setCell ⟨B, 2, none⟩ x2).setCell ⟨B, 3, none⟩ x3) v z N' :=
  ((((h.set1 (fun b hb => (hN b hb).1) 0 x0).set1 (fun b hb => (hN b hb).1) 1 x1).set1 (fun b hb => (hN b hb).1) 2 x2).set1 (fun b hb => (hN b hb).1) 3 x3).mono (Below.refl _ _) (fun b _ hb => (hN b hb).2)
theorem alloc2r (w : World) (a b : Array Value) (t s : TypeId) : ∀ W, W = (w.alloc (.cells a t)).alloc (.cells b s) →
    W.heap[w.heap.size]? = some (.cells a t (0, 0)) ∧ W.heap[w.heap.size + 1]? = some (.cells b s (0, 0)) := by
  rintro W rfl
  refine ⟨?_, ?_⟩
  · rw [Below.heap_alloc _ _ _ (by simp), heap_alloc_new]
  · have := heap_alloc_new (w.alloc (.cells a t)) (.cells b s)
    simpa using this
theorem gcd_one {n d : Int} (hd : 0 < d) : sg ((Int.gcd n d : Int) - 1) = 0 ↔ Int.gcd n d = 1 := by rw [sg_zero]; omega

set_option maxRecDepth 100000 in
set_option maxHeartbeats 4000000 in
theorem base_RatioMake (n d : Int) (u v : Value) (w : World) (N : Nat → Prop) (hN : ∀ b, w.heap.size ≤ b → N b) (hu : WideAt w u n N) (hv : WideAt w v d N) (hd : 0 < d) (hx : (dig n.natAbs).length ≤ 40000) (hy : (dig d.natAbs).length ≤ 40000) :
    Calls Try.prog 127 #[u, v] w (RetRat w (rN n d) (rD n d) N) := by
  have hsd : sg d = 1 := by unfold sg; rw [if_neg (by omega), if_neg (by omega)]
  obtain ⟨ao, lx, cap, rfl⟩ := hu.shape
  obtain ⟨bo, ly, cap2, rfl⟩ := hv.shape
  have HSD := hid hsd
  rw [hsd] at hv ⊢
  obtain ⟨hg0, hg1, hg2, hg3, hg4, hg5⟩ := r_spec (n := n) hd
  obtain ⟨G, hG⟩ : ∃ G : Nat, G = Int.gcd n d := ⟨_, rfl⟩
  have hGd : (G : Int) ≤ d := by rw [hG]; exact Int.le_of_dvd hd (Int.gcd_dvd_right ..)
  have HG : Hid (0 < (G : Int) ∧ (dig (G : Int).natAbs).length ≤ 40000 ∧ rN n d = n / (G : Int) ∧ rD n d = d / (G : Int)) := hid (by
    rw [← hG] at hg0
    exact ⟨hg0, Nat.le_trans (dig_len_mono (by omega)) hy, by rw [hG]; rfl, by rw [hG]; rfl⟩)
  have HC1 : Hid (sg ((G : Int) - 1) = 0 ↔ G = 1) := hid (by rw [hG]; exact gcd_one hd)
  obtain ⟨C, hC⟩ : ∃ C, C = sg ((G : Int) - 1) := ⟨_, rfl⟩
  have hCC : C = 0 ↔ G = 1 := by rw [hC]; exact HC1.out
  have HCC := hid hC
  obtain ⟨sx, hsx⟩ : ∃ sx, sx = sg n := ⟨_, rfl⟩
  have HSX := hid hsx
  rw [← hsx] at hu ⊢
  have HU : Hid (∀ W', Below w.heap.size w W' → WideAt W' (.agg #[.int .i64 sx, .slice ao lx cap]) n (fun b => b ≠ w.heap.size + 1 + 1 ∧ (b < w.heap.size → N b))) := hid (fun W' h => hu.mono h (fun b hlt hb => ⟨by omega, fun _ => hb⟩))
  have HV : Hid (∀ W', Below w.heap.size w W' → WideAt W' (.agg #[.int .i64 1, .slice bo ly cap2]) d (fun b => b ≠ w.heap.size + 1 + 1 ∧ (b < w.heap.size → N b))) := hid (fun W' h => hv.mono h (fun b hlt hb => ⟨by omega, fun _ => hb⟩))
  have HXY := hid (And.intro hx hy)
  have HNN := hid hN
  have HGG := hid hG
  obtain ⟨W, hW⟩ : ∃ W, W = ((w.alloc (.cells #[.int .i64 sx, .slice ao lx cap] 51)).alloc (.cells #[.int .i64 1, .slice bo ly cap2] 51)).alloc (.cells #[.int .i64 0, .slice none 0 0, .int .i64 0, .slice none 0 0] 53) := ⟨_, rfl⟩
  have hzW : W.heap.size = w.heap.size + 1 + 1 + 1 := by rw [hW]; simp
  have hBW : Below w.heap.size w W := by rw [hW]; (repeat (with_reducible first | exact Below.refl _ _ | assumption | refine Below.drewN _ ?_ | refine Below.drew ?_ | refine Below_alloc ?_ _ | refine Below.alloc ?_ (by first | (simp; done) | (simp; omega) | omega) _ | refine Below.setCell ?_ (by first | (simp; done) | (simp; omega) | omega) _ | refine Below_call ?_ (by assumption) | refine Below.trans ?_ (by assumption)))
  have HNB : Hid (∀ W' : World, W.heap.size ≤ W'.heap.size → ∀ b, W'.heap.size ≤ b → b ≠ w.heap.size + 1 + 1 ∧ (b < w.heap.size → N b)) := hid (fun W' h b hb => ⟨by omega, fun h => by omega⟩)
  obtain ⟨q0, q1, q2⟩ := alloc3 w _ _ _ _ _ _ W hW
  have HQ := hid (And.intro q0 (And.intro q1 q2))
  obtain ⟨a0, a1, fa0, fa1, hl0⟩ := two_cells q0
  obtain ⟨b0, b1, fb0, fb1, hl1⟩ := two_cells q1
  have hl2 := row_lt q2
  clear q0 q1 q2 hu hv hsd hsx hx hy hN hG hC hg0 hg1 hg2 hg3 hg4 hg5 hGd fa0 fa1 fb0 fb1
  go_enter Try.func127, Try.ntmps127
  go_wp2_with (first | (go_at_call 141; rw [← hW]; refine (base_WideSign _ _ _).mono ?_; rintro _ w1 ⟨rfl, hb1⟩; have HB1 := hid hb1; have hz1 : W.heap.size ≤ w1.heap.size := hb1.size; clear a0 a1 b0 b1; obtain ⟨a0, a1, fa0, fa1, hl0'⟩ := two_cells ((hb1.block w.heap.size hl0).trans HQ.out.1); obtain ⟨b0, b1, fb0, fb1, hl1'⟩ := two_cells ((hb1.block (w.heap.size + 1) hl1).trans HQ.out.2.1)) | (go_at_call 142; refine (base_wideGcd n d _ _ _ _ (HNB.out _ (by exact hz1)) (HU.out _ (by (repeat (with_reducible first | exact Below.refl _ _ | assumption | refine Below.drewN _ ?_ | refine Below.drew ?_ | refine Below_alloc ?_ _ | refine Below.alloc ?_ (by first | (simp; done) | (simp; omega) | omega) _ | refine Below.setCell ?_ (by first | (simp; done) | (simp; omega) | omega) _ | refine Below_call ?_ (by assumption) | refine Below.trans ?_ (by assumption))))) (HV.out _ (by (repeat (with_reducible first | exact Below.refl _ _ | assumption | refine Below.drewN _ ?_ | refine Below.drew ?_ | refine Below_alloc ?_ _ | refine Below.alloc ?_ (by first | (simp; done) | (simp; omega) | omega) _ | refine Below.setCell ?_ (by first | (simp; done) | (simp; omega) | omega) _ | refine Below_call ?_ (by assumption) | refine Below.trans ?_ (by assumption))))) (by have := HXY.out.1; omega) (by have := HXY.out.2; omega)).mono ?_; rintro _ w2 ⟨r2, rfl, hw2, hb2⟩; rw [← HGG.out] at hw2; obtain ⟨ro2, rn2, rc2, rfl⟩ := hw2.shape; have HW2 := hid hw2; clear hw2; have hz2 : w1.heap.size ≤ w2.heap.size := hb2.size))
  obtain ⟨sG, hsG⟩ : ∃ sG, sG = sg (G : Int) := ⟨_, rfl⟩
  rw [← hsG]
  have HSG := hid hsG
  obtain ⟨W3, hW3⟩ : ∃ W3, W3 = w2.alloc (.cells #[.int .i64 sG, .slice ro2 rn2 rc2] 51) := ⟨_, rfl⟩
  rw [← hW3]
  have q3 : W3.heap[w2.heap.size]? = some (.cells #[.int .i64 sG, .slice ro2 rn2 rc2] 51 (0, 0)) := by rw [hW3]; exact heap_alloc_new w2 _
  have hz3 : W3.heap.size = w2.heap.size + 1 := by rw [hW3]; simp
  have hb3 : Below W.heap.size W W3 := by rw [hW3]; (repeat (with_reducible first | exact Below.refl _ _ | assumption | refine Below.drewN _ ?_ | refine Below.drew ?_ | refine Below_alloc ?_ _ | refine Below.alloc ?_ (by first | (simp; done) | (simp; omega) | omega) _ | refine Below.setCell ?_ (by first | (simp; done) | (simp; omega) | omega) _ | refine Below_call ?_ (by assumption) | refine Below.trans ?_ (by assumption)))
  have HGW : Hid (∀ W', Below W3.heap.size W3 W' → WideAt W' (.agg #[.int .i64 sG, .slice ro2 rn2 rc2]) G (fun b => b ≠ w.heap.size + 1 + 1 ∧ (b < w.heap.size → N b))) := hid (fun W' h => by
    have h2 := HW2.out
    rw [← HSG.out] at h2
    exact h2.mono ((by rw [hW3]; exact (Below.refl _ _).alloc (Nat.le_refl _) _ : Below w2.heap.size w2 W3).trans (h.mono (by omega))) (fun _ _ h => h))
  have HQ3 := hid (And.intro ((hb3.block w.heap.size hl0).trans HQ.out.1) (And.intro ((hb3.block (w.heap.size + 1) hl1).trans HQ.out.2.1) (And.intro ((hb3.block (w.heap.size + 1 + 1) hl2).trans HQ.out.2.2) q3)))
  have HB3 := hid hb3
  have hbw3 : Below w.heap.size w W3 := by (repeat (with_reducible first | exact Below.refl _ _ | assumption | refine Below.drewN _ ?_ | refine Below.drew ?_ | refine Below_alloc ?_ _ | refine Below.alloc ?_ (by first | (simp; done) | (simp; omega) | omega) _ | refine Below.setCell ?_ (by first | (simp; done) | (simp; omega) | omega) _ | refine Below_call ?_ (by assumption) | refine Below.trans ?_ (by assumption)))
  clear hW3 hsG q3 hb3 a0 a1 b0 b1 fa0 fa1 fb0 fb1 hb1 hb2
  obtain ⟨g0, g1, fg0, fg1, hlg⟩ := two_cells HQ3.out.2.2.2
  have hl03 : w.heap.size < W3.heap.size := row_lt HQ3.out.1
  have hl13 : w.heap.size + 1 < W3.heap.size := row_lt HQ3.out.2.1
  have hl23 : w.heap.size + 1 + 1 < W3.heap.size := row_lt HQ3.out.2.2.1
  have hWW3 : W.heap.size ≤ W3.heap.size := by omega
  have HCM : Hid (∀ (W' : World) (r : Value) (M : Nat → Prop), WideAt W' r 1 M → Below W3.heap.size W3 W' → Calls Try.prog 143 #[.agg #[.int .i64 sG, .slice ro2 rn2 rc2], r] W' fun e w' => e = .returned (.int .i64 C) ∧ Below W'.heap.size W' w') := hid (fun W' r M h1 h2 => by
    rw [HCC.out]
    exact base_WideCmp G 1 _ _ W' (fun _ => True) ((HGW.out W' h2).mono (Below.refl _ _) (fun _ _ _ => trivial)) (h1.mono (Below.refl _ _) (fun _ _ _ => trivial)) (by have := HG.out.2.1; omega) (by rw [show (1 : Int).natAbs = 1 from rfl]; have := dig_small (n := 1) (by omega); omega))
  by_cases hC0 : C = 0
  · subst hC0
    have HG1 : Hid (G = 1) := hid (hCC.1 rfl)
    clear hCC
    refine wp_mixC (fun wc => Below (W3.heap.size) W3 wc) 4 [.q [0], .f [1, 2], .q [3]] [] (by kernel_rfl) (by kernel_rfl) ((Below.refl _ _).drew) ?_
    intro Q' hQ'
    (rw [wpMixC]; simp only [pick, List.drop_succ_cons, List.drop_zero, List.head?_cons, Option.toList_some, List.cons_append, List.nil_append])
    (repeat (first | go_big_quiet_skip | (go_big_quiet_want; refine quiet_simple rfl ?_; go_big_quiet_op; go_big_quiet_on) | (go_big_quiet_want; refine quiet_agg2B (ty := 51) rfl rfl (by kernel_rfl) (by assumption) (by assumption) (by first | omega | (simp; omega)) ?_; simp only [Act.put, List.setIfInBounds_toArray, List.set_cons_succ, List.set_cons_zero]; go_big_quiet_on)))
    (try refine wpQuiet_nil ?_)
    (rw [wpMixC]; simp only [pick, List.drop_succ_cons, List.drop_zero, List.head?_cons, Option.toList_some, List.cons_append, List.nil_append])
    (rw [wpSteps]; go_wp2_with ((go_at_call 126; refine (base_WideOf 1 _ (fun _ => True) (fun _ _ => trivial) (by omega) (by omega)).mono ?_; rintro _ w4 ⟨r4, rfl, hw4, hb4⟩; obtain ⟨ro4, rn4, rc4, rfl⟩ := hw4.shape; have HW4 := hid hw4; clear hw4; have HB4 := hid hb4; have hz4 : W3.heap.size ≤ w4.heap.size := hb4.size)); rw [contF]; refine ⟨?_, ?_⟩; (next => (repeat (with_reducible first | exact Below.refl _ _ | assumption | refine Below.drewN _ ?_ | refine Below.drew ?_ | refine Below_alloc ?_ _ | refine Below.alloc ?_ (by first | (simp; done) | (simp; omega) | omega) _ | refine Below.setCell ?_ (by first | (simp; done) | (simp; omega) | omega) _ | refine Below_call ?_ (by assumption) | refine Below.trans ?_ (by assumption)))))
    (rw [wpSteps]; go_wp2_with ((go_at_call 143; refine (HCM.out _ _ _ HW4.out (by (repeat (with_reducible first | exact Below.refl _ _ | assumption | refine Below.drewN _ ?_ | refine Below.drew ?_ | refine Below_alloc ?_ _ | refine Below.alloc ?_ (by first | (simp; done) | (simp; omega) | omega) _ | refine Below.setCell ?_ (by first | (simp; done) | (simp; omega) | omega) _ | refine Below_call ?_ (by assumption) | refine Below.trans ?_ (by assumption))))).mono ?_; rintro _ w5 ⟨rfl, hb5⟩; have HB5 := hid hb5; have hz5 : w4.heap.size ≤ w5.heap.size := hb5.size; obtain ⟨a0, a1, fa0, fa1, hl05⟩ := two_cells ((hb5.block w.heap.size (Nat.lt_of_lt_of_le hl03 hz4)).trans ((HB4.out.block w.heap.size hl03).trans HQ3.out.1)); obtain ⟨b0, b1, fb0, fb1, hl15⟩ := two_cells ((hb5.block (w.heap.size + 1) (Nat.lt_of_lt_of_le hl13 hz4)).trans ((HB4.out.block (w.heap.size + 1) hl13).trans HQ3.out.2.1)); obtain ⟨c0, c1, c2, c3, fc0, fc1, fc2, fc3, hl25⟩ := four_cells ((hb5.block (w.heap.size + 1 + 1) (Nat.lt_of_lt_of_le hl23 hz4)).trans ((HB4.out.block (w.heap.size + 1 + 1) hl23).trans HQ3.out.2.2.1)))); rw [contF]; refine ⟨?_, ?_⟩; (next => (repeat (with_reducible first | exact Below.refl _ _ | assumption | refine Below.drewN _ ?_ | refine Below.drew ?_ | refine Below_alloc ?_ _ | refine Below.alloc ?_ (by first | (simp; done) | (simp; omega) | omega) _ | refine Below.setCell ?_ (by first | (simp; done) | (simp; omega) | omega) _ | refine Below_call ?_ (by assumption) | refine Below.trans ?_ (by assumption)))))
    (rw [wpSteps])
    (rw [wpMixC]; simp only [pick, List.drop_succ_cons, List.drop_zero, List.head?_cons, Option.toList_some, List.cons_append, List.nil_append])
    (repeat (first | go_big_quiet_skip | (go_big_quiet_want; refine quiet_simple rfl ?_; go_big_quiet_op; go_big_quiet_on) | (go_big_quiet_want; refine quiet_agg2B (ty := 51) rfl rfl (by kernel_rfl) (by assumption) (by assumption) (by first | omega | (simp; omega)) ?_; simp only [Act.put, List.setIfInBounds_toArray, List.set_cons_succ, List.set_cons_zero]; go_big_quiet_on)))
    (try refine wpQuiet_nil ?_)
    (rw [wpMixC])
    (rw [wpMix])
    (refine hQ' _ _ ?_)
    go_wp2_with fail
    ((try simp only [Exit.inBlock, Exit.then]); refine bodyPost_ret (v := .agg #[.int .i64 sx, .slice ao lx cap, .int .i64 1, .slice bo ly cap2]) ?_ rfl ?_; (next => simp [results, Try.results127, go_sem, hl25, c0, c1, c2, c3]))
    rw [HG.out.2.2.1, HG.out.2.2.2, HG1.out, show ((1 : Nat) : Int) = 1 from rfl, Int.ediv_one, Int.ediv_one]
    exact ⟨_, rfl, ⟨_, _, _, _, rfl, (HU.out _ (by (repeat (with_reducible first | exact Below.refl _ _ | assumption | refine Below.drewN _ ?_ | refine Below.drew ?_ | refine Below_alloc ?_ _ | refine Below.alloc ?_ (by first | (simp; done) | (simp; omega) | omega) _ | refine Below.setCell ?_ (by first | (simp; done) | (simp; omega) | omega) _ | refine Below_call ?_ (by assumption) | refine Below.trans ?_ (by assumption))))).set4 (fun b h => ⟨h.1, by rcases Nat.lt_or_ge b w.heap.size with h1 | h1; exact h.2 h1; exact HNN.out b h1⟩) _ _ _ _, (HV.out _ (by (repeat (with_reducible first | exact Below.refl _ _ | assumption | refine Below.drewN _ ?_ | refine Below.drew ?_ | refine Below_alloc ?_ _ | refine Below.alloc ?_ (by first | (simp; done) | (simp; omega) | omega) _ | refine Below.setCell ?_ (by first | (simp; done) | (simp; omega) | omega) _ | refine Below_call ?_ (by assumption) | refine Below.trans ?_ (by assumption))))).set4 (fun b h => ⟨h.1, by rcases Nat.lt_or_ge b w.heap.size with h1 | h1; exact h.2 h1; exact HNN.out b h1⟩) _ _ _ _⟩, by (repeat (with_reducible first | exact Below.refl _ _ | assumption | refine Below.drewN _ ?_ | refine Below.drew ?_ | refine Below_alloc ?_ _ | refine Below.alloc ?_ (by first | (simp; done) | (simp; omega) | omega) _ | refine Below.setCell ?_ (by first | (simp; done) | (simp; omega) | omega) _ | refine Below_call ?_ (by assumption) | refine Below.trans ?_ (by assumption)))⟩
  · clear hCC
    refine wp_mixC (fun wc => Below (W3.heap.size) W3 wc) 4 [.q [0], .f [1, 2], .q [3]] [] (by kernel_rfl) (by kernel_rfl) ((Below.refl _ _).drew) ?_
    intro Q' hQ'
    (rw [wpMixC]; simp only [pick, List.drop_succ_cons, List.drop_zero, List.head?_cons, Option.toList_some, List.cons_append, List.nil_append])
    (repeat (first | go_big_quiet_skip | (go_big_quiet_want; refine quiet_simple rfl ?_; go_big_quiet_op; go_big_quiet_on) | (go_big_quiet_want; refine quiet_agg2B (ty := 51) rfl rfl (by kernel_rfl) (by assumption) (by assumption) (by first | omega | (simp; omega)) ?_; simp only [Act.put, List.setIfInBounds_toArray, List.set_cons_succ, List.set_cons_zero]; go_big_quiet_on)))
    (try refine wpQuiet_nil ?_)
    (rw [wpMixC]; simp only [pick, List.drop_succ_cons, List.drop_zero, List.head?_cons, Option.toList_some, List.cons_append, List.nil_append])
    (rw [wpSteps]; go_wp2_with ((go_at_call 126; refine (base_WideOf 1 _ (fun _ => True) (fun _ _ => trivial) (by omega) (by omega)).mono ?_; rintro _ w4 ⟨r4, rfl, hw4, hb4⟩; obtain ⟨ro4, rn4, rc4, rfl⟩ := hw4.shape; have HW4 := hid hw4; clear hw4; have HB4 := hid hb4; have hz4 : W3.heap.size ≤ w4.heap.size := hb4.size)); rw [contF]; refine ⟨?_, ?_⟩; (next => (repeat (with_reducible first | exact Below.refl _ _ | assumption | refine Below.drewN _ ?_ | refine Below.drew ?_ | refine Below_alloc ?_ _ | refine Below.alloc ?_ (by first | (simp; done) | (simp; omega) | omega) _ | refine Below.setCell ?_ (by first | (simp; done) | (simp; omega) | omega) _ | refine Below_call ?_ (by assumption) | refine Below.trans ?_ (by assumption)))))
    (rw [wpSteps]; go_wp2_with ((go_at_call 143; refine (HCM.out _ _ _ HW4.out (by (repeat (with_reducible first | exact Below.refl _ _ | assumption | refine Below.drewN _ ?_ | refine Below.drew ?_ | refine Below_alloc ?_ _ | refine Below.alloc ?_ (by first | (simp; done) | (simp; omega) | omega) _ | refine Below.setCell ?_ (by first | (simp; done) | (simp; omega) | omega) _ | refine Below_call ?_ (by assumption) | refine Below.trans ?_ (by assumption))))).mono ?_; rintro _ w5 ⟨rfl, hb5⟩; have HB5 := hid hb5; have hz5 : w4.heap.size ≤ w5.heap.size := hb5.size; clear g0 g1 fg0 fg1; have HQ5 := hid (And.intro ((hb5.block w.heap.size (Nat.lt_of_lt_of_le hl03 hz4)).trans ((HB4.out.block w.heap.size hl03).trans HQ3.out.1)) (And.intro ((hb5.block (w.heap.size + 1) (Nat.lt_of_lt_of_le hl13 hz4)).trans ((HB4.out.block (w.heap.size + 1) hl13).trans HQ3.out.2.1)) (And.intro ((hb5.block (w.heap.size + 1 + 1) (Nat.lt_of_lt_of_le hl23 hz4)).trans ((HB4.out.block (w.heap.size + 1 + 1) hl23).trans HQ3.out.2.2.1)) ((hb5.block w2.heap.size (Nat.lt_of_lt_of_le hlg hz4)).trans ((HB4.out.block w2.heap.size hlg).trans HQ3.out.2.2.2))))); obtain ⟨a0, a1, fa0, fa1, hl05⟩ := two_cells HQ5.out.1; obtain ⟨b0, b1, fb0, fb1, hl15⟩ := two_cells HQ5.out.2.1; obtain ⟨c0, c1, c2, c3, fc0, fc1, fc2, fc3, hl25⟩ := four_cells HQ5.out.2.2.1; obtain ⟨g0, g1, fg0, fg1, hlg5⟩ := two_cells HQ5.out.2.2.2)); rw [contF]; refine ⟨?_, ?_⟩; (next => (repeat (with_reducible first | exact Below.refl _ _ | assumption | refine Below.drewN _ ?_ | refine Below.drew ?_ | refine Below_alloc ?_ _ | refine Below.alloc ?_ (by first | (simp; done) | (simp; omega) | omega) _ | refine Below.setCell ?_ (by first | (simp; done) | (simp; omega) | omega) _ | refine Below_call ?_ (by assumption) | refine Below.trans ?_ (by assumption)))))
    (rw [wpSteps])
    (rw [wpMixC]; simp only [pick, List.drop_succ_cons, List.drop_zero, List.head?_cons, Option.toList_some, List.cons_append, List.nil_append])
    (repeat (first | go_big_quiet_skip | (go_big_quiet_want; refine quiet_simple rfl ?_; go_big_quiet_op; go_big_quiet_on) | (go_big_quiet_want; refine quiet_agg2B (ty := 51) rfl rfl (by kernel_rfl) (by assumption) (by assumption) (by first | omega | (simp; omega)) ?_; simp only [Act.put, List.setIfInBounds_toArray, List.set_cons_succ, List.set_cons_zero]; go_big_quiet_on)))
    (try refine wpQuiet_nil ?_)
    (rw [wpMixC])
    (rw [wpMix])
    (refine hQ' _ _ ?_)
    go_wp2_with fail
    have hb35 : Below W3.heap.size W3 w5 := by (repeat (with_reducible first | exact Below.refl _ _ | assumption | refine Below.drewN _ ?_ | refine Below.drew ?_ | refine Below_alloc ?_ _ | refine Below.alloc ?_ (by first | (simp; done) | (simp; omega) | omega) _ | refine Below.setCell ?_ (by first | (simp; done) | (simp; omega) | omega) _ | refine Below_call ?_ (by assumption) | refine Below.trans ?_ (by assumption)))
    have hbw5 : Below w.heap.size w w5 := by (repeat (with_reducible first | exact Below.refl _ _ | assumption | refine Below.drewN _ ?_ | refine Below.drew ?_ | refine Below_alloc ?_ _ | refine Below.alloc ?_ (by first | (simp; done) | (simp; omega) | omega) _ | refine Below.setCell ?_ (by first | (simp; done) | (simp; omega) | omega) _ | refine Below_call ?_ (by assumption) | refine Below.trans ?_ (by assumption)))
    have hWW5 : W.heap.size ≤ w5.heap.size := by omega
    have HFL : Hid (∀ (W' : World) (x : Int) (r : Value), WideAt W' r x (fun b => b ≠ w.heap.size + 1 + 1 ∧ (b < w.heap.size → N b)) → (dig x.natAbs).length ≤ 40000 → Below w5.heap.size w5 W' → Calls Try.prog 144 #[r, .agg #[.int .i64 sG, .slice ro2 rn2 rc2]] W' (RetWide W' (x / (G : Int)) (fun b => b ≠ w.heap.size + 1 + 1 ∧ (b < w.heap.size → N b)))) := hid (fun W' x r h1 h2 h3 => base_WideFloor x G _ _ W' _ (HNB.out W' (Nat.le_trans hWW5 h3.size)) h1 (HGW.out W' (hb35.trans (h3.mono (by omega)))) HG.out.1 (by omega) (by have := HG.out.2.1; omega))
    clear hb4 hb5
    refine wp_mixC (fun wc => Below (w5.heap.size) w5 wc) 7 [.q [0, 1, 3, 4], .f [2, 5], .q [6]] [.f [7]] (by kernel_rfl) (by kernel_rfl) ((Below.refl _ _).drew) ?_
    intro Q' hQ'
    (rw [wpMixC]; simp only [pick, List.drop_succ_cons, List.drop_zero, List.head?_cons, Option.toList_some, List.cons_append, List.nil_append])
    (repeat (first | go_big_quiet_skip | (go_big_quiet_want; refine quiet_simple rfl ?_; go_big_quiet_op; go_big_quiet_on) | (go_big_quiet_want; refine quiet_agg2B (ty := 51) rfl rfl (by kernel_rfl) (by assumption) (by assumption) (by first | omega | (simp; omega)) ?_; simp only [Act.put, List.setIfInBounds_toArray, List.set_cons_succ, List.set_cons_zero]; go_big_quiet_on)))
    (try refine wpQuiet_nil ?_)
    (rw [wpMixC]; simp only [pick, List.drop_succ_cons, List.drop_zero, List.head?_cons, Option.toList_some, List.cons_append, List.nil_append])
    (rw [wpSteps]; go_wp2_with ((first | (go_at_call 144; (with_reducible refine (HFL.out _ n _ (HU.out _ (by (repeat (with_reducible first | exact Below.refl _ _ | assumption | refine Below.drewN _ ?_ | refine Below.drew ?_ | refine Below_alloc ?_ _ | refine Below.alloc ?_ (by first | (simp; done) | (simp; omega) | omega) _ | refine Below.setCell ?_ (by first | (simp; done) | (simp; omega) | omega) _ | refine Below_call ?_ (by assumption) | refine Below.trans ?_ (by assumption))))) HXY.out.1 (by (repeat (with_reducible first | exact Below.refl _ _ | assumption | refine Below.drewN _ ?_ | refine Below.drew ?_ | refine Below_alloc ?_ _ | refine Below.alloc ?_ (by first | (simp; done) | (simp; omega) | omega) _ | refine Below.setCell ?_ (by first | (simp; done) | (simp; omega) | omega) _ | refine Below_call ?_ (by assumption) | refine Below.trans ?_ (by assumption))))).mono ?_); rintro _ w6 ⟨r6, rfl, hw6, hb6⟩; obtain ⟨ro6, rn6, rc6, rfl⟩ := hw6.shape; have HW6 := hid hw6; clear hw6; have HB6 := hid hb6; have hz6 : w5.heap.size ≤ w6.heap.size := hb6.size) | (go_at_call 144; (with_reducible refine (HFL.out _ d _ (HV.out _ (by (repeat (with_reducible first | exact Below.refl _ _ | assumption | refine Below.drewN _ ?_ | refine Below.drew ?_ | refine Below_alloc ?_ _ | refine Below.alloc ?_ (by first | (simp; done) | (simp; omega) | omega) _ | refine Below.setCell ?_ (by first | (simp; done) | (simp; omega) | omega) _ | refine Below_call ?_ (by assumption) | refine Below.trans ?_ (by assumption))))) HXY.out.2 (by (repeat (with_reducible first | exact Below.refl _ _ | assumption | refine Below.drewN _ ?_ | refine Below.drew ?_ | refine Below_alloc ?_ _ | refine Below.alloc ?_ (by first | (simp; done) | (simp; omega) | omega) _ | refine Below.setCell ?_ (by first | (simp; done) | (simp; omega) | omega) _ | refine Below_call ?_ (by assumption) | refine Below.trans ?_ (by assumption))))).mono ?_); rintro _ w7 ⟨r7, rfl, hw7, hb7⟩; obtain ⟨ro7, rn7, rc7, rfl⟩ := hw7.shape; have HW7 := hid hw7; clear hw7; have HB7 := hid hb7; obtain ⟨c0, c1, c2, c3, fc0, fc1, fc2, fc3, hl27⟩ := four_cells ((hb7.block (w.heap.size + 1 + 1) (Nat.lt_of_lt_of_le hl25 hz6)).trans ((HB6.out.block (w.heap.size + 1 + 1) hl25).trans HQ5.out.2.2.1))))); rw [contF]; refine ⟨?_, ?_⟩; (next => (repeat (with_reducible first | exact Below.refl _ _ | assumption | refine Below.drewN _ ?_ | refine Below.drew ?_ | refine Below_alloc ?_ _ | refine Below.alloc ?_ (by first | (simp; done) | (simp; omega) | omega) _ | refine Below.setCell ?_ (by first | (simp; done) | (simp; omega) | omega) _ | refine Below_call ?_ (by assumption) | refine Below.trans ?_ (by assumption)))))
    (rw [wpSteps]; go_wp2_with ((first | (go_at_call 144; (with_reducible refine (HFL.out _ n _ (HU.out _ (by (repeat (with_reducible first | exact Below.refl _ _ | assumption | refine Below.drewN _ ?_ | refine Below.drew ?_ | refine Below_alloc ?_ _ | refine Below.alloc ?_ (by first | (simp; done) | (simp; omega) | omega) _ | refine Below.setCell ?_ (by first | (simp; done) | (simp; omega) | omega) _ | refine Below_call ?_ (by assumption) | refine Below.trans ?_ (by assumption))))) HXY.out.1 (by (repeat (with_reducible first | exact Below.refl _ _ | assumption | refine Below.drewN _ ?_ | refine Below.drew ?_ | refine Below_alloc ?_ _ | refine Below.alloc ?_ (by first | (simp; done) | (simp; omega) | omega) _ | refine Below.setCell ?_ (by first | (simp; done) | (simp; omega) | omega) _ | refine Below_call ?_ (by assumption) | refine Below.trans ?_ (by assumption))))).mono ?_); rintro _ w6 ⟨r6, rfl, hw6, hb6⟩; obtain ⟨ro6, rn6, rc6, rfl⟩ := hw6.shape; have HW6 := hid hw6; clear hw6; have HB6 := hid hb6; have hz6 : w5.heap.size ≤ w6.heap.size := hb6.size) | (go_at_call 144; (with_reducible refine (HFL.out _ d _ (HV.out _ (by (repeat (with_reducible first | exact Below.refl _ _ | assumption | refine Below.drewN _ ?_ | refine Below.drew ?_ | refine Below_alloc ?_ _ | refine Below.alloc ?_ (by first | (simp; done) | (simp; omega) | omega) _ | refine Below.setCell ?_ (by first | (simp; done) | (simp; omega) | omega) _ | refine Below_call ?_ (by assumption) | refine Below.trans ?_ (by assumption))))) HXY.out.2 (by (repeat (with_reducible first | exact Below.refl _ _ | assumption | refine Below.drewN _ ?_ | refine Below.drew ?_ | refine Below_alloc ?_ _ | refine Below.alloc ?_ (by first | (simp; done) | (simp; omega) | omega) _ | refine Below.setCell ?_ (by first | (simp; done) | (simp; omega) | omega) _ | refine Below_call ?_ (by assumption) | refine Below.trans ?_ (by assumption))))).mono ?_); rintro _ w7 ⟨r7, rfl, hw7, hb7⟩; obtain ⟨ro7, rn7, rc7, rfl⟩ := hw7.shape; have HW7 := hid hw7; clear hw7; have HB7 := hid hb7; obtain ⟨c0, c1, c2, c3, fc0, fc1, fc2, fc3, hl27⟩ := four_cells ((hb7.block (w.heap.size + 1 + 1) (Nat.lt_of_lt_of_le hl25 hz6)).trans ((HB6.out.block (w.heap.size + 1 + 1) hl25).trans HQ5.out.2.2.1))))); rw [contF]; refine ⟨?_, ?_⟩; (next => (repeat (with_reducible first | exact Below.refl _ _ | assumption | refine Below.drewN _ ?_ | refine Below.drew ?_ | refine Below_alloc ?_ _ | refine Below.alloc ?_ (by first | (simp; done) | (simp; omega) | omega) _ | refine Below.setCell ?_ (by first | (simp; done) | (simp; omega) | omega) _ | refine Below_call ?_ (by assumption) | refine Below.trans ?_ (by assumption)))))
    (rw [wpSteps])
    (rw [wpMixC]; simp only [pick, List.drop_succ_cons, List.drop_zero, List.head?_cons, Option.toList_some, List.cons_append, List.nil_append])
    (repeat (first | go_big_quiet_skip | (go_big_quiet_want; refine quiet_simple rfl ?_; go_big_quiet_op; go_big_quiet_on) | (go_big_quiet_want; refine quiet_agg2B (ty := 51) rfl rfl (by kernel_rfl) (by assumption) (by assumption) (by first | omega | (simp; omega)) ?_; simp only [Act.put, List.setIfInBounds_toArray, List.set_cons_succ, List.set_cons_zero]; go_big_quiet_on)))
    (try refine wpQuiet_nil ?_)
    (rw [wpMixC])
    (rw [wpMix]; simp only [pick, List.drop_succ_cons, List.drop_zero, List.head?_cons, Option.toList_some, List.cons_append, List.nil_append])
    (go_wp2_with ((first | fail)); rw [contF])
    (rw [wpMix])
    (refine hQ' _ _ ?_)
    go_wp2_with fail
    ((try simp only [Exit.inBlock, Exit.then]); refine bodyPost_ret (v := .agg #[.int .i64 (sg (n / (G : Int))), .slice ro6 rn6 rc6, .int .i64 (sg (d / (G : Int))), .slice ro7 rn7 rc7]) ?_ rfl ?_; (next => simp [results, Try.results127, go_sem, hl27, c0, c1, c2, c3]))
    rw [HG.out.2.2.1, HG.out.2.2.2]
    exact ⟨_, rfl, ⟨_, _, _, _, rfl, (HW6.out.mono HB7.out (fun _ _ h => h)).set4 (fun b h => ⟨h.1, by rcases Nat.lt_or_ge b w.heap.size with h1 | h1; exact h.2 h1; exact HNN.out b h1⟩) _ _ _ _, HW7.out.set4 (fun b h => ⟨h.1, by rcases Nat.lt_or_ge b w.heap.size with h1 | h1; exact h.2 h1; exact HNN.out b h1⟩) _ _ _ _⟩, by (repeat (with_reducible first | exact Below.refl _ _ | assumption | refine Below.drewN _ ?_ | refine Below.drew ?_ | refine Below_alloc ?_ _ | refine Below.alloc ?_ (by first | (simp; done) | (simp; omega) | omega) _ | refine Below.setCell ?_ (by first | (simp; done) | (simp; omega) | omega) _ | refine Below_call ?_ (by assumption) | refine Below.trans ?_ (by assumption)))⟩
end Go.Proofs.Ytlmdmpjfehpjeaa

/- Ratios made of numbers, added, multiplied, compared. -/
set_option linter.unusedVariables false
set_option linter.unusedSimpArgs false
namespace Go.Proofs.Ytlmdmpjfehpjeaa
open Go.RowKit

theorem dl_i64 {x : Int} (h1 : -9223372036854775808 ≤ x) (h2 : x ≤ 9223372036854775807) : (dig x.natAbs).length ≤ 3 := dl_small (by omega)
theorem RatAt.of {w : World} {a b c e : Value} {n d : Int} {N : Nat → Prop} (h1 : WideAt w (.agg #[a, b]) n N) (h2 : WideAt w (.agg #[c, e]) d N) : RatAt w (.agg #[a, b, c, e]) n d N := ⟨a, b, c, e, rfl, h1, h2⟩
theorem RatAt.set4 {w : World} {v : Value} {n d : Int} {N N' : Nat → Prop} {B : Nat} (h : RatAt w v n d N) (hN : ∀ b, N b → b ≠ B ∧ N' b) (x0 x1 x2 x3 : Value) :
    RatAt ((((w.setCell ⟨B, 0, none⟩ x0).setCell ⟨B, 1, none⟩ x1).setCell ⟨B, 2, none⟩ x2).setCell ⟨B, 3, none⟩ x3) v n d N' := by
  obtain ⟨a, b, c, e, rfl, h1, h2⟩ := h
  exact ⟨a, b, c, e, rfl, h1.set4 hN _ _ _ _, h2.set4 hN _ _ _ _⟩

set_option maxRecDepth 100000 in
set_option maxHeartbeats 1000000 in
theorem base_RatioOf (n d : Int) (w : World) (N : Nat → Prop) (hN : ∀ b, w.heap.size ≤ b → N b) (hd : 0 < d) (h1 : -9223372036854775807 ≤ n) (h2 : n ≤ 9223372036854775807) (h3 : d ≤ 9223372036854775807) :
    Calls Try.prog 88 #[.int .i64 n, .int .i64 d] w (RetRat w (rN n d) (rD n d) N) := by
  obtain ⟨W, hW⟩ : ∃ W, W = w.alloc (.cells #[.int .i64 0, .slice none 0 0, .int .i64 0, .slice none 0 0] 53) := ⟨_, rfl⟩
  have hzW : W.heap.size = w.heap.size + 1 := by rw [hW]; simp
  have hBW : Below w.heap.size w W := by rw [hW]; (repeat (with_reducible first | exact Below.refl _ _ | assumption | refine Below.drewN _ ?_ | refine Below.drew ?_ | refine Below_alloc ?_ _ | refine Below.alloc ?_ (by first | (simp; done) | (simp; omega) | omega) _ | refine Below.setCell ?_ (by first | (simp; done) | (simp; omega) | omega) _ | refine Below_call ?_ (by assumption) | refine Below.trans ?_ (by assumption)))
  have q0 : W.heap[w.heap.size]? = some (.cells #[.int .i64 0, .slice none 0 0, .int .i64 0, .slice none 0 0] 53 (0, 0)) := by rw [hW]; exact heap_alloc_new w _
  have HQ := hid q0
  have hl0 := row_lt q0
  have HNN := hid hN
  have HNB : Hid (∀ W' : World, W.heap.size ≤ W'.heap.size → ∀ b, W'.heap.size ≤ b → b ≠ w.heap.size ∧ (b < w.heap.size → N b)) := hid (fun W' h b hb => ⟨by omega, fun h => by omega⟩)
  have HD := hid hd
  have HL := hid (And.intro (dl_i64 (by omega) h2) (dl_i64 (x := d) (by omega) h3))
  clear q0 hN
  go_enter Try.func88, Try.ntmps88
  go_wp2_with (first | (go_at_call 126; rw [← hW]; refine (base_WideOf n _ _ (HNB.out _ (Nat.le_refl _)) h1 h2).mono ?_; rintro _ w1 ⟨r1, rfl, hw1, hb1⟩; obtain ⟨ro1, rn1, rc1, rfl⟩ := hw1.shape; have HW1 := hid hw1; clear hw1; have HB1 := hid hb1; have hz1 : W.heap.size ≤ w1.heap.size := hb1.size) | (go_at_call 126; refine (base_WideOf d _ _ (HNB.out _ (by exact hz1)) (by omega) h3).mono ?_; rintro _ w2 ⟨r2, rfl, hw2, hb2⟩; obtain ⟨ro2, rn2, rc2, rfl⟩ := hw2.shape; have HW2 := hid hw2; clear hw2; have HB2 := hid hb2; have hz2 : w1.heap.size ≤ w2.heap.size := hb2.size) | (go_at_call 127; refine (base_RatioMake n d _ _ _ _ (HNB.out _ (by exact Nat.le_trans hz1 hz2)) (HW1.out.mono HB2.out (fun _ _ h => h)) HW2.out HD.out (by have := HL.out.1; omega) (by have := HL.out.2; omega)).mono ?_; rintro _ w3 ⟨r3, rfl, hr3, hb3⟩; obtain ⟨ro3, rn3, rc3, so3, sn3, sc3, rfl, _, _⟩ := hr3.shape; have HR3 := hid hr3; clear hr3; obtain ⟨c0, c1, c2, c3, fc0, fc1, fc2, fc3, hl3⟩ := four_cells ((hb3.block w.heap.size (by omega)).trans ((HB2.out.block w.heap.size (by omega)).trans ((HB1.out.block w.heap.size hl0).trans HQ.out)))))
  ((try simp only [Exit.inBlock, Exit.then]); refine bodyPost_ret (v := .agg #[.int .i64 (sg (rN n d)), .slice ro3 rn3 rc3, .int .i64 (sg (rD n d)), .slice so3 sn3 sc3]) ?_ rfl ?_; (next => simp [results, Try.results88, go_sem, hl3, c0, c1, c2, c3]))
  exact ⟨_, rfl, HR3.out.set4 (fun b h => ⟨h.1, by rcases Nat.lt_or_ge b w.heap.size with h1 | h1; exact h.2 h1; exact HNN.out b h1⟩) _ _ _ _, by (repeat (with_reducible first | exact Below.refl _ _ | assumption | refine Below.drewN _ ?_ | refine Below.drew ?_ | refine Below_alloc ?_ _ | refine Below.alloc ?_ (by first | (simp; done) | (simp; omega) | omega) _ | refine Below.setCell ?_ (by first | (simp; done) | (simp; omega) | omega) _ | refine Below_call ?_ (by assumption) | refine Below.trans ?_ (by assumption)))⟩

set_option maxRecDepth 100000 in
set_option maxHeartbeats 1000000 in
theorem base_RatioInt (n : Int) (w : World) (N : Nat → Prop) (hN : ∀ b, w.heap.size ≤ b → N b) (h1 : -9223372036854775807 ≤ n) (h2 : n ≤ 9223372036854775807) :
    Calls Try.prog 87 #[.int .i64 n] w (RetRat w n 1 N) := by
  obtain ⟨W, hW⟩ : ∃ W, W = w.alloc (.cells #[.int .i64 0, .slice none 0 0, .int .i64 0, .slice none 0 0] 53) := ⟨_, rfl⟩
  have hzW : W.heap.size = w.heap.size + 1 := by rw [hW]; simp
  have hBW : Below w.heap.size w W := by rw [hW]; (repeat (with_reducible first | exact Below.refl _ _ | assumption | refine Below.drewN _ ?_ | refine Below.drew ?_ | refine Below_alloc ?_ _ | refine Below.alloc ?_ (by first | (simp; done) | (simp; omega) | omega) _ | refine Below.setCell ?_ (by first | (simp; done) | (simp; omega) | omega) _ | refine Below_call ?_ (by assumption) | refine Below.trans ?_ (by assumption)))
  have q0 : W.heap[w.heap.size]? = some (.cells #[.int .i64 0, .slice none 0 0, .int .i64 0, .slice none 0 0] 53 (0, 0)) := by rw [hW]; exact heap_alloc_new w _
  have HQ := hid q0
  have hl0 := row_lt q0
  have HNN := hid hN
  have HNB : Hid (∀ W' : World, W.heap.size ≤ W'.heap.size → ∀ b, W'.heap.size ≤ b → b ≠ w.heap.size ∧ (b < w.heap.size → N b)) := hid (fun W' h b hb => ⟨by omega, fun h => by omega⟩)
  clear q0 hN
  have tok1 : True := trivial
  go_enter Try.func87, Try.ntmps87
  go_wp2_with (first | (go_at_call 126; have _t := tok1; rw [← hW]; refine (base_WideOf n _ _ (HNB.out _ (Nat.le_refl _)) h1 h2).mono ?_; rintro _ w1 ⟨r1, rfl, hw1, hb1⟩; obtain ⟨ro1, rn1, rc1, rfl⟩ := hw1.shape; have HW1 := hid hw1; clear hw1 tok1; have HB1 := hid hb1; have hz1 : W.heap.size ≤ w1.heap.size := hb1.size) | (go_at_call 126; refine (base_WideOf 1 _ _ (HNB.out _ (by exact hz1)) (by omega) (by omega)).mono ?_; rintro _ w2 ⟨r2, rfl, hw2, hb2⟩; obtain ⟨ro2, rn2, rc2, rfl⟩ := hw2.shape; have HW2 := hid hw2; clear hw2; have HB2 := hid hb2; obtain ⟨c0, c1, c2, c3, fc0, fc1, fc2, fc3, hl3⟩ := four_cells ((hb2.block w.heap.size (by omega)).trans ((HB1.out.block w.heap.size hl0).trans HQ.out))))
  ((try simp only [Exit.inBlock, Exit.then]); refine bodyPost_ret (v := .agg #[.int .i64 (sg n), .slice ro1 rn1 rc1, .int .i64 (sg 1), .slice ro2 rn2 rc2]) ?_ rfl ?_; (next => simp [results, Try.results87, go_sem, hl3, c0, c1, c2, c3]))
  exact ⟨_, rfl, (RatAt.of (HW1.out.mono HB2.out (fun _ _ h => h)) HW2.out).set4 (fun b h => ⟨h.1, by rcases Nat.lt_or_ge b w.heap.size with h1 | h1; exact h.2 h1; exact HNN.out b h1⟩) _ _ _ _, by (repeat (with_reducible first | exact Below.refl _ _ | assumption | refine Below.drewN _ ?_ | refine Below.drew ?_ | refine Below_alloc ?_ _ | refine Below.alloc ?_ (by first | (simp; done) | (simp; omega) | omega) _ | refine Below.setCell ?_ (by first | (simp; done) | (simp; omega) | omega) _ | refine Below_call ?_ (by assumption) | refine Below.trans ?_ (by assumption)))⟩


set_option maxRecDepth 100000 in
set_option maxHeartbeats 1000000 in
theorem base_RatioNeg (n d : Int) (v : Value) (w : World) (N : Nat → Prop) (hN : ∀ b, w.heap.size ≤ b → N b) (hv : RatAt w v n d N) :
    Calls Try.prog 125 #[v] w (RetRat w (-n) d N) := by
  obtain ⟨ao, ka, ca, bo, kb, cb, rfl, h1, h2⟩ := hv.shape
  have hrn := sg_range n
  obtain ⟨s1, hs1⟩ : ∃ s1, s1 = sg n := ⟨_, rfl⟩
  obtain ⟨s2, hs2⟩ : ∃ s2, s2 = sg d := ⟨_, rfl⟩
  rw [← hs1] at h1 hrn ⊢
  rw [← hs2] at h2 ⊢
  have H1 : Hid (WideAt w (.agg #[.int .i64 (-s1), .slice ao ka ca]) (-n) N) := hid h1.neg
  have H2 := hid h2
  obtain ⟨W, hW⟩ : ∃ W, W = (w.alloc (.cells #[.int .i64 s1, .slice ao ka ca, .int .i64 s2, .slice bo kb cb] 53)).alloc (.cells #[.int .i64 0, .slice none 0 0, .int .i64 0, .slice none 0 0] 53) := ⟨_, rfl⟩
  have hzW : W.heap.size = w.heap.size + 1 + 1 := by rw [hW]; simp
  have hBW : Below w.heap.size w W := by rw [hW]; (repeat (with_reducible first | exact Below.refl _ _ | assumption | refine Below.drewN _ ?_ | refine Below.drew ?_ | refine Below_alloc ?_ _ | refine Below.alloc ?_ (by first | (simp; done) | (simp; omega) | omega) _ | refine Below.setCell ?_ (by first | (simp; done) | (simp; omega) | omega) _ | refine Below_call ?_ (by assumption) | refine Below.trans ?_ (by assumption)))
  obtain ⟨q0, q1⟩ := alloc2r w _ _ _ _ W hW
  have HQ := hid q1
  have hl1 := row_lt q1
  obtain ⟨a0, a1, a2, a3, fa0, fa1, fa2, fa3, hl0⟩ := four_cells q0
  have HNN := hid hN
  have HBW := hid hBW
  clear q0 q1 hN h1 h2 hs1 hs2 hv
  go_enter Try.func125, Try.ntmps125
  go_wp2_with fail
  rw [← hW]
  clear hW
  refine wp_mixC (fun wc => Below (W.heap.size) W wc) 6 [.q [0, 1, 3, 4], .f [2], .q [5]] [.f [6]] (by kernel_rfl) (by kernel_rfl) ((Below.refl _ _).drew) ?_
  intro Q' hQ'
  (rw [wpMixC]; simp only [pick, List.drop_succ_cons, List.drop_zero, List.head?_cons, Option.toList_some, List.cons_append, List.nil_append])
  (repeat (first | go_big_quiet_skip | (go_big_quiet_want; refine quiet_simple rfl ?_; go_big_quiet_op; go_big_quiet_on) | (go_big_quiet_want; refine quiet_agg2B (ty := 51) rfl rfl (by kernel_rfl) (by assumption) (by assumption) (by first | omega | (simp; omega)) ?_; simp only [Act.put, List.setIfInBounds_toArray, List.set_cons_succ, List.set_cons_zero]; go_big_quiet_on)))
  (try refine wpQuiet_nil ?_)
  (rw [wpMixC]; simp only [pick, List.drop_succ_cons, List.drop_zero, List.head?_cons, Option.toList_some, List.cons_append, List.nil_append])
  (rw [wpSteps]; go_wp2_with ((go_at_call 138; refine (base_WideNeg _ _ _ _ _ hrn).mono ?_; rintro _ w3 ⟨rfl, hb3⟩; have HB3 := hid hb3; obtain ⟨c0, c1, c2, c3, fc0, fc1, fc2, fc3, hl3⟩ := four_cells ((hb3.block (w.heap.size + 1) hl1).trans HQ.out))); rw [contF]; refine ⟨?_, ?_⟩; (next => (repeat (with_reducible first | exact Below.refl _ _ | assumption | refine Below.drewN _ ?_ | refine Below.drew ?_ | refine Below_alloc ?_ _ | refine Below.alloc ?_ (by first | (simp; done) | (simp; omega) | omega) _ | refine Below.setCell ?_ (by first | (simp; done) | (simp; omega) | omega) _ | refine Below_call ?_ (by assumption) | refine Below.trans ?_ (by assumption)))))
  (rw [wpSteps])
  (rw [wpMixC]; simp only [pick, List.drop_succ_cons, List.drop_zero, List.head?_cons, Option.toList_some, List.cons_append, List.nil_append])
  (repeat (first | go_big_quiet_skip | (go_big_quiet_want; refine quiet_simple rfl ?_; go_big_quiet_op; go_big_quiet_on) | (go_big_quiet_want; refine quiet_agg2B (ty := 51) rfl rfl (by kernel_rfl) (by assumption) (by assumption) (by first | omega | (simp; omega)) ?_; simp only [Act.put, List.setIfInBounds_toArray, List.set_cons_succ, List.set_cons_zero]; go_big_quiet_on)))
  (try refine wpQuiet_nil ?_)
  (rw [wpMixC])
  (rw [wpMix]; simp only [pick, List.drop_succ_cons, List.drop_zero, List.head?_cons, Option.toList_some, List.cons_append, List.nil_append])
  (go_wp2_with ((go_at_call 138; refine (base_WideNeg _ _ _ _ _ hrn).mono ?_; rintro _ w3 ⟨rfl, hb3⟩; have HB3 := hid hb3; obtain ⟨c0, c1, c2, c3, fc0, fc1, fc2, fc3, hl3⟩ := four_cells ((hb3.block (w.heap.size + 1) hl1).trans HQ.out))); rw [contF])
  (rw [wpMix])
  (refine hQ' _ _ ?_)
  go_wp2_with fail
  ((try simp only [Exit.inBlock, Exit.then]); refine bodyPost_ret (v := .agg #[.int .i64 (-s1), .slice ao ka ca, .int .i64 s2, .slice bo kb cb]) ?_ rfl ?_; (next => simp [results, Try.results125, go_sem, hl3, c0, c1, c2, c3]))
  have hb : Below w.heap.size w w3 := by (repeat (with_reducible first | exact Below.refl _ _ | assumption | refine Below.drewN _ ?_ | refine Below.drew ?_ | refine Below_alloc ?_ _ | refine Below.alloc ?_ (by first | (simp; done) | (simp; omega) | omega) _ | refine Below.setCell ?_ (by first | (simp; done) | (simp; omega) | omega) _ | refine Below_call ?_ (by assumption) | refine Below.trans ?_ (by assumption)))
  exact ⟨_, rfl, (RatAt.of (H1.out.mono hb (N' := fun b => b ≠ w.heap.size + 1 ∧ N b) (fun b h h' => ⟨by omega, h'⟩)) (H2.out.mono hb (fun b h h' => ⟨by omega, h'⟩))).set4 (fun b h => h) _ _ _ _, by (repeat (with_reducible first | exact Below.refl _ _ | assumption | refine Below.drewN _ ?_ | refine Below.drew ?_ | refine Below_alloc ?_ _ | refine Below.alloc ?_ (by first | (simp; done) | (simp; omega) | omega) _ | refine Below.setCell ?_ (by first | (simp; done) | (simp; omega) | omega) _ | refine Below_call ?_ (by assumption) | refine Below.trans ?_ (by assumption)))⟩
end Go.Proofs.Ytlmdmpjfehpjeaa

