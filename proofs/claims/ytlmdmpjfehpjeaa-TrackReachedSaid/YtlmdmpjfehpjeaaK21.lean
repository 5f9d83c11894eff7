/- Ratios added, multiplied, compared. -/
import Derived.Test.YtlmdmpjfehpjeaaK20
import Derived.Test.YtlmdmpjfehpjeaaK9
set_option linter.unusedVariables false
set_option linter.unusedSimpArgs false
namespace Go.Proofs.Ytlmdmpjfehpjeaa
open Go.RowKit


set_option maxRecDepth 100000 in
set_option maxHeartbeats 4000000 in
theorem base_RatioAdd (n1 d1 n2 d2 : Int) (u v : Value) (w : World) (N : Nat → Prop) (hN : ∀ b, w.heap.size ≤ b → N b) (hu : RatAt w u n1 d1 N) (hv : RatAt w v n2 d2 N) (hd1 : 0 < d1) (hd2 : 0 < d2)
    (ln1 : (dig n1.natAbs).length ≤ 9000) (ld1 : (dig d1.natAbs).length ≤ 9000) (ln2 : (dig n2.natAbs).length ≤ 9000) (ld2 : (dig d2.natAbs).length ≤ 9000) :
    Calls Try.prog 124 #[u, v] w (RetRat w (rN (n1 * d2 + n2 * d1) (d1 * d2)) (rD (n1 * d2 + n2 * d1) (d1 * d2)) N) := by
  obtain ⟨ao, ka, ca, bo, kb, cb, rfl, h1, h2⟩ := hu.shape
  obtain ⟨eo, ke, ce, fo, kf, cf, rfl, h3, h4⟩ := hv.shape
  obtain ⟨s1, hs0⟩ : ∃ s1, s1 = sg n1 := ⟨_, rfl⟩
  rw [← hs0] at h1 ⊢
  obtain ⟨s2, hs1⟩ : ∃ s2, s2 = sg d1 := ⟨_, rfl⟩
  rw [← hs1] at h2 ⊢
  obtain ⟨s3, hs2⟩ : ∃ s3, s3 = sg n2 := ⟨_, rfl⟩
  rw [← hs2] at h3 ⊢
  obtain ⟨s4, hs3⟩ : ∃ s4, s4 = sg d2 := ⟨_, rfl⟩
  rw [← hs3] at h4 ⊢
  have H1 : Hid (∀ W', Below w.heap.size w W' → WideAt W' (.agg #[.int .i64 s1, .slice ao ka ca]) n1 (fun b => b ≠ w.heap.size + 1 + 1 ∧ (b < w.heap.size → N b))) := hid (fun W' h => h1.mono h (fun b hlt hb => ⟨by omega, fun _ => hb⟩))
  have H2 : Hid (∀ W', Below w.heap.size w W' → WideAt W' (.agg #[.int .i64 s2, .slice bo kb cb]) d1 (fun b => b ≠ w.heap.size + 1 + 1 ∧ (b < w.heap.size → N b))) := hid (fun W' h => h2.mono h (fun b hlt hb => ⟨by omega, fun _ => hb⟩))
  have H3 : Hid (∀ W', Below w.heap.size w W' → WideAt W' (.agg #[.int .i64 s3, .slice eo ke ce]) n2 (fun b => b ≠ w.heap.size + 1 + 1 ∧ (b < w.heap.size → N b))) := hid (fun W' h => h3.mono h (fun b hlt hb => ⟨by omega, fun _ => hb⟩))
  have H4 : Hid (∀ W', Below w.heap.size w W' → WideAt W' (.agg #[.int .i64 s4, .slice fo kf cf]) d2 (fun b => b ≠ w.heap.size + 1 + 1 ∧ (b < w.heap.size → N b))) := hid (fun W' h => h4.mono h (fun b hlt hb => ⟨by omega, fun _ => hb⟩))
  have HL := hid (And.intro ln1 (And.intro ld1 (And.intro ln2 ld2)))
  have HD := hid (And.intro hd1 (And.intro hd2 (Int.mul_pos hd1 hd2)))
  have HNN := hid hN
  obtain ⟨W, hW⟩ : ∃ W, W = ((w.alloc (.cells #[.int .i64 s1, .slice ao ka ca, .int .i64 s2, .slice bo kb cb] 53)).alloc (.cells #[.int .i64 s3, .slice eo ke ce, .int .i64 s4, .slice fo kf cf] 53)).alloc (.cells #[.int .i64 0, .slice none 0 0, .int .i64 0, .slice none 0 0] 53) := ⟨_, rfl⟩
  have hzW : W.heap.size = w.heap.size + 1 + 1 + 1 := by rw [hW]; simp
  have hBW : Below w.heap.size w W := by rw [hW]; (repeat (with_reducible first | exact Below.refl _ _ | assumption | refine Below.drewN _ ?_ | refine Below.drew ?_ | refine Below_alloc ?_ _ | refine Below.alloc ?_ (by first | (simp; done) | (simp; omega) | omega) _ | refine Below.setCell ?_ (by first | (simp; done) | (simp; omega) | omega) _ | refine Below_call ?_ (by assumption) | refine Below.trans ?_ (by assumption)))
  have HNB : Hid (∀ W' : World, W.heap.size ≤ W'.heap.size → ∀ b, W'.heap.size ≤ b → b ≠ w.heap.size + 1 + 1 ∧ (b < w.heap.size → N b)) := hid (fun W' h b hb => ⟨by omega, fun h => by omega⟩)
  obtain ⟨q0, q1, q2⟩ := alloc3 w _ _ _ _ _ _ W hW
  have HQ := hid q2
  have hl2 := row_lt q2
  obtain ⟨a0, a1, a2, a3, fa0, fa1, fa2, fa3, hl0⟩ := four_cells q0
  obtain ⟨b0, b1, b2, b3, fb0, fb1, fb2, fb3, hl1⟩ := four_cells q1
  clear q0 q1 q2 fa0 fa1 fa2 fa3 fb0 fb1 fb2 fb3 hu hv h1 h2 h3 h4 hs0 hs1 hs2 hs3 hN ln1 ld1 ln2 ld2 hd1 hd2
  have HLM := hid (And.intro (dlm n1 d2) (And.intro (dlm n2 d1) (dlm d1 d2)))
  have HLA : Hid ((dig (n1 * d2 + n2 * d1).natAbs).length ≤ 18001) := hid (dla _ _ (by have := HLM.out; have := HL.out; omega) (by have := HLM.out; have := HL.out; omega))
  have HSZ : ∀ W' : World, Below W.heap.size W W' → ∀ b, W'.heap.size ≤ b → (fun b => b ≠ w.heap.size + 1 + 1 ∧ (b < w.heap.size → N b)) b := fun W' h => HNB.out W' h.size
  have HSZ2 := hid HSZ
  clear HSZ
  have HMU : Hid (∀ (W' : World) (x y : Int) (r s : Value), WideAt W' r x (fun b => b ≠ w.heap.size + 1 + 1 ∧ (b < w.heap.size → N b)) → WideAt W' s y (fun b => b ≠ w.heap.size + 1 + 1 ∧ (b < w.heap.size → N b)) → (dig x.natAbs).length ≤ 20000 → (dig y.natAbs).length ≤ 20000 → Below W.heap.size W W' → Calls Try.prog 137 #[r, s] W' (RetWide W' (x * y) (fun b => b ≠ w.heap.size + 1 + 1 ∧ (b < w.heap.size → N b)))) := hid (fun W' x y r s h1 h2 h3 h4 h5 => base_WideMul x y r s W' _ (HSZ2.out W' h5) h1 h2 (by omega) (by omega))
  have HAD : Hid (∀ (W' : World) (x y : Int) (r s : Value), WideAt W' r x (fun b => b ≠ w.heap.size + 1 + 1 ∧ (b < w.heap.size → N b)) → WideAt W' s y (fun b => b ≠ w.heap.size + 1 + 1 ∧ (b < w.heap.size → N b)) → (dig x.natAbs).length ≤ 20000 → (dig y.natAbs).length ≤ 20000 → Below W.heap.size W W' → Calls Try.prog 136 #[r, s] W' (RetWide W' (x + y) (fun b => b ≠ w.heap.size + 1 + 1 ∧ (b < w.heap.size → N b)))) := hid (fun W' x y r s h1 h2 h3 h4 h5 => base_WideAdd x y r s W' _ (HSZ2.out W' h5) h1 h2 (by omega) (by omega))
  have HMK : Hid (∀ (W' : World) (x y : Int) (r s : Value), WideAt W' r x (fun b => b ≠ w.heap.size + 1 + 1 ∧ (b < w.heap.size → N b)) → WideAt W' s y (fun b => b ≠ w.heap.size + 1 + 1 ∧ (b < w.heap.size → N b)) → 0 < y → (dig x.natAbs).length ≤ 20000 → (dig y.natAbs).length ≤ 20000 → Below W.heap.size W W' → Calls Try.prog 127 #[r, s] W' (RetRat W' (rN x y) (rD x y) (fun b => b ≠ w.heap.size + 1 + 1 ∧ (b < w.heap.size → N b)))) := hid (fun W' x y r s h1 h2 h0 h3 h4 h5 => base_RatioMake x y r s W' _ (HSZ2.out W' h5) h1 h2 h0 (by omega) (by omega))
  go_enter Try.func124, Try.ntmps124
  go_wp2_with fail
  rw [← hW]
  clear hW
  refine wp_mixC (fun wc => Below (W.heap.size) W wc) 17 [.q [0, 1, 2, 3, 5, 6, 7, 8, 11, 12, 13, 14], .f [4, 9, 10, 15, 16]] [.f [17]] (by kernel_rfl) (by kernel_rfl) ((Below.refl _ _).drew) ?_
  intro Q' hQ'
  (rw [wpMixC]; simp only [pick, List.drop_succ_cons, List.drop_zero, List.head?_cons, Option.toList_some, List.cons_append, List.nil_append])
  (repeat (first | go_big_quiet_skip | (go_big_quiet_want; refine quiet_simple rfl ?_; go_big_quiet_op; go_big_quiet_on) | (go_big_quiet_want; refine quiet_agg2B (ty := 51) rfl rfl (by kernel_rfl) (by assumption) (by assumption) (by first | omega | (simp; omega)) ?_; simp only [Act.put, List.setIfInBounds_toArray, List.set_cons_succ, List.set_cons_zero]; go_big_quiet_on)))
  (try refine wpQuiet_nil ?_)
  (rw [wpMixC]; simp only [pick, List.drop_succ_cons, List.drop_zero, List.head?_cons, Option.toList_some, List.cons_append, List.nil_append])
  (rw [wpSteps]; go_wp2_with ((first | (go_at_call 137; ((with_reducible refine (HMU.out _ n1 d2 _ _ (H1.out _ (by (repeat (with_reducible first | exact Below.refl _ _ | assumption | refine Below.drewN _ ?_ | refine Below.drew ?_ | refine Below_alloc ?_ _ | refine Below.alloc ?_ (by first | (simp; done) | (simp; omega) | omega) _ | refine Below.setCell ?_ (by first | (simp; done) | (simp; omega) | omega) _ | refine Below_call ?_ (by assumption) | refine Below.trans ?_ (by assumption))))) (H4.out _ (by (repeat (with_reducible first | exact Below.refl _ _ | assumption | refine Below.drewN _ ?_ | refine Below.drew ?_ | refine Below_alloc ?_ _ | refine Below.alloc ?_ (by first | (simp; done) | (simp; omega) | omega) _ | refine Below.setCell ?_ (by first | (simp; done) | (simp; omega) | omega) _ | refine Below_call ?_ (by assumption) | refine Below.trans ?_ (by assumption))))) (by have := HL.out; omega) (by have := HL.out; omega) (by (repeat (with_reducible first | exact Below.refl _ _ | assumption | refine Below.drewN _ ?_ | refine Below.drew ?_ | refine Below_alloc ?_ _ | refine Below.alloc ?_ (by first | (simp; done) | (simp; omega) | omega) _ | refine Below.setCell ?_ (by first | (simp; done) | (simp; omega) | omega) _ | refine Below_call ?_ (by assumption) | refine Below.trans ?_ (by assumption))))).mono ?_); rintro _ w5 ⟨r5, rfl, hw5, hb5⟩); obtain ⟨ro5, rn5, rc5, rfl⟩ := hw5.shape; have HW5 := hid hw5; clear hw5; have HB5 := hid hb5; have hz5 : W.heap.size ≤ w5.heap.size := hb5.size) | (go_at_call 137; ((with_reducible refine (HMU.out _ n2 d1 _ _ (H3.out _ (by (repeat (with_reducible first | exact Below.refl _ _ | assumption | refine Below.drewN _ ?_ | refine Below.drew ?_ | refine Below_alloc ?_ _ | refine Below.alloc ?_ (by first | (simp; done) | (simp; omega) | omega) _ | refine Below.setCell ?_ (by first | (simp; done) | (simp; omega) | omega) _ | refine Below_call ?_ (by assumption) | refine Below.trans ?_ (by assumption))))) (H2.out _ (by (repeat (with_reducible first | exact Below.refl _ _ | assumption | refine Below.drewN _ ?_ | refine Below.drew ?_ | refine Below_alloc ?_ _ | refine Below.alloc ?_ (by first | (simp; done) | (simp; omega) | omega) _ | refine Below.setCell ?_ (by first | (simp; done) | (simp; omega) | omega) _ | refine Below_call ?_ (by assumption) | refine Below.trans ?_ (by assumption))))) (by have := HL.out; omega) (by have := HL.out; omega) (by (repeat (with_reducible first | exact Below.refl _ _ | assumption | refine Below.drewN _ ?_ | refine Below.drew ?_ | refine Below_alloc ?_ _ | refine Below.alloc ?_ (by first | (simp; done) | (simp; omega) | omega) _ | refine Below.setCell ?_ (by first | (simp; done) | (simp; omega) | omega) _ | refine Below_call ?_ (by assumption) | refine Below.trans ?_ (by assumption))))).mono ?_); rintro _ w6 ⟨r6, rfl, hw6, hb6⟩); obtain ⟨ro6, rn6, rc6, rfl⟩ := hw6.shape; have HW6 := hid hw6; clear hw6; have HB6 := hid hb6; have hz6 : w5.heap.size ≤ w6.heap.size := hb6.size) | (go_at_call 137; ((with_reducible refine (HMU.out _ d1 d2 _ _ (H2.out _ (by (repeat (with_reducible first | exact Below.refl _ _ | assumption | refine Below.drewN _ ?_ | refine Below.drew ?_ | refine Below_alloc ?_ _ | refine Below.alloc ?_ (by first | (simp; done) | (simp; omega) | omega) _ | refine Below.setCell ?_ (by first | (simp; done) | (simp; omega) | omega) _ | refine Below_call ?_ (by assumption) | refine Below.trans ?_ (by assumption))))) (H4.out _ (by (repeat (with_reducible first | exact Below.refl _ _ | assumption | refine Below.drewN _ ?_ | refine Below.drew ?_ | refine Below_alloc ?_ _ | refine Below.alloc ?_ (by first | (simp; done) | (simp; omega) | omega) _ | refine Below.setCell ?_ (by first | (simp; done) | (simp; omega) | omega) _ | refine Below_call ?_ (by assumption) | refine Below.trans ?_ (by assumption))))) (by have := HL.out; omega) (by have := HL.out; omega) (by (repeat (with_reducible first | exact Below.refl _ _ | assumption | refine Below.drewN _ ?_ | refine Below.drew ?_ | refine Below_alloc ?_ _ | refine Below.alloc ?_ (by first | (simp; done) | (simp; omega) | omega) _ | refine Below.setCell ?_ (by first | (simp; done) | (simp; omega) | omega) _ | refine Below_call ?_ (by assumption) | refine Below.trans ?_ (by assumption))))).mono ?_); rintro _ w8 ⟨r8, rfl, hw8, hb8⟩); obtain ⟨ro8, rn8, rc8, rfl⟩ := hw8.shape; have HW8 := hid hw8; clear hw8; have HB8 := hid hb8; have hz8 : w7.heap.size ≤ w8.heap.size := hb8.size))); rw [contF]; refine ⟨?_, ?_⟩; (next => (repeat (with_reducible first | exact Below.refl _ _ | assumption | refine Below.drewN _ ?_ | refine Below.drew ?_ | refine Below_alloc ?_ _ | refine Below.alloc ?_ (by first | (simp; done) | (simp; omega) | omega) _ | refine Below.setCell ?_ (by first | (simp; done) | (simp; omega) | omega) _ | refine Below_call ?_ (by assumption) | refine Below.trans ?_ (by assumption)))))
  (rw [wpSteps]; go_wp2_with ((first | (go_at_call 137; ((with_reducible refine (HMU.out _ n1 d2 _ _ (H1.out _ (by (repeat (with_reducible first | exact Below.refl _ _ | assumption | refine Below.drewN _ ?_ | refine Below.drew ?_ | refine Below_alloc ?_ _ | refine Below.alloc ?_ (by first | (simp; done) | (simp; omega) | omega) _ | refine Below.setCell ?_ (by first | (simp; done) | (simp; omega) | omega) _ | refine Below_call ?_ (by assumption) | refine Below.trans ?_ (by assumption))))) (H4.out _ (by (repeat (with_reducible first | exact Below.refl _ _ | assumption | refine Below.drewN _ ?_ | refine Below.drew ?_ | refine Below_alloc ?_ _ | refine Below.alloc ?_ (by first | (simp; done) | (simp; omega) | omega) _ | refine Below.setCell ?_ (by first | (simp; done) | (simp; omega) | omega) _ | refine Below_call ?_ (by assumption) | refine Below.trans ?_ (by assumption))))) (by have := HL.out; omega) (by have := HL.out; omega) (by (repeat (with_reducible first | exact Below.refl _ _ | assumption | refine Below.drewN _ ?_ | refine Below.drew ?_ | refine Below_alloc ?_ _ | refine Below.alloc ?_ (by first | (simp; done) | (simp; omega) | omega) _ | refine Below.setCell ?_ (by first | (simp; done) | (simp; omega) | omega) _ | refine Below_call ?_ (by assumption) | refine Below.trans ?_ (by assumption))))).mono ?_); rintro _ w5 ⟨r5, rfl, hw5, hb5⟩); obtain ⟨ro5, rn5, rc5, rfl⟩ := hw5.shape; have HW5 := hid hw5; clear hw5; have HB5 := hid hb5; have hz5 : W.heap.size ≤ w5.heap.size := hb5.size) | (go_at_call 137; ((with_reducible refine (HMU.out _ n2 d1 _ _ (H3.out _ (by (repeat (with_reducible first | exact Below.refl _ _ | assumption | refine Below.drewN _ ?_ | refine Below.drew ?_ | refine Below_alloc ?_ _ | refine Below.alloc ?_ (by first | (simp; done) | (simp; omega) | omega) _ | refine Below.setCell ?_ (by first | (simp; done) | (simp; omega) | omega) _ | refine Below_call ?_ (by assumption) | refine Below.trans ?_ (by assumption))))) (H2.out _ (by (repeat (with_reducible first | exact Below.refl _ _ | assumption | refine Below.drewN _ ?_ | refine Below.drew ?_ | refine Below_alloc ?_ _ | refine Below.alloc ?_ (by first | (simp; done) | (simp; omega) | omega) _ | refine Below.setCell ?_ (by first | (simp; done) | (simp; omega) | omega) _ | refine Below_call ?_ (by assumption) | refine Below.trans ?_ (by assumption))))) (by have := HL.out; omega) (by have := HL.out; omega) (by (repeat (with_reducible first | exact Below.refl _ _ | assumption | refine Below.drewN _ ?_ | refine Below.drew ?_ | refine Below_alloc ?_ _ | refine Below.alloc ?_ (by first | (simp; done) | (simp; omega) | omega) _ | refine Below.setCell ?_ (by first | (simp; done) | (simp; omega) | omega) _ | refine Below_call ?_ (by assumption) | refine Below.trans ?_ (by assumption))))).mono ?_); rintro _ w6 ⟨r6, rfl, hw6, hb6⟩); obtain ⟨ro6, rn6, rc6, rfl⟩ := hw6.shape; have HW6 := hid hw6; clear hw6; have HB6 := hid hb6; have hz6 : w5.heap.size ≤ w6.heap.size := hb6.size) | (go_at_call 137; ((with_reducible refine (HMU.out _ d1 d2 _ _ (H2.out _ (by (repeat (with_reducible first | exact Below.refl _ _ | assumption | refine Below.drewN _ ?_ | refine Below.drew ?_ | refine Below_alloc ?_ _ | refine Below.alloc ?_ (by first | (simp; done) | (simp; omega) | omega) _ | refine Below.setCell ?_ (by first | (simp; done) | (simp; omega) | omega) _ | refine Below_call ?_ (by assumption) | refine Below.trans ?_ (by assumption))))) (H4.out _ (by (repeat (with_reducible first | exact Below.refl _ _ | assumption | refine Below.drewN _ ?_ | refine Below.drew ?_ | refine Below_alloc ?_ _ | refine Below.alloc ?_ (by first | (simp; done) | (simp; omega) | omega) _ | refine Below.setCell ?_ (by first | (simp; done) | (simp; omega) | omega) _ | refine Below_call ?_ (by assumption) | refine Below.trans ?_ (by assumption))))) (by have := HL.out; omega) (by have := HL.out; omega) (by (repeat (with_reducible first | exact Below.refl _ _ | assumption | refine Below.drewN _ ?_ | refine Below.drew ?_ | refine Below_alloc ?_ _ | refine Below.alloc ?_ (by first | (simp; done) | (simp; omega) | omega) _ | refine Below.setCell ?_ (by first | (simp; done) | (simp; omega) | omega) _ | refine Below_call ?_ (by assumption) | refine Below.trans ?_ (by assumption))))).mono ?_); rintro _ w8 ⟨r8, rfl, hw8, hb8⟩); obtain ⟨ro8, rn8, rc8, rfl⟩ := hw8.shape; have HW8 := hid hw8; clear hw8; have HB8 := hid hb8; have hz8 : w7.heap.size ≤ w8.heap.size := hb8.size))); rw [contF]; refine ⟨?_, ?_⟩; (next => (repeat (with_reducible first | exact Below.refl _ _ | assumption | refine Below.drewN _ ?_ | refine Below.drew ?_ | refine Below_alloc ?_ _ | refine Below.alloc ?_ (by first | (simp; done) | (simp; omega) | omega) _ | refine Below.setCell ?_ (by first | (simp; done) | (simp; omega) | omega) _ | refine Below_call ?_ (by assumption) | refine Below.trans ?_ (by assumption)))))
  (rw [wpSteps]; go_wp2_with ((go_at_call 136; ((with_reducible refine (HAD.out _ (n1 * d2) (n2 * d1) _ _ (HW5.out.mono (by (repeat (with_reducible first | exact Below.refl _ _ | assumption | refine Below.drewN _ ?_ | refine Below.drew ?_ | refine Below_alloc ?_ _ | refine Below.alloc ?_ (by first | (simp; done) | (simp; omega) | omega) _ | refine Below.setCell ?_ (by first | (simp; done) | (simp; omega) | omega) _ | refine Below_call ?_ (by assumption) | refine Below.trans ?_ (by assumption)))) (fun _ _ h => h)) HW6.out (by have := HLM.out; have := HL.out; omega) (by have := HLM.out; have := HL.out; omega) (by (repeat (with_reducible first | exact Below.refl _ _ | assumption | refine Below.drewN _ ?_ | refine Below.drew ?_ | refine Below_alloc ?_ _ | refine Below.alloc ?_ (by first | (simp; done) | (simp; omega) | omega) _ | refine Below.setCell ?_ (by first | (simp; done) | (simp; omega) | omega) _ | refine Below_call ?_ (by assumption) | refine Below.trans ?_ (by assumption))))).mono ?_); rintro _ w7 ⟨r7, rfl, hw7, hb7⟩); obtain ⟨ro7, rn7, rc7, rfl⟩ := hw7.shape; have HW7 := hid hw7; clear hw7; have HB7 := hid hb7; have hz7 : w6.heap.size ≤ w7.heap.size := hb7.size)); rw [contF]; refine ⟨?_, ?_⟩; (next => (repeat (with_reducible first | exact Below.refl _ _ | assumption | refine Below.drewN _ ?_ | refine Below.drew ?_ | refine Below_alloc ?_ _ | refine Below.alloc ?_ (by first | (simp; done) | (simp; omega) | omega) _ | refine Below.setCell ?_ (by first | (simp; done) | (simp; omega) | omega) _ | refine Below_call ?_ (by assumption) | refine Below.trans ?_ (by assumption)))))
  (rw [wpSteps]; go_wp2_with ((first | (go_at_call 137; ((with_reducible refine (HMU.out _ n1 d2 _ _ (H1.out _ (by (repeat (with_reducible first | exact Below.refl _ _ | assumption | refine Below.drewN _ ?_ | refine Below.drew ?_ | refine Below_alloc ?_ _ | refine Below.alloc ?_ (by first | (simp; done) | (simp; omega) | omega) _ | refine Below.setCell ?_ (by first | (simp; done) | (simp; omega) | omega) _ | refine Below_call ?_ (by assumption) | refine Below.trans ?_ (by assumption))))) (H4.out _ (by (repeat (with_reducible first | exact Below.refl _ _ | assumption | refine Below.drewN _ ?_ | refine Below.drew ?_ | refine Below_alloc ?_ _ | refine Below.alloc ?_ (by first | (simp; done) | (simp; omega) | omega) _ | refine Below.setCell ?_ (by first | (simp; done) | (simp; omega) | omega) _ | refine Below_call ?_ (by assumption) | refine Below.trans ?_ (by assumption))))) (by have := HL.out; omega) (by have := HL.out; omega) (by (repeat (with_reducible first | exact Below.refl _ _ | assumption | refine Below.drewN _ ?_ | refine Below.drew ?_ | refine Below_alloc ?_ _ | refine Below.alloc ?_ (by first | (simp; done) | (simp; omega) | omega) _ | refine Below.setCell ?_ (by first | (simp; done) | (simp; omega) | omega) _ | refine Below_call ?_ (by assumption) | refine Below.trans ?_ (by assumption))))).mono ?_); rintro _ w5 ⟨r5, rfl, hw5, hb5⟩); obtain ⟨ro5, rn5, rc5, rfl⟩ := hw5.shape; have HW5 := hid hw5; clear hw5; have HB5 := hid hb5; have hz5 : W.heap.size ≤ w5.heap.size := hb5.size) | (go_at_call 137; ((with_reducible refine (HMU.out _ n2 d1 _ _ (H3.out _ (by (repeat (with_reducible first | exact Below.refl _ _ | assumption | refine Below.drewN _ ?_ | refine Below.drew ?_ | refine Below_alloc ?_ _ | refine Below.alloc ?_ (by first | (simp; done) | (simp; omega) | omega) _ | refine Below.setCell ?_ (by first | (simp; done) | (simp; omega) | omega) _ | refine Below_call ?_ (by assumption) | refine Below.trans ?_ (by assumption))))) (H2.out _ (by (repeat (with_reducible first | exact Below.refl _ _ | assumption | refine Below.drewN _ ?_ | refine Below.drew ?_ | refine Below_alloc ?_ _ | refine Below.alloc ?_ (by first | (simp; done) | (simp; omega) | omega) _ | refine Below.setCell ?_ (by first | (simp; done) | (simp; omega) | omega) _ | refine Below_call ?_ (by assumption) | refine Below.trans ?_ (by assumption))))) (by have := HL.out; omega) (by have := HL.out; omega) (by (repeat (with_reducible first | exact Below.refl _ _ | assumption | refine Below.drewN _ ?_ | refine Below.drew ?_ | refine Below_alloc ?_ _ | refine Below.alloc ?_ (by first | (simp; done) | (simp; omega) | omega) _ | refine Below.setCell ?_ (by first | (simp; done) | (simp; omega) | omega) _ | refine Below_call ?_ (by assumption) | refine Below.trans ?_ (by assumption))))).mono ?_); rintro _ w6 ⟨r6, rfl, hw6, hb6⟩); obtain ⟨ro6, rn6, rc6, rfl⟩ := hw6.shape; have HW6 := hid hw6; clear hw6; have HB6 := hid hb6; have hz6 : w5.heap.size ≤ w6.heap.size := hb6.size) | (go_at_call 137; ((with_reducible refine (HMU.out _ d1 d2 _ _ (H2.out _ (by (repeat (with_reducible first | exact Below.refl _ _ | assumption | refine Below.drewN _ ?_ | refine Below.drew ?_ | refine Below_alloc ?_ _ | refine Below.alloc ?_ (by first | (simp; done) | (simp; omega) | omega) _ | refine Below.setCell ?_ (by first | (simp; done) | (simp; omega) | omega) _ | refine Below_call ?_ (by assumption) | refine Below.trans ?_ (by assumption))))) (H4.out _ (by (repeat (with_reducible first | exact Below.refl _ _ | assumption | refine Below.drewN _ ?_ | refine Below.drew ?_ | refine Below_alloc ?_ _ | refine Below.alloc ?_ (by first | (simp; done) | (simp; omega) | omega) _ | refine Below.setCell ?_ (by first | (simp; done) | (simp; omega) | omega) _ | refine Below_call ?_ (by assumption) | refine Below.trans ?_ (by assumption))))) (by have := HL.out; omega) (by have := HL.out; omega) (by (repeat (with_reducible first | exact Below.refl _ _ | assumption | refine Below.drewN _ ?_ | refine Below.drew ?_ | refine Below_alloc ?_ _ | refine Below.alloc ?_ (by first | (simp; done) | (simp; omega) | omega) _ | refine Below.setCell ?_ (by first | (simp; done) | (simp; omega) | omega) _ | refine Below_call ?_ (by assumption) | refine Below.trans ?_ (by assumption))))).mono ?_); rintro _ w8 ⟨r8, rfl, hw8, hb8⟩); obtain ⟨ro8, rn8, rc8, rfl⟩ := hw8.shape; have HW8 := hid hw8; clear hw8; have HB8 := hid hb8; have hz8 : w7.heap.size ≤ w8.heap.size := hb8.size))); rw [contF]; refine ⟨?_, ?_⟩; (next => (repeat (with_reducible first | exact Below.refl _ _ | assumption | refine Below.drewN _ ?_ | refine Below.drew ?_ | refine Below_alloc ?_ _ | refine Below.alloc ?_ (by first | (simp; done) | (simp; omega) | omega) _ | refine Below.setCell ?_ (by first | (simp; done) | (simp; omega) | omega) _ | refine Below_call ?_ (by assumption) | refine Below.trans ?_ (by assumption)))))
  (rw [wpSteps]; go_wp2_with ((go_at_call 127; ((with_reducible refine (HMK.out _ (n1 * d2 + n2 * d1) (d1 * d2) _ _ (HW7.out.mono (by (repeat (with_reducible first | exact Below.refl _ _ | assumption | refine Below.drewN _ ?_ | refine Below.drew ?_ | refine Below_alloc ?_ _ | refine Below.alloc ?_ (by first | (simp; done) | (simp; omega) | omega) _ | refine Below.setCell ?_ (by first | (simp; done) | (simp; omega) | omega) _ | refine Below_call ?_ (by assumption) | refine Below.trans ?_ (by assumption)))) (fun _ _ h => h)) HW8.out HD.out.2.2 (by have := HLA.out; omega) (by have := HLM.out; have := HL.out; omega) (by (repeat (with_reducible first | exact Below.refl _ _ | assumption | refine Below.drewN _ ?_ | refine Below.drew ?_ | refine Below_alloc ?_ _ | refine Below.alloc ?_ (by first | (simp; done) | (simp; omega) | omega) _ | refine Below.setCell ?_ (by first | (simp; done) | (simp; omega) | omega) _ | refine Below_call ?_ (by assumption) | refine Below.trans ?_ (by assumption))))).mono ?_); rintro _ w9 ⟨r9, rfl, hw9, hb9⟩); obtain ⟨ro9, rn9, rc9, so9, sn9, sc9, rfl, _, _⟩ := hw9.shape; have HW9 := hid hw9; clear hw9; have HB9 := hid hb9; have hz9 : w8.heap.size ≤ w9.heap.size := hb9.size; obtain ⟨c0, c1, c2, c3, fc0, fc1, fc2, fc3, hlc⟩ := four_cells (((HB9.out.block (w.heap.size + 1 + 1) (Nat.lt_of_lt_of_le hl2 (Nat.le_trans (Nat.le_trans (Nat.le_trans (hz5) hz6) hz7) hz8))).trans ((HB8.out.block (w.heap.size + 1 + 1) (Nat.lt_of_lt_of_le hl2 (Nat.le_trans (Nat.le_trans (hz5) hz6) hz7))).trans ((HB7.out.block (w.heap.size + 1 + 1) (Nat.lt_of_lt_of_le hl2 (Nat.le_trans (hz5) hz6))).trans ((HB6.out.block (w.heap.size + 1 + 1) (Nat.lt_of_lt_of_le hl2 (hz5))).trans ((HB5.out.block (w.heap.size + 1 + 1) (hl2)).trans HQ.out)))))))); rw [contF]; refine ⟨?_, ?_⟩; (next => (repeat (with_reducible first | exact Below.refl _ _ | assumption | refine Below.drewN _ ?_ | refine Below.drew ?_ | refine Below_alloc ?_ _ | refine Below.alloc ?_ (by first | (simp; done) | (simp; omega) | omega) _ | refine Below.setCell ?_ (by first | (simp; done) | (simp; omega) | omega) _ | refine Below_call ?_ (by assumption) | refine Below.trans ?_ (by assumption)))))
  (rw [wpSteps])
  (rw [wpMixC])
  (rw [wpMix]; simp only [pick, List.drop_succ_cons, List.drop_zero, List.head?_cons, Option.toList_some, List.cons_append, List.nil_append])
  (go_wp2_with ((first | fail)); rw [contF])
  (rw [wpMix])
  (refine hQ' _ _ ?_)
  go_wp2_with fail
  ((try simp only [Exit.inBlock, Exit.then]); refine bodyPost_ret (v := .agg #[.int .i64 (sg (rN (n1 * d2 + n2 * d1) (d1 * d2))), .slice ro9 rn9 rc9, .int .i64 (sg (rD (n1 * d2 + n2 * d1) (d1 * d2))), .slice so9 sn9 sc9]) ?_ rfl ?_; (next => simp [results, Try.results124, go_sem, hlc, c0, c1, c2, c3]))
  exact ⟨_, rfl, HW9.out.set4 (fun b h => ⟨h.1, by rcases Nat.lt_or_ge b w.heap.size with h1 | h1; exact h.2 h1; exact HNN.out b h1⟩) _ _ _ _, by (repeat (with_reducible first | exact Below.refl _ _ | assumption | refine Below.drewN _ ?_ | refine Below.drew ?_ | refine Below_alloc ?_ _ | refine Below.alloc ?_ (by first | (simp; done) | (simp; omega) | omega) _ | refine Below.setCell ?_ (by first | (simp; done) | (simp; omega) | omega) _ | refine Below_call ?_ (by assumption) | refine Below.trans ?_ (by assumption)))⟩

set_option maxRecDepth 100000 in
set_option maxHeartbeats 4000000 in
theorem base_RatioSub (n1 d1 n2 d2 : Int) (u v : Value) (w : World) (N : Nat → Prop) (hN : ∀ b, w.heap.size ≤ b → N b) (hu : RatAt w u n1 d1 N) (hv : RatAt w v n2 d2 N) (hd1 : 0 < d1) (hd2 : 0 < d2)
    (ln1 : (dig n1.natAbs).length ≤ 9000) (ld1 : (dig d1.natAbs).length ≤ 9000) (ln2 : (dig n2.natAbs).length ≤ 9000) (ld2 : (dig d2.natAbs).length ≤ 9000) :
    Calls Try.prog 86 #[u, v] w (RetRat w (rN (n1 * d2 + -n2 * d1) (d1 * d2)) (rD (n1 * d2 + -n2 * d1) (d1 * d2)) N) := by
  obtain ⟨ao, ka, ca, bo, kb, cb, rfl, h1, h2⟩ := hu.shape
  obtain ⟨eo, ke, ce, fo, kf, cf, rfl, h3, h4⟩ := hv.shape
  obtain ⟨s1, hs0⟩ : ∃ s1, s1 = sg n1 := ⟨_, rfl⟩
  rw [← hs0] at h1 ⊢
  obtain ⟨s2, hs1⟩ : ∃ s2, s2 = sg d1 := ⟨_, rfl⟩
  rw [← hs1] at h2 ⊢
  obtain ⟨s3, hs2⟩ : ∃ s3, s3 = sg n2 := ⟨_, rfl⟩
  rw [← hs2] at h3 ⊢
  obtain ⟨s4, hs3⟩ : ∃ s4, s4 = sg d2 := ⟨_, rfl⟩
  rw [← hs3] at h4 ⊢
  have H1 : Hid (∀ W', Below w.heap.size w W' → WideAt W' (.agg #[.int .i64 s1, .slice ao ka ca]) n1 (fun b => b ≠ w.heap.size + 1 + 1 ∧ (b < w.heap.size → N b))) := hid (fun W' h => h1.mono h (fun b hlt hb => ⟨by omega, fun _ => hb⟩))
  have H2 : Hid (∀ W', Below w.heap.size w W' → WideAt W' (.agg #[.int .i64 s2, .slice bo kb cb]) d1 (fun b => b ≠ w.heap.size + 1 + 1 ∧ (b < w.heap.size → N b))) := hid (fun W' h => h2.mono h (fun b hlt hb => ⟨by omega, fun _ => hb⟩))
  have H3 : Hid (∀ W', Below w.heap.size w W' → WideAt W' (.agg #[.int .i64 s3, .slice eo ke ce]) n2 (fun b => b ≠ w.heap.size + 1 + 1 ∧ (b < w.heap.size → N b))) := hid (fun W' h => h3.mono h (fun b hlt hb => ⟨by omega, fun _ => hb⟩))
  have H4 : Hid (∀ W', Below w.heap.size w W' → WideAt W' (.agg #[.int .i64 s4, .slice fo kf cf]) d2 (fun b => b ≠ w.heap.size + 1 + 1 ∧ (b < w.heap.size → N b))) := hid (fun W' h => h4.mono h (fun b hlt hb => ⟨by omega, fun _ => hb⟩))
  have HL := hid (And.intro ln1 (And.intro ld1 (And.intro ln2 ld2)))
  have HD := hid (And.intro hd1 (And.intro hd2 (Int.mul_pos hd1 hd2)))
  have HNN := hid hN
  obtain ⟨W, hW⟩ : ∃ W, W = ((w.alloc (.cells #[.int .i64 s1, .slice ao ka ca, .int .i64 s2, .slice bo kb cb] 53)).alloc (.cells #[.int .i64 s3, .slice eo ke ce, .int .i64 s4, .slice fo kf cf] 53)).alloc (.cells #[.int .i64 0, .slice none 0 0, .int .i64 0, .slice none 0 0] 53) := ⟨_, rfl⟩
  have hzW : W.heap.size = w.heap.size + 1 + 1 + 1 := by rw [hW]; simp
  have hBW : Below w.heap.size w W := by rw [hW]; (repeat (with_reducible first | exact Below.refl _ _ | assumption | refine Below.drewN _ ?_ | refine Below.drew ?_ | refine Below_alloc ?_ _ | refine Below.alloc ?_ (by first | (simp; done) | (simp; omega) | omega) _ | refine Below.setCell ?_ (by first | (simp; done) | (simp; omega) | omega) _ | refine Below_call ?_ (by assumption) | refine Below.trans ?_ (by assumption)))
  have HNB : Hid (∀ W' : World, W.heap.size ≤ W'.heap.size → ∀ b, W'.heap.size ≤ b → b ≠ w.heap.size + 1 + 1 ∧ (b < w.heap.size → N b)) := hid (fun W' h b hb => ⟨by omega, fun h => by omega⟩)
  obtain ⟨q0, q1, q2⟩ := alloc3 w _ _ _ _ _ _ W hW
  have HQ := hid q2
  have hl2 := row_lt q2
  obtain ⟨a0, a1, a2, a3, fa0, fa1, fa2, fa3, hl0⟩ := four_cells q0
  obtain ⟨b0, b1, b2, b3, fb0, fb1, fb2, fb3, hl1⟩ := four_cells q1
  clear q0 q1 q2 fa0 fa1 fa2 fa3 fb0 fb1 fb2 fb3 hu hv h1 h2 h3 h4 hs0 hs1 hs2 hs3 hN ln1 ld1 ln2 ld2 hd1 hd2
  have HLN := hid (dln n2)
  have HSZ : ∀ W' : World, Below W.heap.size W W' → ∀ b, W'.heap.size ≤ b → (fun b => b ≠ w.heap.size + 1 + 1 ∧ (b < w.heap.size → N b)) b := fun W' h => HNB.out W' h.size
  have HSZ2 := hid HSZ
  clear HSZ
  have HMU : Hid (∀ (W' : World) (x y : Int) (r s : Value), WideAt W' r x (fun b => b ≠ w.heap.size + 1 + 1 ∧ (b < w.heap.size → N b)) → WideAt W' s y (fun b => b ≠ w.heap.size + 1 + 1 ∧ (b < w.heap.size → N b)) → (dig x.natAbs).length ≤ 20000 → (dig y.natAbs).length ≤ 20000 → Below W.heap.size W W' → Calls Try.prog 137 #[r, s] W' (RetWide W' (x * y) (fun b => b ≠ w.heap.size + 1 + 1 ∧ (b < w.heap.size → N b)))) := hid (fun W' x y r s h1 h2 h3 h4 h5 => base_WideMul x y r s W' _ (HSZ2.out W' h5) h1 h2 (by omega) (by omega))
  have HNG : Hid (∀ W', Below w.heap.size w W' → Below W.heap.size W W' → Calls Try.prog 125 #[.agg #[.int .i64 s3, .slice eo ke ce, .int .i64 s4, .slice fo kf cf]] W' (RetRat W' (-n2) d2 (fun b => b ≠ w.heap.size + 1 + 1 ∧ (b < w.heap.size → N b)))) := hid (fun W' h1 h2 => base_RatioNeg n2 d2 _ W' _ (HSZ2.out W' h2) (RatAt.of (H3.out _ h1) (H4.out _ h1)))
  have HRA : Hid (∀ W' r, RatAt W' r (-n2) d2 (fun b => b ≠ w.heap.size + 1 + 1 ∧ (b < w.heap.size → N b)) → Below w.heap.size w W' → Below W.heap.size W W' → Calls Try.prog 124 #[.agg #[.int .i64 s1, .slice ao ka ca, .int .i64 s2, .slice bo kb cb], r] W' (RetRat W' (rN (n1 * d2 + -n2 * d1) (d1 * d2)) (rD (n1 * d2 + -n2 * d1) (d1 * d2)) (fun b => b ≠ w.heap.size + 1 + 1 ∧ (b < w.heap.size → N b)))) := hid (fun W' r h0 h1 h2 => base_RatioAdd n1 d1 (-n2) d2 _ r W' _ (HSZ2.out W' h2) (RatAt.of (H1.out _ h1) (H2.out _ h1)) h0 HD.out.1 HD.out.2.1 (by have := HL.out; omega) (by have := HL.out; omega) (by have := HL.out; have := HLN.out; omega) (by have := HL.out; omega))
  go_enter Try.func86, Try.ntmps86
  go_wp2_with fail
  rw [← hW]
  clear hW
  refine wp_mixC (fun wc => Below (W.heap.size) W wc) 4 [.q [0, 1], .f [2, 3]] [.f [4]] (by kernel_rfl) (by kernel_rfl) ((Below.refl _ _).drew) ?_
  intro Q' hQ'
  (rw [wpMixC]; simp only [pick, List.drop_succ_cons, List.drop_zero, List.head?_cons, Option.toList_some, List.cons_append, List.nil_append])
  (repeat (first | go_big_quiet_skip | (go_big_quiet_want; refine quiet_simple rfl ?_; go_big_quiet_op; go_big_quiet_on) | (go_big_quiet_want; refine quiet_agg4B (ty := 53) rfl rfl (by kernel_rfl) (by assumption) (by assumption) (by assumption) (by assumption) (by first | omega | (simp; omega)) ?_; simp only [Act.put, List.setIfInBounds_toArray, List.set_cons_succ, List.set_cons_zero]; go_big_quiet_on)))
  (try refine wpQuiet_nil ?_)
  (rw [wpMixC]; simp only [pick, List.drop_succ_cons, List.drop_zero, List.head?_cons, Option.toList_some, List.cons_append, List.nil_append])
  (rw [wpSteps]; go_wp2_with ((go_at_call 125; ((with_reducible refine (HNG.out _ (by (repeat (with_reducible first | exact Below.refl _ _ | assumption | refine Below.drewN _ ?_ | refine Below.drew ?_ | refine Below_alloc ?_ _ | refine Below.alloc ?_ (by first | (simp; done) | (simp; omega) | omega) _ | refine Below.setCell ?_ (by first | (simp; done) | (simp; omega) | omega) _ | refine Below_call ?_ (by assumption) | refine Below.trans ?_ (by assumption)))) (by (repeat (with_reducible first | exact Below.refl _ _ | assumption | refine Below.drewN _ ?_ | refine Below.drew ?_ | refine Below_alloc ?_ _ | refine Below.alloc ?_ (by first | (simp; done) | (simp; omega) | omega) _ | refine Below.setCell ?_ (by first | (simp; done) | (simp; omega) | omega) _ | refine Below_call ?_ (by assumption) | refine Below.trans ?_ (by assumption))))).mono ?_); rintro _ w5 ⟨r5, rfl, hw5, hb5⟩); obtain ⟨ro5, rn5, rc5, so5, sn5, sc5, rfl, _, _⟩ := hw5.shape; have HW5 := hid hw5; clear hw5; have HB5 := hid hb5; have hz5 : W.heap.size ≤ w5.heap.size := hb5.size)); rw [contF]; refine ⟨?_, ?_⟩; (next => (repeat (with_reducible first | exact Below.refl _ _ | assumption | refine Below.drewN _ ?_ | refine Below.drew ?_ | refine Below_alloc ?_ _ | refine Below.alloc ?_ (by first | (simp; done) | (simp; omega) | omega) _ | refine Below.setCell ?_ (by first | (simp; done) | (simp; omega) | omega) _ | refine Below_call ?_ (by assumption) | refine Below.trans ?_ (by assumption)))))
  (rw [wpSteps]; go_wp2_with ((go_at_call 124; ((with_reducible refine (HRA.out _ _ HW5.out (by (repeat (with_reducible first | exact Below.refl _ _ | assumption | refine Below.drewN _ ?_ | refine Below.drew ?_ | refine Below_alloc ?_ _ | refine Below.alloc ?_ (by first | (simp; done) | (simp; omega) | omega) _ | refine Below.setCell ?_ (by first | (simp; done) | (simp; omega) | omega) _ | refine Below_call ?_ (by assumption) | refine Below.trans ?_ (by assumption)))) (by (repeat (with_reducible first | exact Below.refl _ _ | assumption | refine Below.drewN _ ?_ | refine Below.drew ?_ | refine Below_alloc ?_ _ | refine Below.alloc ?_ (by first | (simp; done) | (simp; omega) | omega) _ | refine Below.setCell ?_ (by first | (simp; done) | (simp; omega) | omega) _ | refine Below_call ?_ (by assumption) | refine Below.trans ?_ (by assumption))))).mono ?_); rintro _ w6 ⟨r6, rfl, hw6, hb6⟩); obtain ⟨ro6, rn6, rc6, so6, sn6, sc6, rfl, _, _⟩ := hw6.shape; have HW6 := hid hw6; clear hw6; have HB6 := hid hb6; have hz6 : w5.heap.size ≤ w6.heap.size := hb6.size; obtain ⟨c0, c1, c2, c3, fc0, fc1, fc2, fc3, hlc⟩ := four_cells (((HB6.out.block (w.heap.size + 1 + 1) (Nat.lt_of_lt_of_le hl2 (hz5))).trans ((HB5.out.block (w.heap.size + 1 + 1) (hl2)).trans HQ.out))))); rw [contF]; refine ⟨?_, ?_⟩; (next => (repeat (with_reducible first | exact Below.refl _ _ | assumption | refine Below.drewN _ ?_ | refine Below.drew ?_ | refine Below_alloc ?_ _ | refine Below.alloc ?_ (by first | (simp; done) | (simp; omega) | omega) _ | refine Below.setCell ?_ (by first | (simp; done) | (simp; omega) | omega) _ | refine Below_call ?_ (by assumption) | refine Below.trans ?_ (by assumption)))))
  (rw [wpSteps])
  (rw [wpMixC])
  (rw [wpMix]; simp only [pick, List.drop_succ_cons, List.drop_zero, List.head?_cons, Option.toList_some, List.cons_append, List.nil_append])
  (go_wp2_with ((first | fail)); rw [contF])
  (rw [wpMix])
  (refine hQ' _ _ ?_)
  go_wp2_with fail
  ((try simp only [Exit.inBlock, Exit.then]); refine bodyPost_ret (v := .agg #[.int .i64 (sg (rN (n1 * d2 + -n2 * d1) (d1 * d2))), .slice ro6 rn6 rc6, .int .i64 (sg (rD (n1 * d2 + -n2 * d1) (d1 * d2))), .slice so6 sn6 sc6]) ?_ rfl ?_; (next => simp [results, Try.results86, go_sem, hlc, c0, c1, c2, c3]))
  exact ⟨_, rfl, HW6.out.set4 (fun b h => ⟨h.1, by rcases Nat.lt_or_ge b w.heap.size with h1 | h1; exact h.2 h1; exact HNN.out b h1⟩) _ _ _ _, by (repeat (with_reducible first | exact Below.refl _ _ | assumption | refine Below.drewN _ ?_ | refine Below.drew ?_ | refine Below_alloc ?_ _ | refine Below.alloc ?_ (by first | (simp; done) | (simp; omega) | omega) _ | refine Below.setCell ?_ (by first | (simp; done) | (simp; omega) | omega) _ | refine Below_call ?_ (by assumption) | refine Below.trans ?_ (by assumption)))⟩


end Go.Proofs.Ytlmdmpjfehpjeaa

/- Small ratios as fractions. -/
set_option linter.unusedVariables false
set_option linter.unusedSimpArgs false
namespace Go.Proofs.Ytlmdmpjfehpjeaa
open Go.RowKit

theorem dig_two {z : Int} (h1 : -1000000000000000000 < z) (h2 : z < 1000000000000000000) : (dig z.natAbs).length ≤ 2 := dlen (by simp only [dpw]; omega)
/-- digits of a small number. -/
theorem dig_small_val (z : Int) : dval (dig z.natAbs) = z.natAbs := dval_dig _
set_option maxRecDepth 100000 in
set_option maxHeartbeats 2000000 in
theorem base_WideInt (z : Int) (v : Value) (w : World) (N : Nat → Prop) (hv : WideAt w v z N) (h1 : -1000000000000000000 < z) (h2 : z < 1000000000000000000) :
    Calls Try.prog 84 #[v] w fun e w' => e = .returned (.tuple #[.int .i64 z, .bool true]) ∧ Below w.heap.size w w' := by
  have hl := dig_two h1 h2
  have hd := isD_dig z.natAbs
  have hval := dig_small_val z
  have hsg : sg z * (z.natAbs : Int) = z := by
    unfold sg
    split
    · omega
    · split <;> omega
  have hrg := sg_range z
  obtain ⟨ao, cap, rfl, g⟩ := hv
  obtain ⟨ao', cap', ea, ha1, ha2, ha3⟩ := g.ints.opn
  cases ea
  clear g
  generalize sg z = s at hsg hrg ⊢
  generalize dig z.natAbs = l at *
  rcases (by omega : l.length = 0 ∨ l.length = 1 ∨ l.length = 2) with e | e | e
  · have hz : z = 0 := by
      have : l = [] := List.eq_nil_of_length_eq_zero e
      rw [this] at hval; simp [dval] at hval; omega
    have HZ := hid hz
    rw [e]
    clear hz hval hsg hd ha3
    go_enter Try.func84, Try.ntmps84
    go_wp2_with fail
    refine wp_loop_rounds 4 ?_
    repeat any_goals (rw [rounds_succ]; go_wp2_with fail)
    ((try simp only [Exit.inBlock, Exit.then]); refine bodyPost_ret (v := .tuple #[.int .i64 z, .bool true]) ?_ rfl ?_; (next => simp [results, Try.results84, go_sem, HZ.out]))
    exact ⟨rfl, by (repeat (with_reducible first | exact Below.refl _ _ | assumption | refine Below.drewN _ ?_ | refine Below.drew ?_ | refine Below_alloc ?_ _ | refine Below.alloc ?_ (by first | (simp; done) | (simp; omega) | omega) _ | refine Below.setCell ?_ (by first | (simp; done) | (simp; omega) | omega) _ | refine Below_call ?_ (by assumption) | refine Below.trans ?_ (by assumption)))⟩
  · obtain ⟨a, rfl⟩ : ∃ a, l = [a] := by
      match l, e with
      | [a], _ => exact ⟨a, rfl⟩
    simp only [List.length_cons, List.length_nil, Nat.zero_add, Nat.reduceAdd] at *
    obtain ⟨b, off, rfl, hb, hc⟩ := ha3 0 (by omega)
    have d0 := hc 0 (by omega)
    rw [show nth [a] 0 = a from rfl, Nat.add_zero] at d0
    have hd0 := hd a (by simp)
    have hv : a = (z.natAbs : Int) := by rw [← hval]; simp [dval]
    rw [← hv] at hsg
    have HSG := hid hsg
    have k1 : IntKind.i64.wrap (s * a) = z := by rw [hsg]; exact IntWalk.i64_in _ (by omega)
    clear hv hval hd ha3 hc
    go_enter Try.func84, Try.ntmps84
    go_wp2_with fail
    refine wp_loop_rounds 4 ?_
    repeat any_goals (rw [rounds_succ]; go_wp2_with fail)
    ((try simp only [Exit.inBlock, Exit.then]); refine bodyPost_ret (v := .tuple #[.int .i64 z, .bool true]) ?_ rfl ?_; (next => simp [results, Try.results84, go_sem]))
    exact ⟨rfl, by (repeat (with_reducible first | exact Below.refl _ _ | assumption | refine Below.drewN _ ?_ | refine Below.drew ?_ | refine Below_alloc ?_ _ | refine Below.alloc ?_ (by first | (simp; done) | (simp; omega) | omega) _ | refine Below.setCell ?_ (by first | (simp; done) | (simp; omega) | omega) _ | refine Below_call ?_ (by assumption) | refine Below.trans ?_ (by assumption)))⟩
  · obtain ⟨a, a1, rfl⟩ : ∃ a a1, l = [a, a1] := by
      match l, e with
      | [a, a1], _ => exact ⟨a, a1, rfl⟩
    simp only [List.length_cons, List.length_nil, Nat.zero_add, Nat.reduceAdd] at *
    obtain ⟨b, off, rfl, hb, hc⟩ := ha3 0 (by omega)
    have d0 := hc 0 (by omega)
    have d1 := hc 1 (by omega)
    rw [show nth [a, a1] 0 = a from rfl, Nat.add_zero] at d0
    rw [show nth [a, a1] 1 = a1 from rfl] at d1
    have hd0 := hd a (by simp)
    have hd1 := hd a1 (by simp)
    have hv : a1 * 1000000000 + a = (z.natAbs : Int) := by rw [← hval]; simp [dval]; omega
    rw [← hv] at hsg
    have HSG := hid hsg
    have k1 : IntKind.i64.wrap (s * (a1 * 1000000000 + a)) = z := by rw [hsg]; exact IntWalk.i64_in _ (by omega)
    clear hv hval hd ha3 hc
    go_enter Try.func84, Try.ntmps84
    go_wp2_with fail
    refine wp_loop_rounds 4 ?_
    repeat any_goals (rw [rounds_succ]; go_wp2_with fail)
    ((try simp only [Exit.inBlock, Exit.then]); refine bodyPost_ret (v := .tuple #[.int .i64 z, .bool true]) ?_ rfl ?_; (next => simp [results, Try.results84, go_sem]))
    exact ⟨rfl, by (repeat (with_reducible first | exact Below.refl _ _ | assumption | refine Below.drewN _ ?_ | refine Below.drew ?_ | refine Below_alloc ?_ _ | refine Below.alloc ?_ (by first | (simp; done) | (simp; omega) | omega) _ | refine Below.setCell ?_ (by first | (simp; done) | (simp; omega) | omega) _ | refine Below_call ?_ (by assumption) | refine Below.trans ?_ (by assumption)))⟩
end Go.Proofs.Ytlmdmpjfehpjeaa

/- Ratios as small fractions. -/
set_option linter.unusedVariables false
set_option linter.unusedSimpArgs false
namespace Go.Proofs.Ytlmdmpjfehpjeaa
open Go.RowKit

def smallB (n d : Int) : Bool := inB n (-1000000000) 1000000000 && inB d 1 1000000000
set_option maxRecDepth 100000 in
theorem base_IsSmall (n d : Int) (w : World) : Calls Try.prog 85 #[.agg #[.int .i64 n, .int .i64 d]] w fun e w' => e = .returned (.bool (smallB n d)) ∧ Below w.heap.size w w' := by
  cases h1 : inB n (-1000000000) 1000000000
  all_goals cases h2 : inB d 1 1000000000
  all_goals
    have H1 := hid h1
    have H2 := hid h2
    go_enter Try.func85, Try.ntmps85
    go_wp2_with (go_at_call 26; refine (base_Within _ _ _ _).mono ?_; rintro _ _ ⟨rfl, rfl⟩)
    go_ret
    exact ⟨ret_bool (by unfold smallB; rw [H1.out, H2.out]; rfl), by (repeat (with_reducible first | exact Below.refl _ _ | assumption | refine Below.drewN _ ?_ | refine Below.drew ?_ | refine Below_alloc ?_ _ | refine Below.alloc ?_ (by first | (simp; done) | (simp; omega) | omega) _ | refine Below.setCell ?_ (by first | (simp; done) | (simp; omega) | omega) _ | refine Below_call ?_ (by assumption) | refine Below.trans ?_ (by assumption)))⟩

set_option maxRecDepth 100000 in
set_option maxHeartbeats 4000000 in
theorem base_RatioFrac (n d : Int) (v : Value) (w : World) (N : Nat → Prop) (hv : RatAt w v n d N) (h1 : -1000000000000000000 < n) (h2 : n < 1000000000000000000) (h3 : -1000000000000000000 < d) (h4 : d < 1000000000000000000) :
    Calls Try.prog 24 #[v] w fun e w' => (smallB n d = true → e = .returned (.tuple #[.agg #[.int .i64 n, .int .i64 d], .bool true])) ∧ (smallB n d = false → e = .returned (.tuple #[.agg #[.int .i64 0, .int .i64 0], .bool false])) ∧ Below w.heap.size w w' := by
  obtain ⟨ao, ka, ca, bo, kb, cb, rfl, g1, g2⟩ := hv.shape
  have HN : Hid (∀ W, Below w.heap.size w W → Calls Try.prog 84 #[.agg #[.int .i64 (sg n), .slice ao ka ca]] W fun e w' => e = .returned (.tuple #[.int .i64 n, .bool true]) ∧ Below W.heap.size W w') := hid (fun W h => base_WideInt n _ W _ (g1.mono h (fun _ _ h => h)) h1 h2)
  have HD : Hid (∀ W, Below w.heap.size w W → Calls Try.prog 84 #[.agg #[.int .i64 (sg d), .slice bo kb cb]] W fun e w' => e = .returned (.tuple #[.int .i64 d, .bool true]) ∧ Below W.heap.size W w') := hid (fun W h => base_WideInt d _ W _ (g2.mono h (fun _ _ h => h)) h3 h4)
  have HS : Hid (∀ W, Calls Try.prog 85 #[.agg #[.int .i64 n, .int .i64 d]] W fun e w' => e = .returned (.bool (smallB n d)) ∧ Below W.heap.size W w') := hid (fun W => base_IsSmall n d W)
  generalize smallB n d = B at HS ⊢
  generalize sg n = s1 at *
  generalize sg d = s2 at *
  clear hv g1 g2 h1 h2 h3 h4
  obtain ⟨W0, hW0⟩ : ∃ W0, W0 = (w.alloc (.cells #[.int .i64 s1, .slice ao ka ca, .int .i64 s2, .slice bo kb cb] 53)).alloc (.cells #[.int .i64 0, .int .i64 0] 37) := ⟨_, rfl⟩
  have hbW0 : Below w.heap.size w W0 := by rw [hW0]; (repeat (with_reducible first | exact Below.refl _ _ | assumption | refine Below.drewN _ ?_ | refine Below.drew ?_ | refine Below_alloc ?_ _ | refine Below.alloc ?_ (by first | (simp; done) | (simp; omega) | omega) _ | refine Below.setCell ?_ (by first | (simp; done) | (simp; omega) | omega) _ | refine Below_call ?_ (by assumption) | refine Below.trans ?_ (by assumption)))
  obtain ⟨q0, q1, l0, l1⟩ := al2 w _ _ _ _ W0 hW0
  have Q0 := hid q0
  have Q1 := hid q1
  clear q0 q1
  cases B
  · go_enter Try.func24, Try.ntmps24
    go_wp2_with (first | (go_at_call 84; rw [← hW0]; refine (HN.out _ hbW0).mono ?_; rintro _ w1 ⟨rfl, hb1⟩; have hb1' : Below w.heap.size w w1 := (by (repeat (with_reducible first | exact Below.refl _ _ | assumption | refine Below.drewN _ ?_ | refine Below.drew ?_ | refine Below_alloc ?_ _ | refine Below.alloc ?_ (by first | (simp; done) | (simp; omega) | omega) _ | refine Below.setCell ?_ (by first | (simp; done) | (simp; omega) | omega) _ | refine Below_call ?_ (by assumption) | refine Below.trans ?_ (by assumption)))); have r0 := (hb1.block w.heap.size l0).trans Q0.out; obtain ⟨c0, c1, c2, c3, hlc⟩ := four_row r0; have hR1 := hid ((hb1.block (w.heap.size + 1) l1).trans Q1.out); clear r0) | (go_at_call 84; refine (HD.out _ hb1').mono ?_; rintro _ w2 ⟨rfl, hb2⟩; have hlq : w.heap.size + 1 < w1.heap.size := Nat.lt_of_lt_of_le l1 hb1.size; have r1 := (hb2.block (w.heap.size + 1) hlq).trans hR1.out; obtain ⟨f0, f1, ff0, ff1, hlf⟩ := two_cells r1; have R1 := hid r1; clear r1; have hb2' : Below w.heap.size w w2 := (by (repeat (with_reducible first | exact Below.refl _ _ | assumption | refine Below.drewN _ ?_ | refine Below.drew ?_ | refine Below_alloc ?_ _ | refine Below.alloc ?_ (by first | (simp; done) | (simp; omega) | omega) _ | refine Below.setCell ?_ (by first | (simp; done) | (simp; omega) | omega) _ | refine Below_call ?_ (by assumption) | refine Below.trans ?_ (by assumption))))) | (go_at_call 85; obtain ⟨W4, hW4⟩ : ∃ W4, W4 = w2.alloc (.cells #[.int .i64 n, .int .i64 d] 37) := ⟨_, rfl⟩; rw [← hW4]; have hb24 : Below w2.heap.size w2 W4 := (by rw [hW4]; (repeat (with_reducible first | exact Below.refl _ _ | assumption | refine Below.drewN _ ?_ | refine Below.drew ?_ | refine Below_alloc ?_ _ | refine Below.alloc ?_ (by first | (simp; done) | (simp; omega) | omega) _ | refine Below.setCell ?_ (by first | (simp; done) | (simp; omega) | omega) _ | refine Below_call ?_ (by assumption) | refine Below.trans ?_ (by assumption)))); have rn : W4.heap[w2.heap.size]? = some (.cells #[.int .i64 n, .int .i64 d] 37 (0, 0)) := (by rw [hW4]; exact heap_alloc_new w2 _); have rr := (hb24.block (w.heap.size + 1) hlf).trans R1.out; clear hW4; refine (HS.out _).mono ?_; rintro _ w3 ⟨rfl, hb3⟩; obtain ⟨e0, e1, fe0, fe1, hle⟩ := two_cells ((hb3.block _ (row_lt rr)).trans rr); obtain ⟨n0, n1, fn0, fn1, hln⟩ := two_cells ((hb3.block _ (row_lt rn)).trans rn)))
    ((try simp only [Exit.inBlock, Exit.then]); refine bodyPost_ret (v := .tuple #[.agg #[.int .i64 0, .int .i64 0], .bool false]) ?_ rfl ?_; (next => simp [results, Try.results24, go_sem, hle, e0, e1, n0, n1]))
    refine ⟨?_, ?_, by (repeat (with_reducible first | exact Below.refl _ _ | assumption | refine Below.drewN _ ?_ | refine Below.drew ?_ | refine Below_alloc ?_ _ | refine Below.alloc ?_ (by first | (simp; done) | (simp; omega) | omega) _ | refine Below.setCell ?_ (by first | (simp; done) | (simp; omega) | omega) _ | refine Below_call ?_ (by assumption) | refine Below.trans ?_ (by assumption)))⟩
    all_goals (intros; first | rfl | (exfalso; contradiction))
  · go_enter Try.func24, Try.ntmps24
    go_wp2_with (first | (go_at_call 84; rw [← hW0]; refine (HN.out _ hbW0).mono ?_; rintro _ w1 ⟨rfl, hb1⟩; have hb1' : Below w.heap.size w w1 := (by (repeat (with_reducible first | exact Below.refl _ _ | assumption | refine Below.drewN _ ?_ | refine Below.drew ?_ | refine Below_alloc ?_ _ | refine Below.alloc ?_ (by first | (simp; done) | (simp; omega) | omega) _ | refine Below.setCell ?_ (by first | (simp; done) | (simp; omega) | omega) _ | refine Below_call ?_ (by assumption) | refine Below.trans ?_ (by assumption)))); have r0 := (hb1.block w.heap.size l0).trans Q0.out; obtain ⟨c0, c1, c2, c3, hlc⟩ := four_row r0; have hR1 := hid ((hb1.block (w.heap.size + 1) l1).trans Q1.out); clear r0) | (go_at_call 84; refine (HD.out _ hb1').mono ?_; rintro _ w2 ⟨rfl, hb2⟩; have hlq : w.heap.size + 1 < w1.heap.size := Nat.lt_of_lt_of_le l1 hb1.size; have r1 := (hb2.block (w.heap.size + 1) hlq).trans hR1.out; obtain ⟨f0, f1, ff0, ff1, hlf⟩ := two_cells r1; have R1 := hid r1; clear r1; have hb2' : Below w.heap.size w w2 := (by (repeat (with_reducible first | exact Below.refl _ _ | assumption | refine Below.drewN _ ?_ | refine Below.drew ?_ | refine Below_alloc ?_ _ | refine Below.alloc ?_ (by first | (simp; done) | (simp; omega) | omega) _ | refine Below.setCell ?_ (by first | (simp; done) | (simp; omega) | omega) _ | refine Below_call ?_ (by assumption) | refine Below.trans ?_ (by assumption))))) | (go_at_call 85; obtain ⟨W4, hW4⟩ : ∃ W4, W4 = w2.alloc (.cells #[.int .i64 n, .int .i64 d] 37) := ⟨_, rfl⟩; rw [← hW4]; have hb24 : Below w2.heap.size w2 W4 := (by rw [hW4]; (repeat (with_reducible first | exact Below.refl _ _ | assumption | refine Below.drewN _ ?_ | refine Below.drew ?_ | refine Below_alloc ?_ _ | refine Below.alloc ?_ (by first | (simp; done) | (simp; omega) | omega) _ | refine Below.setCell ?_ (by first | (simp; done) | (simp; omega) | omega) _ | refine Below_call ?_ (by assumption) | refine Below.trans ?_ (by assumption)))); have rn : W4.heap[w2.heap.size]? = some (.cells #[.int .i64 n, .int .i64 d] 37 (0, 0)) := (by rw [hW4]; exact heap_alloc_new w2 _); have rr := (hb24.block (w.heap.size + 1) hlf).trans R1.out; clear hW4; refine (HS.out _).mono ?_; rintro _ w3 ⟨rfl, hb3⟩; obtain ⟨e0, e1, fe0, fe1, hle⟩ := two_cells ((hb3.block _ (row_lt rr)).trans rr); obtain ⟨n0, n1, fn0, fn1, hln⟩ := two_cells ((hb3.block _ (row_lt rn)).trans rn)))
    ((try simp only [Exit.inBlock, Exit.then]); refine bodyPost_ret (v := .tuple #[.agg #[.int .i64 n, .int .i64 d], .bool true]) ?_ rfl ?_; (next => simp [results, Try.results24, go_sem, hle, e0, e1, n0, n1]))
    refine ⟨?_, ?_, by (repeat (with_reducible first | exact Below.refl _ _ | assumption | refine Below.drewN _ ?_ | refine Below.drew ?_ | refine Below_alloc ?_ _ | refine Below.alloc ?_ (by first | (simp; done) | (simp; omega) | omega) _ | refine Below.setCell ?_ (by first | (simp; done) | (simp; omega) | omega) _ | refine Below_call ?_ (by assumption) | refine Below.trans ?_ (by assumption)))⟩
    all_goals (intros; first | rfl | (exfalso; contradiction))
end Go.Proofs.Ytlmdmpjfehpjeaa

