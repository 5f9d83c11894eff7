/- Wide numbers subtracted, compared. -/
import Derived.Test.YtlmdmpjfehpjeaaM8
import Derived.Test.YtlmdmpjfehpjeaaM1
import Derived.Test.YtlmdmpjfehpjeaaM5
import Derived.Test.YtlmdmpjfehpjeaaM6
set_option linter.unusedVariables false
set_option linter.unusedSimpArgs false
namespace Go.Proofs.Ytlmdmpjfehpjeaa
open Go.RowKit

theorem WideAt.shape {w : World} {v : Value} {z : Int} {N : Nat → Prop} (h : WideAt w v z N) : ∃ ao n cap, v = .agg #[.int .i64 (sg z), .slice ao n cap] := by
  obtain ⟨ao, cap, rfl, _⟩ := h
  exact ⟨ao, _, cap, rfl⟩

set_option maxRecDepth 100000 in
set_option maxHeartbeats 1000000 in
theorem base_WideSub (x y : Int) (u v : Value) (w : World) (N : Nat → Prop) (hN : ∀ b, w.heap.size ≤ b → N b) (hu : WideAt w u x N) (hv : WideAt w v y N) (hx : (dig x.natAbs).length ≤ 100000) (hy : (dig y.natAbs).length ≤ 100000) :
    Calls Try.prog 154 #[u, v] w (RetWide w (x - y) N) := by
  have HU := hid hu
  have HV := hid hv
  obtain ⟨ao, lx, cap, rfl⟩ := hu.shape
  obtain ⟨bo, ly, cap2, rfl⟩ := hv.shape
  clear hu hv
  have hrx := sg_range x
  have hry := sg_range y
  obtain ⟨sx, hsx⟩ : ∃ sx, sx = sg x := ⟨_, rfl⟩
  obtain ⟨sy, hsy⟩ : ∃ sy, sy = sg y := ⟨_, rfl⟩
  rw [← hsx] at HU hrx ⊢
  rw [← hsy] at HV hry ⊢
  have HXY := hid (And.intro hx hy)
  have HNN := hid hN
  clear hsx hsy hx hy hN
  obtain ⟨W, hW⟩ : ∃ W, W = ((w.alloc (.cells #[.int .i64 sx, .slice ao lx cap] 51)).alloc (.cells #[.int .i64 sy, .slice bo ly cap2] 51)).alloc (.cells #[.int .i64 0, .slice none 0 0] 51) := ⟨_, rfl⟩
  have hzW : W.heap.size = w.heap.size + 1 + 1 + 1 := by rw [hW]; simp
  have hBW : Below w.heap.size w W := by rw [hW]; (repeat (with_reducible first | exact Below.refl _ _ | assumption | refine Below.drewN _ ?_ | refine Below.drew ?_ | refine Below_alloc ?_ _ | refine Below.alloc ?_ (by first | (simp; done) | (simp; omega) | omega) _ | refine Below.setCell ?_ (by first | (simp; done) | (simp; omega) | omega) _ | refine Below_call ?_ (by assumption) | refine Below.trans ?_ (by assumption)))
  obtain ⟨q0, q1, q2⟩ := alloc3 w _ _ _ _ _ _ W hW
  have HWC := hid q2
  obtain ⟨a0, a1, fa0, fa1, hl0⟩ := two_cells q0
  obtain ⟨b0, b1, fb0, fb1, hl1⟩ := two_cells q1
  obtain ⟨c0, c1, f0, f1, hl2⟩ := two_cells q2
  clear q0 q1 q2
  have HAU : Hid (∀ W', Below w.heap.size w W' → WideAt W' (.agg #[.int .i64 sx, .slice ao lx cap]) x (fun b => b ≠ w.heap.size + 1 + 1 ∧ (b < w.heap.size → N b))) := hid (fun W' h => HU.out.mono h (fun b hlt hb => ⟨by omega, fun _ => hb⟩))
  have HAV : Hid (∀ W', Below w.heap.size w W' → WideAt W' (.agg #[.int .i64 (-sy), .slice bo ly cap2]) (-y) (fun b => b ≠ w.heap.size + 1 + 1 ∧ (b < w.heap.size → N b))) := hid (fun W' h => (HV.out.mono h (fun b hlt hb => ⟨by omega, fun _ => hb⟩)).neg)
  have HLL : Hid ((dig x.natAbs).length ≤ 100000 ∧ (dig (-y).natAbs).length ≤ 100000) := hid (by rw [Int.natAbs_neg]; exact HXY.out)
  have HSZ : Hid (∀ W' : World, W.heap.size ≤ W'.heap.size → ∀ b, W'.heap.size ≤ b → b ≠ w.heap.size + 1 + 1 ∧ (b < w.heap.size → N b)) := hid (fun W' h b hb => ⟨by omega, fun h2 => absurd h2 (by omega)⟩)
  go_enter Try.func154, Try.ntmps154
  go_wp2_with fail
  rw [← hW]
  clear hW
  refine wp_mixC (fun wc => Below (W.heap.size) W wc) 4 [.q [0, 1], .f [2, 3]] [.f [4]] (by kernel_rfl) (by kernel_rfl) ((Below.refl _ _).drew) ?_
  intro Q' hQ'
  (rw [wpMixC]; simp only [pick, List.drop_succ_cons, List.drop_zero, List.head?_cons, Option.toList_some, List.cons_append, List.nil_append])
  (repeat (first | go_big_quiet_skip | (go_big_quiet_want; refine quiet_simple rfl ?_; go_big_quiet_op; go_big_quiet_on) | (go_big_quiet_want; refine quiet_agg2B (ty := 51) rfl rfl (by kernel_rfl) (by assumption) (by assumption) (by first | omega | (simp; omega)) ?_; simp only [Act.put, List.setIfInBounds_toArray, List.set_cons_succ, List.set_cons_zero]; go_big_quiet_on)))
  (try refine wpQuiet_nil ?_)
  (rw [wpMixC]; simp only [pick, List.drop_succ_cons, List.drop_zero, List.head?_cons, Option.toList_some, List.cons_append, List.nil_append])
  (rw [wpSteps]; go_wp2_with ((first | (go_at_call 138; refine (base_WideNeg _ _ _ _ _ hry).mono ?_; rintro _ w1 ⟨rfl, hb1⟩; have HB1 := hid hb1; have hzw1 := hb1.size) | (go_at_call 136; refine (base_WideAdd _ _ _ _ _ _ (HSZ.out _ (by first | exact hzw1 | omega)) (HAU.out _ (by (repeat (with_reducible first | exact Below.refl _ _ | assumption | refine Below.drewN _ ?_ | refine Below.drew ?_ | refine Below_alloc ?_ _ | refine Below.alloc ?_ (by first | (simp; done) | (simp; omega) | omega) _ | refine Below.setCell ?_ (by first | (simp; done) | (simp; omega) | omega) _ | refine Below_call ?_ (by assumption) | refine Below.trans ?_ (by assumption))))) (HAV.out _ (by (repeat (with_reducible first | exact Below.refl _ _ | assumption | refine Below.drewN _ ?_ | refine Below.drew ?_ | refine Below_alloc ?_ _ | refine Below.alloc ?_ (by first | (simp; done) | (simp; omega) | omega) _ | refine Below.setCell ?_ (by first | (simp; done) | (simp; omega) | omega) _ | refine Below_call ?_ (by assumption) | refine Below.trans ?_ (by assumption))))) HLL.out.1 HLL.out.2).mono ?_; rintro _ w2 ⟨r, rfl, hwr, hb2⟩; obtain ⟨ro, rn, rc, rfl⟩ := hwr.shape; have HWR := hid hwr; clear hwr; have HB2 := hid hb2; obtain ⟨e0, e1, p0, p1, hlt1⟩ := two_cells ((hb2.block (w.heap.size + 1 + 1) (by first | omega | exact hl2 | exact Nat.lt_of_lt_of_le hl2 hzw1)).trans ((HB1.out.block (w.heap.size + 1 + 1) (by first | omega | exact hl2 | exact Nat.lt_of_lt_of_le hl2 hzw1)).trans HWC.out))))); rw [contF]; refine ⟨?_, ?_⟩; (next => (repeat (with_reducible first | exact Below.refl _ _ | assumption | refine Below.drewN _ ?_ | refine Below.drew ?_ | refine Below_alloc ?_ _ | refine Below.alloc ?_ (by first | (simp; done) | (simp; omega) | omega) _ | refine Below.setCell ?_ (by first | (simp; done) | (simp; omega) | omega) _ | refine Below_call ?_ (by assumption) | refine Below.trans ?_ (by assumption)))))
  (rw [wpSteps]; go_wp2_with ((first | (go_at_call 138; refine (base_WideNeg _ _ _ _ _ hry).mono ?_; rintro _ w1 ⟨rfl, hb1⟩; have HB1 := hid hb1; have hzw1 := hb1.size) | (go_at_call 136; refine (base_WideAdd _ _ _ _ _ _ (HSZ.out _ (by first | exact hzw1 | omega)) (HAU.out _ (by (repeat (with_reducible first | exact Below.refl _ _ | assumption | refine Below.drewN _ ?_ | refine Below.drew ?_ | refine Below_alloc ?_ _ | refine Below.alloc ?_ (by first | (simp; done) | (simp; omega) | omega) _ | refine Below.setCell ?_ (by first | (simp; done) | (simp; omega) | omega) _ | refine Below_call ?_ (by assumption) | refine Below.trans ?_ (by assumption))))) (HAV.out _ (by (repeat (with_reducible first | exact Below.refl _ _ | assumption | refine Below.drewN _ ?_ | refine Below.drew ?_ | refine Below_alloc ?_ _ | refine Below.alloc ?_ (by first | (simp; done) | (simp; omega) | omega) _ | refine Below.setCell ?_ (by first | (simp; done) | (simp; omega) | omega) _ | refine Below_call ?_ (by assumption) | refine Below.trans ?_ (by assumption))))) HLL.out.1 HLL.out.2).mono ?_; rintro _ w2 ⟨r, rfl, hwr, hb2⟩; obtain ⟨ro, rn, rc, rfl⟩ := hwr.shape; have HWR := hid hwr; clear hwr; have HB2 := hid hb2; obtain ⟨e0, e1, p0, p1, hlt1⟩ := two_cells ((hb2.block (w.heap.size + 1 + 1) (by first | omega | exact hl2 | exact Nat.lt_of_lt_of_le hl2 hzw1)).trans ((HB1.out.block (w.heap.size + 1 + 1) (by first | omega | exact hl2 | exact Nat.lt_of_lt_of_le hl2 hzw1)).trans HWC.out))))); rw [contF]; refine ⟨?_, ?_⟩; (next => (repeat (with_reducible first | exact Below.refl _ _ | assumption | refine Below.drewN _ ?_ | refine Below.drew ?_ | refine Below_alloc ?_ _ | refine Below.alloc ?_ (by first | (simp; done) | (simp; omega) | omega) _ | refine Below.setCell ?_ (by first | (simp; done) | (simp; omega) | omega) _ | refine Below_call ?_ (by assumption) | refine Below.trans ?_ (by assumption)))))
  (rw [wpSteps])
  (rw [wpMixC])
  (rw [wpMix]; simp only [pick, List.drop_succ_cons, List.drop_zero, List.head?_cons, Option.toList_some, List.cons_append, List.nil_append])
  (go_wp2_with ((first | (go_at_call 138; refine (base_WideNeg _ _ _ _ _ hry).mono ?_; rintro _ w1 ⟨rfl, hb1⟩; have HB1 := hid hb1; have hzw1 := hb1.size) | (go_at_call 136; refine (base_WideAdd _ _ _ _ _ _ (HSZ.out _ (by first | exact hzw1 | omega)) (HAU.out _ (by (repeat (with_reducible first | exact Below.refl _ _ | assumption | refine Below.drewN _ ?_ | refine Below.drew ?_ | refine Below_alloc ?_ _ | refine Below.alloc ?_ (by first | (simp; done) | (simp; omega) | omega) _ | refine Below.setCell ?_ (by first | (simp; done) | (simp; omega) | omega) _ | refine Below_call ?_ (by assumption) | refine Below.trans ?_ (by assumption))))) (HAV.out _ (by (repeat (with_reducible first | exact Below.refl _ _ | assumption | refine Below.drewN _ ?_ | refine Below.drew ?_ | refine Below_alloc ?_ _ | refine Below.alloc ?_ (by first | (simp; done) | (simp; omega) | omega) _ | refine Below.setCell ?_ (by first | (simp; done) | (simp; omega) | omega) _ | refine Below_call ?_ (by assumption) | refine Below.trans ?_ (by assumption))))) HLL.out.1 HLL.out.2).mono ?_; rintro _ w2 ⟨r, rfl, hwr, hb2⟩; obtain ⟨ro, rn, rc, rfl⟩ := hwr.shape; have HWR := hid hwr; clear hwr; have HB2 := hid hb2; obtain ⟨e0, e1, p0, p1, hlt1⟩ := two_cells ((hb2.block (w.heap.size + 1 + 1) (by first | omega | exact hl2 | exact Nat.lt_of_lt_of_le hl2 hzw1)).trans ((HB1.out.block (w.heap.size + 1 + 1) (by first | omega | exact hl2 | exact Nat.lt_of_lt_of_le hl2 hzw1)).trans HWC.out))))); rw [contF])
  (rw [wpMix])
  (refine hQ' _ _ ?_)
  go_wp2_with fail
  ((try simp only [Exit.inBlock, Exit.then]); refine bodyPost_ret (v := .agg #[.int .i64 (sg (x + -y)), .slice ro rn rc]) ?_ rfl ?_; (next => simp [results, Try.results154, go_sem, hlt1, e0, e1]))
  rw [show x - y = x + -y from by omega]
  exact ⟨_, rfl, HWR.out.store2 (Below.refl _ _) (fun b h => ⟨h.1, by
    rcases Nat.lt_or_ge b w.heap.size with h1 | h1
    · exact h.2 h1
    · exact HNN.out b h1⟩) _ _, by (repeat (with_reducible first | exact Below.refl _ _ | assumption | refine Below.drewN _ ?_ | refine Below.drew ?_ | refine Below_alloc ?_ _ | refine Below.alloc ?_ (by first | (simp; done) | (simp; omega) | omega) _ | refine Below.setCell ?_ (by first | (simp; done) | (simp; omega) | omega) _ | refine Below_call ?_ (by assumption) | refine Below.trans ?_ (by assumption)))⟩

set_option maxRecDepth 100000 in
set_option maxHeartbeats 1000000 in
theorem base_WideCmp (x y : Int) (u v : Value) (w : World) (N : Nat → Prop) (hu : WideAt w u x N) (hv : WideAt w v y N) (hx : (dig x.natAbs).length ≤ 100000) (hy : (dig y.natAbs).length ≤ 100000) :
    Calls Try.prog 143 #[u, v] w fun e w' => e = .returned (.int .i64 (sg (x - y))) ∧ Below w.heap.size w w' := by
  have HU := hid hu
  have HV := hid hv
  obtain ⟨ao, lx, cap, rfl⟩ := hu.shape
  obtain ⟨bo, ly, cap2, rfl⟩ := hv.shape
  clear hu hv
  obtain ⟨sx, hsx⟩ : ∃ sx, sx = sg x := ⟨_, rfl⟩
  obtain ⟨sy, hsy⟩ : ∃ sy, sy = sg y := ⟨_, rfl⟩
  rw [← hsx] at HU ⊢
  rw [← hsy] at HV ⊢
  have HXY := hid (And.intro hx hy)
  clear hsx hsy hx hy
  have HSUB : Hid (∀ W', Below w.heap.size w W' → Calls Try.prog 154 #[.agg #[.int .i64 sx, .slice ao lx cap], .agg #[.int .i64 sy, .slice bo ly cap2]] W' (RetWide W' (x - y) (fun _ => True))) := hid (fun W' h => base_WideSub x y _ _ W' _ (fun _ _ => trivial) (HU.out.mono h (fun _ _ _ => trivial)) (HV.out.mono h (fun _ _ _ => trivial)) HXY.out.1 HXY.out.2)
  have hfd : ∀ (s : Int) (v : Value) (w : World), (Instr.field 51 (.agg #[.int .i64 s, v]) 0).run Try.prog w = .ok (.int .i64 s) w := fun _ _ _ => by kernel_rfl
  go_enter Try.func143, Try.ntmps143
  go_wp2_with (go_at_call 154; refine (HSUB.out _ (by (repeat (with_reducible first | exact Below.refl _ _ | assumption | refine Below.drewN _ ?_ | refine Below.drew ?_ | refine Below_alloc ?_ _ | refine Below.alloc ?_ (by first | (simp; done) | (simp; omega) | omega) _ | refine Below.setCell ?_ (by first | (simp; done) | (simp; omega) | omega) _ | refine Below_call ?_ (by assumption) | refine Below.trans ?_ (by assumption))))).mono ?_; rintro _ w2 ⟨r, rfl, hwr, hb2⟩; obtain ⟨ro, rn, rc, rfl⟩ := hwr.shape; clear hwr)
  go_ret
  exact ⟨rfl, by (repeat (with_reducible first | exact Below.refl _ _ | assumption | refine Below.drewN _ ?_ | refine Below.drew ?_ | refine Below_alloc ?_ _ | refine Below.alloc ?_ (by first | (simp; done) | (simp; omega) | omega) _ | refine Below.setCell ?_ (by first | (simp; done) | (simp; omega) | omega) _ | refine Below_call ?_ (by assumption) | refine Below.trans ?_ (by assumption)))⟩

end Go.Proofs.Ytlmdmpjfehpjeaa

/- Wide numbers multiplied. -/
set_option linter.unusedVariables false
set_option linter.unusedSimpArgs false
namespace Go.Proofs.Ytlmdmpjfehpjeaa
open Go.RowKit

theorem mul_rng {x y : Int} (hx : 0 ≤ x ∧ x < 1000000000) (hy : 0 ≤ y ∧ y < 1000000000) : 0 ≤ x * y ∧ x * y ≤ 999999998000000001 := by
  refine ⟨Int.mul_nonneg hx.1 hy.1, ?_⟩
  have := Int.mul_le_mul (show x ≤ 999999999 by omega) (show y ≤ 999999999 by omega) hy.1 (by omega)
  omega
theorem sg_mul (x y : Int) : sg (x * y) = sg x * sg y := by
  unfold sg
  rcases Int.lt_trichotomy x 0 with h | h | h
  · rcases Int.lt_trichotomy y 0 with g | g | g
    · have := Int.mul_pos_of_neg_of_neg h g
      rw [if_pos h, if_pos g, if_neg (by omega), if_neg (by omega)]; rfl
    · subst g; rw [Int.mul_zero]; simp
    · have := Int.mul_neg_of_neg_of_pos h g
      rw [if_pos h, if_pos this, if_neg (by omega), if_neg (by omega)]; rfl
  · subst h; rw [Int.zero_mul]; simp
  · rcases Int.lt_trichotomy y 0 with g | g | g
    · have := Int.mul_neg_of_pos_of_neg h g
      rw [if_pos this, if_neg (by omega), if_neg (by omega), if_pos g]; rfl
    · subst g; rw [Int.mul_zero]; simp
    · have := Int.mul_pos h g
      rw [if_neg (by omega), if_neg (by omega), if_neg (by omega), if_neg (by omega), if_neg (by omega), if_neg (by omega)]; rfl
/-- a step of the product of a digit with digits. -/
theorem mul_step {xs lb : List Int} {i k : Nat} {A x y o cc q r : Int} (hi : i + k < xs.length) (ho : o = nth xs (i + k)) (hy : y = nth lb k) (he : o + x * y + cc = r + 1000000000 * q)
    (h : dval xs + cc * dpw (i + k) = A + x * dval (lb.take k) * dpw i) : dval (xs.set (i + k) r) + q * dpw (i + (k + 1)) = A + x * dval (lb.take (k + 1)) * dpw i := by
  rw [dval_set _ _ _ hi, dval_take, ← ho, ← hy, ← Nat.add_assoc]
  have e1 : x * (dval (lb.take k) + y * dpw k) * dpw i = x * dval (lb.take k) * dpw i + x * y * dpw (i + k) := by
    rw [Int.mul_add, Int.add_mul, dpw_add, Int.mul_comm (dpw i) (dpw k)]
    simp only [Int.mul_assoc]
  have e2 : q * dpw (i + k + 1) = 1000000000 * q * dpw (i + k) := by simp only [dpw]; rw [← Int.mul_assoc, Int.mul_comm q]
  have e3 : (o + x * y + cc) * dpw (i + k) = (r + 1000000000 * q) * dpw (i + k) := by rw [he]
  rw [Int.add_mul, Int.add_mul, Int.add_mul] at e3
  rw [e1, e2, Int.sub_mul]
  omega
theorem mul_end {xs la : List Int} {i m : Nat} {B x cc : Int} (hi : i + m < xs.length) (hz : nth xs (i + m) = 0) (hx : x = nth la i)
    (h : dval xs + cc * dpw (i + m) = dval (la.take i) * B + x * B * dpw i) : dval (xs.set (i + m) cc) = dval (la.take (i + 1)) * B := by
  rw [dval_set _ _ _ hi, dval_take, hz, ← hx, Int.sub_zero, h, Int.add_mul]
  congr 1
  rw [Int.mul_assoc, Int.mul_comm B, Int.mul_assoc]

set_option maxRecDepth 100000 in
set_option maxHeartbeats 2000000 in
theorem base_WideMul (x y : Int) (u v : Value) (w : World) (N : Nat → Prop) (hN : ∀ b, w.heap.size ≤ b → N b) (hu : WideAt w u x N) (hv : WideAt w v y N) (hx : (dig x.natAbs).length ≤ 100000) (hy : (dig y.natAbs).length ≤ 100000) :
    Calls Try.prog 137 #[u, v] w (RetWide w (x * y) N) := by
  obtain ⟨i0, hi, hz0, hz1, hz2⟩ := info_parts infoInt
  obtain ⟨ao, cap, rfl, gu⟩ := hu
  obtain ⟨bo, cap2, rfl, gv⟩ := hv
  obtain ⟨ao', cap', ea, ha1, ha2, ha3⟩ := gu.ints.opn
  cases ea
  obtain ⟨bo', cap2', eb, hb1, hb2, hb3⟩ := gv.ints.opn
  cases eb
  have hrx := sg_range x
  have hry := sg_range y
  have HSG := hid (sg_mul x y)
  obtain ⟨sx, hsx⟩ : ∃ sx, sx = sg x := ⟨_, rfl⟩
  obtain ⟨sy, hsy⟩ : ∃ sy, sy = sg y := ⟨_, rfl⟩
  obtain ⟨la, hla⟩ : ∃ la, la = dig x.natAbs := ⟨_, rfl⟩
  obtain ⟨lb, hlb⟩ : ∃ lb, lb = dig y.natAbs := ⟨_, rfl⟩
  have HLA := hid hla
  have HLB := hid hlb
  have HDA : Hid (isD la) := hid (by rw [hla]; exact isD_dig _)
  have HDB : Hid (isD lb) := hid (by rw [hlb]; exact isD_dig _)
  rw [← hsx] at hrx HSG ⊢
  rw [← hsy] at hry HSG ⊢
  rw [← hla] at ha1 ha3 hx ⊢
  rw [← hlb] at hb1 hb3 hy ⊢
  have hss : -1 ≤ sx * sy ∧ sx * sy ≤ 1 := by rw [← HSG.out]; exact sg_range _
  have HNN := hid hN
  unfold maxLen at ha2 hb2
  clear gu gv hN hsx hsy hla hlb
  obtain ⟨W, hW⟩ : ∃ W, W = ((w.alloc (.cells #[.int .i64 sx, .slice ao la.length cap] 51)).alloc (.cells #[.int .i64 sy, .slice bo lb.length cap2] 51)).alloc (.cells #[.int .i64 0, .slice none 0 0] 51) := ⟨_, rfl⟩
  have hzW : W.heap.size = w.heap.size + 1 + 1 + 1 := by rw [hW]; simp
  have hBW : Below w.heap.size w W := by rw [hW]; (repeat (with_reducible first | exact Below.refl _ _ | assumption | refine Below.drewN _ ?_ | refine Below.drew ?_ | refine Below_alloc ?_ _ | refine Below.alloc ?_ (by first | (simp; done) | (simp; omega) | omega) _ | refine Below.setCell ?_ (by first | (simp; done) | (simp; omega) | omega) _ | refine Below_call ?_ (by assumption) | refine Below.trans ?_ (by assumption)))
  obtain ⟨q0, q1, q2⟩ := alloc3 w _ _ _ _ _ _ W hW
  have HWC := hid q2
  obtain ⟨a0, a1, fa0, fa1, hl0⟩ := two_cells q0
  obtain ⟨b0, b1, fb0, fb1, hl1⟩ := two_cells q1
  have HA0 := hid (And.intro a0 (And.intro a1 (And.intro b0 b1)))
  clear q0 q1 q2 fa0 fa1 fb0 fb1 a0 a1 b0 b1
  have HA3 := hid ha3
  have HB3 := hid hb3
  clear ha3 hb3
  go_enter Try.func137, Try.ntmps137
  go_wp2_with (at_make; rw [← hW]; refine wpList_make_full W rfl _ _ _ rfl W.heap.size 3 i0 _ 1 Try.underlying49 hi hz0 hz1 _ _ _ _ (la.length + lb.length + 1) rfl rfl (by omega) (by omega) (by rw [hz2]; omega) (by unfold maxLen; omega) (Nat.le_refl _) ?_; intro w1 hmade hgrow)
  have hmade' : w1.ownsRow W.heap.size 3 1 (.slice (some ⟨W.heap.size, 0, none⟩) (la.length + lb.length + 1) (la.length + lb.length + 1)) (la.length + lb.length + 1) ((List.replicate (la.length + lb.length + 1) (0 : Int)).map (Value.int .i64)) := by
    rw [List.map_replicate]
    have e := toList_madeCells_one (.int .i64 0) (la.length + lb.length + 1)
    simpa [Value.cells, e] using hmade
  have hb0 : Below W.heap.size W w1 := (Below.refl _ _).grown hgrow (Nat.le_refl _) (fun k hk => by cases hk)
  clear hmade hgrow hW
  rw [hzW] at hmade'
  obtain ⟨n, hn⟩ : ∃ n, n = la.length + lb.length + 1 := ⟨_, rfl⟩
  rw [← hn] at hmade' ⊢
  have hrep : isD (List.replicate n (0 : Int)) ∧ dval (List.replicate n (0 : Int)) = 0 ∧ ∀ j, nth (List.replicate n (0 : Int)) j = 0 := by
    have h0 : ∀ j, nth (List.replicate n (0 : Int)) j = 0 := fun j => by simp only [nth, List.getD_eq_getElem?_getD, List.getElem?_replicate]; split <;> rfl
    exact ⟨fun d hd => by rw [List.eq_of_mem_replicate hd]; omega, dval_zero h0, h0⟩
  have HREP := hid hrep
  have HMADE := hid hmade'
  clear hrep hmade'
  go_loopw [6] (fun ii wr => ∃ (i : Nat) (xs : List Int), i ≤ la.length ∧ ii = .int .i64 i ∧ xs.length = n ∧ Hid (isD xs ∧ dval xs = dval (la.take i) * dval lb ∧ ∀ j, i + lb.length ≤ j → nth xs j = 0) ∧ wr.ownsRow (w.heap.size + 1 + 1 + 1) 3 1 (.slice (some ⟨w.heap.size + 1 + 1 + 1, 0, none⟩) n n) n (xs.map (Value.int .i64)) ∧ Below W.heap.size W wr) (fun ii _ => la.length - (intOf ii).toNat)
  case atStart => exact ⟨0, List.replicate n 0, by omega, rfl, by simp, hid ⟨HREP.out.1, by rw [HREP.out.2.1]; simp [dval], fun j _ => HREP.out.2.2 j⟩, HMADE.out, hb0⟩
  case round =>
    obtain ⟨i, xs, hil, rfl, hxl, HX, hown, hbel⟩ := hrel
    have hzw := hbel.size
    have hbx : Below w.heap.size w wr := by (repeat (with_reducible first | exact Below.refl _ _ | assumption | refine Below.drewN _ ?_ | refine Below.drew ?_ | refine Below_alloc ?_ _ | refine Below.alloc ?_ (by first | (simp; done) | (simp; omega) | omega) _ | refine Below.setCell ?_ (by first | (simp; done) | (simp; omega) | omega) _ | refine Below_call ?_ (by assumption) | refine Below.trans ?_ (by assumption)))
    obtain ⟨a0, a1, b0, b1⟩ := HA0.out
    obtain ⟨hcc, _⟩ := bcell hbel
    rw [← hcc w.heap.size _ (by omega)] at a0 a1
    rw [← hcc (w.heap.size + 1) _ (by omega)] at b0 b1
    clear hcc
    by_cases hlt : i < la.length
    · obtain ⟨d, hdd⟩ : ∃ d, d = nth la i := ⟨_, rfl⟩
      have hdb := isD_nth HDA.out i
      rw [← hdd] at hdb
      have HD := hid hdd
      have hlw0 : w.heap.size < wr.heap.size := by omega
      have hlw1 : w.heap.size + 1 < wr.heap.size := by omega
      have HOWN := hid hown
      have HBEL := hid hbel
      clear hown hbel hdd
      go_wp2_with fail
      clear a0 a1 b0 b1 hlw0 hlw1
      go_loopw [7, 8] (fun c kk w2 => ∃ (k : Nat) (cc : Int) (ys : List Int), k ≤ lb.length ∧ kk = .int .i64 k ∧ c = .int .i64 cc ∧ 0 ≤ cc ∧ cc < 1000000000 ∧ ys.length = n ∧ Hid (isD ys ∧ dval ys + cc * dpw (i + k) = dval (la.take i) * dval lb + d * dval (lb.take k) * dpw i ∧ ∀ j, i + lb.length ≤ j → nth ys j = 0) ∧ w2.ownsRow (w.heap.size + 1 + 1 + 1) 3 1 (.slice (some ⟨w.heap.size + 1 + 1 + 1, 0, none⟩) n n) n (ys.map (Value.int .i64)) ∧ Below W.heap.size W w2) (fun _ kk _ => lb.length - (intOf kk).toNat)
      case atStart => exact ⟨0, 0, xs, by omega, rfl, rfl, by omega, by omega, hxl, hid ⟨HX.out.1, by rw [HX.out.2.1]; simp [dval], HX.out.2.2⟩, HOWN.out, HBEL.out⟩
      case round =>
        obtain ⟨k, cc, ys, hkl, rfl, rfl, hc0, hc1, hyl, HY, hown, hbel⟩ := hrel
        have hz2 := hbel.size
        obtain ⟨a0, a1, b0, b1⟩ := HA0.out
        obtain ⟨hcc, _⟩ := bcell hbel
        rw [← hcc w.heap.size _ (by omega)] at a0 a1
        rw [← hcc (w.heap.size + 1) _ (by omega)] at b0 b1
        have hbx2 : Below w.heap.size w wr := by (repeat (with_reducible first | exact Below.refl _ _ | assumption | refine Below.drewN _ ?_ | refine Below.drew ?_ | refine Below_alloc ?_ _ | refine Below.alloc ?_ (by first | (simp; done) | (simp; omega) | omega) _ | refine Below.setCell ?_ (by first | (simp; done) | (simp; omega) | omega) _ | refine Below_call ?_ (by assumption) | refine Below.trans ?_ (by assumption)))
        have hlw0 : w.heap.size < wr.heap.size := by omega
        have hlw1 : w.heap.size + 1 < wr.heap.size := by omega
        clear hcc
        obtain ⟨m, hm⟩ : ∃ m : Nat, m = i + k := ⟨_, rfl⟩
        have hmi : (i : Int) + (k : Int) = (m : Int) := by omega
        by_cases hk : k < lb.length
        · obtain ⟨e, hee⟩ : ∃ e, e = nth lb k := ⟨_, rfl⟩
          have heb := isD_nth HDB.out k
          rw [← hee] at heb
          obtain ⟨o, hoo⟩ : ∃ o, o = nth ys m := ⟨_, rfl⟩
          have hob := isD_nth HY.out.1 m
          rw [← hoo] at hob
          have hde := mul_rng hdb heb
          have hmn : m < n := by omega
          obtain ⟨b1', off1, rfl, hbb1, hcl1⟩ := HA3.out i hlt
          obtain ⟨b2', off2, rfl, hbb2, hcl2⟩ := HB3.out k hk
          have z1 := (hbx2.cell (p := ⟨b1', off1 + i, none⟩) hbb1).trans (hcl1 i hlt)
          have z2 := (hbx2.cell (p := ⟨b2', off2 + k, none⟩) hbb2).trans (hcl2 k hk)
          have z0 := (hown.cellAt m (by omega)).trans (map_nth (by omega))
          have p0 := hown.frozenAt m
          rw [← HD.out] at z1
          rw [← hee] at z2
          rw [← hoo] at z0
          have hgl : w.heap.size + 1 + 1 + 1 < wr.heap.size := by
            rcases hown.2 with ⟨h, _⟩ | ⟨g, cap, cur, h, _, hg, _⟩
            · cases h
            · cases h; exact (Array.getElem?_eq_some_iff.1 hg).1
          have hbl1 : b1' < wr.heap.size := by omega
          have hbl2 : b2' < wr.heap.size := by omega
          obtain ⟨P, hP⟩ : ∃ P, P = d * e := ⟨_, rfl⟩
          rw [← hP] at hde
          obtain ⟨q, hq⟩ : ∃ q, q = (o + P + cc) / 1000000000 := ⟨_, rfl⟩
          obtain ⟨r, hr⟩ : ∃ r, r = (o + P + cc) % 1000000000 := ⟨_, rfl⟩
          have hqr : o + P + cc = r + 1000000000 * q ∧ 0 ≤ r ∧ r < 1000000000 ∧ 0 ≤ q ∧ q < 1000000000 := by omega
          have hdiv : (o + P + cc).tdiv 1000000000 = q := by rw [Int.tdiv_eq_ediv_of_nonneg (by omega), hq]
          have hmod : (o + P + cc).tmod 1000000000 = r := by rw [Int.tmod_eq_emod_of_nonneg (by omega), hr]
          have hPm : d * e = P := hP.symm
          have HSTEP : Hid (dval (ys.set m r) + q * dpw (i + (k + 1)) = dval (la.take i) * dval lb + d * dval (lb.take (k + 1)) * dpw i) := hid (by
            rw [hm]
            exact mul_step (o := o) (y := e) (cc := cc) (by omega) (by rw [hoo, hm]) hee (by rw [hPm]; exact hqr.1) HY.out.2.1)
          have hqr2 := hqr.2
          have HM := hid hm
          have HOW2 := hid hown
          clear hq hr hqr hoo hee hP hcl1 hcl2 hm hown
          go_wp2_with fail
          refine wp_mixC (fun wc => Below (wr.heap.size) wr wc) 20 [.q [0, 1, 2, 3, 4, 5, 6, 7, 8, 9, 10, 11, 12, 13, 14, 15, 16, 17, 18, 19]] [.q [20]] (by kernel_rfl) (by kernel_rfl) ((Below.refl _ _).drew) ?_
          intro Q' hQ'
          (rw [wpMixC]; simp only [pick, List.drop_succ_cons, List.drop_zero, List.head?_cons, Option.toList_some, List.cons_append, List.nil_append])
          (repeat (first | go_big_quiet_skip | (go_big_quiet_want; refine quiet_simple rfl ?_; go_big_quiet_op; go_big_quiet_on) | (go_big_quiet_want; refine quiet_cellB (ty := 3) rfl rfl (by kernel_rfl) (by assumption) (by first | omega | (simp; omega)) ?_; simp only [Act.put, List.setIfInBounds_toArray, List.set_cons_succ, List.set_cons_zero]; go_big_quiet_on) | (go_big_quiet_want; refine quiet_cellB (ty := 49) rfl rfl (by kernel_rfl) (by assumption) (by first | omega | (simp; omega)) ?_; simp only [Act.put, List.setIfInBounds_toArray, List.set_cons_succ, List.set_cons_zero]; go_big_quiet_on)))
          (try refine wpQuiet_nil ?_)
          (rw [wpMixC])
          (rw [wpMix]; simp only [pick, List.drop_succ_cons, List.drop_zero, List.head?_cons, Option.toList_some, List.cons_append, List.nil_append])
          (repeat (first | (go_big_quiet_step (fail)) | (quiet_step (fail))))
          (try refine wpQuiet_nil ?_)
          (rw [wpMix])
          (refine hQ' _ _ ?_)
          go_wp2_with fail
          go_roundw
          case rel =>
            refine ⟨k + 1, q, ys.set m r, by omega, by go_num, rfl, by omega, by omega, by simp [hyl], hid ⟨isD_set HY.out.1 _ ⟨hqr2.1, hqr2.2.1⟩, HSTEP.out, fun j hj => ?_⟩, ?_, by (repeat (with_reducible first | exact Below.refl _ _ | assumption | refine Below.drewN _ ?_ | refine Below.drew ?_ | refine Below_alloc ?_ _ | refine Below.alloc ?_ (by first | (simp; done) | (simp; omega) | omega) _ | refine Below.setCell ?_ (by first | (simp; done) | (simp; omega) | omega) _ | refine Below_call ?_ (by assumption) | refine Below.trans ?_ (by assumption)))⟩
            · rw [dnth_set _ _ _ _ (by omega), if_neg (by have := HM.out; omega)]; exact HY.out.2.2 j hj
            · rw [List.map_set]; exact (HOW2.out.stored m _).1
          case measure => simp [intOf]; omega
        · have hke : k = lb.length := by omega
          subst hke
          have z0 := (hown.cellAt m (by omega)).trans (map_nth (by omega))
          rw [HY.out.2.2 m (by omega)] at z0
          have p0 := hown.frozenAt m
          have hmn : m < n := by omega
          have hgl : w.heap.size + 1 + 1 + 1 < wr.heap.size := by
            rcases hown.2 with ⟨h, _⟩ | ⟨g, cap, cur, h, _, hg, _⟩
            · cases h
            · cases h; exact (Array.getElem?_eq_some_iff.1 hg).1
          have HSTEP : Hid (dval (ys.set m cc) = dval (la.take (i + 1)) * dval lb) := hid (by
            have h1 := HY.out.2.1
            rw [List.take_of_length_le (Nat.le_refl _)] at h1
            rw [hm]
            exact mul_end (by omega) (HY.out.2.2 _ (by omega)) HD.out h1)
          have HM := hid hm
          have HOW2 := hid hown
          clear hm hown
          go_wp2_with fail
          refine wp_mixC (fun wc => Below (wr.heap.size) wr wc) 16 [.q [0, 1, 2, 3, 4, 5, 6, 7, 8, 9, 10, 11, 12, 13, 14, 15]] [.q [16], .f [17]] (by kernel_rfl) (by kernel_rfl) ((Below.refl _ _).drew) ?_
          intro Q' hQ'
          (rw [wpMixC]; simp only [pick, List.drop_succ_cons, List.drop_zero, List.head?_cons, Option.toList_some, List.cons_append, List.nil_append])
          (repeat (first | go_big_quiet_skip | (go_big_quiet_want; refine quiet_simple rfl ?_; go_big_quiet_op; go_big_quiet_on) | (go_big_quiet_want; refine quiet_cellB (ty := 3) rfl rfl (by kernel_rfl) (by assumption) (by first | omega | (simp; omega)) ?_; simp only [Act.put, List.setIfInBounds_toArray, List.set_cons_succ, List.set_cons_zero]; go_big_quiet_on) | (go_big_quiet_want; refine quiet_cellB (ty := 49) rfl rfl (by kernel_rfl) (by assumption) (by first | omega | (simp; omega)) ?_; simp only [Act.put, List.setIfInBounds_toArray, List.set_cons_succ, List.set_cons_zero]; go_big_quiet_on) | (go_big_quiet_want; refine quiet_len (t1 := 49) rfl rfl Try.underlying49 ?_; simp only [Act.put, List.setIfInBounds_toArray, List.set_cons_succ, List.set_cons_zero]; go_big_quiet_on)))
          (try refine wpQuiet_nil ?_)
          (rw [wpMixC])
          (rw [wpMix]; simp only [pick, List.drop_succ_cons, List.drop_zero, List.head?_cons, Option.toList_some, List.cons_append, List.nil_append])
          (repeat (first | (go_big_quiet_step (fail)) | (quiet_step (fail))))
          (try refine wpQuiet_nil ?_)
          (rw [wpMix]; simp only [pick, List.drop_succ_cons, List.drop_zero, List.head?_cons, Option.toList_some, List.cons_append, List.nil_append])
          (go_wp2_with (fail); rw [contF])
          (rw [wpMix])
          (refine hQ' _ _ ?_)
          go_wp2_with fail
          go_roundw
          case rel =>
            refine ⟨i + 1, ys.set m cc, by omega, by go_num, by simp [hyl], hid ⟨isD_set HY.out.1 _ ⟨hc0, hc1⟩, HSTEP.out, fun j hj => ?_⟩, ?_, by (repeat (with_reducible first | exact Below.refl _ _ | assumption | refine Below.drewN _ ?_ | refine Below.drew ?_ | refine Below_alloc ?_ _ | refine Below.alloc ?_ (by first | (simp; done) | (simp; omega) | omega) _ | refine Below.setCell ?_ (by first | (simp; done) | (simp; omega) | omega) _ | refine Below_call ?_ (by assumption) | refine Below.trans ?_ (by assumption)))⟩
            · rw [dnth_set _ _ _ _ (by omega), if_neg (by have := HM.out; omega)]; exact HY.out.2.2 j (by omega)
            · rw [List.map_set]; exact (HOW2.out.stored m _).1
          case measure => simp [intOf]; omega
    · subst hxl
      obtain ⟨T, hT⟩ : ∃ T, T = sx * sy := ⟨_, rfl⟩
      have hTm : sx * sy = T := hT.symm
      rw [hTm] at hss HSG
      have HE : Hid (dval xs = ((x * y).natAbs : Nat)) := hid (by
        rw [HX.out.2.1, List.take_of_length_le (by omega), HLA.out, HLB.out, dval_dig, dval_dig, Int.natAbs_mul]; push_cast; rfl)
      have hlw0 : w.heap.size < wr.heap.size := by omega
      have hlw1 : w.heap.size + 1 < wr.heap.size := by omega
      have HO := hid (ownsRow_dig (l := xs) hown)
      have HWO : Hid (∀ W', Below wr.heap.size wr W' → Calls Try.prog 140 #[.int .i64 T, .slice (some ⟨w.heap.size + 1 + 1 + 1, 0, none⟩) xs.length xs.length] W' fun e w' => e = .returned (.agg #[.int .i64 (sg0 (dval xs) T), .slice (some ⟨w.heap.size + 1 + 1 + 1, 0, none⟩) (tri xs).length xs.length]) ∧ Below W'.heap.size W' w') := hid (fun W' hW => base_wideOf T xs (some ⟨w.heap.size + 1 + 1 + 1, 0, none⟩) xs.length W' (HO.out.ints.below hW) HX.out.1)
      have HZZ := hid (show wr.heap[w.heap.size + 1 + 1]? = _ from (hbel.block (w.heap.size + 1 + 1) (by omega)).trans HWC.out)
      obtain ⟨S, hS⟩ : ∃ S, S = sg0 (dval xs) T := ⟨_, rfl⟩
      obtain ⟨L, hL⟩ : ∃ L, L = (tri xs).length := ⟨_, rfl⟩
      rw [← hS, ← hL] at HWO
      have HSL := hid (And.intro hS hL)
      have HOW2 := hid hown
      have hwr : IntKind.i64.wrap T = T := IntWalk.i64_in _ (by omega)
      clear hown hS hL hT hn
      go_wp2_with (go_at_call 140; refine (HWO.out _ (by (repeat (with_reducible first | exact Below.refl _ _ | assumption | refine Below.drewN _ ?_ | refine Below.drew ?_ | refine Below_alloc ?_ _ | refine Below.alloc ?_ (by first | (simp; done) | (simp; omega) | omega) _ | refine Below.setCell ?_ (by first | (simp; done) | (simp; omega) | omega) _ | refine Below_call ?_ (by assumption) | refine Below.trans ?_ (by assumption))))).mono ?_; rintro _ w3 ⟨rfl, hbb⟩; have HBB := hid hbb; obtain ⟨e0, e1, p0, p1, hlt1⟩ := two_cells ((hbb.block (w.heap.size + 1 + 1) (by omega)).trans HZZ.out))
      ((try simp only [Exit.inBlock, Exit.then]); refine bodyPost_ret (v := .agg #[.int .i64 S, .slice (some ⟨w.heap.size + 1 + 1 + 1, 0, none⟩) L xs.length]) ?_ rfl ?_; (next => simp [results, Try.results137, go_sem, hlt1, e0, e1]))
      rw [HSL.out.1, HSL.out.2]
      exact ⟨_, rfl, wide_fin HX.out.1 HE.out (fun _ => HSG.out.symm) HO.out HBB.out (fun b h => ⟨by omega, HNN.out b (by omega)⟩) _ _, by (repeat (with_reducible first | exact Below.refl _ _ | assumption | refine Below.drewN _ ?_ | refine Below.drew ?_ | refine Below_alloc ?_ _ | refine Below.alloc ?_ (by first | (simp; done) | (simp; omega) | omega) _ | refine Below.setCell ?_ (by first | (simp; done) | (simp; omega) | omega) _ | refine Below_call ?_ (by assumption) | refine Below.trans ?_ (by assumption)))⟩

end Go.Proofs.Ytlmdmpjfehpjeaa

/- The quotient of wide numbers, digit by digit: plain law. -/
set_option linter.unusedVariables false
set_option linter.unusedSimpArgs false
namespace Go.Proofs.Ytlmdmpjfehpjeaa

theorem dval_drop {l : List Int} {i : Nat} (h : i < l.length) : dval (l.drop i) = nth l i + 1000000000 * dval (l.drop (i + 1)) := by
  rw [← List.getElem_cons_drop h, dval, dnth_lt h]
theorem dval_drop_set {l : List Int} {i : Nat} {d : Int} (h : i < l.length) : dval ((l.set i d).drop i) = d + 1000000000 * dval (l.drop (i + 1)) := by
  rw [dval_drop (by simpa using h), dnth_set _ _ _ _ h, if_pos rfl, List.drop_set_of_lt (by omega)]
/-- one digit of the quotient: what is left, with the next digit, below the base times b. -/
theorem floor_step {b L d D Q : Int} (hb : 0 < b) (hL : 0 ≤ L ∧ L < b) (hd : 0 ≤ d ∧ d < 1000000000) (h : Q * b + L = D) {lo : Int} (hlo : lo * b ≤ d + 1000000000 * L) (hhi : d + 1000000000 * L < (lo + 1) * b) :
    (lo + 1000000000 * Q) * b + (d + 1000000000 * L - lo * b) = d + 1000000000 * D ∧ 0 ≤ d + 1000000000 * L - lo * b ∧ d + 1000000000 * L - lo * b < b := by
  rw [Int.add_mul, Int.one_mul] at hhi
  refine ⟨?_, by omega, by omega⟩
  rw [Int.add_mul, Int.mul_assoc, ← h]
  omega
/-- the greatest digit is too great or fits: the search's first bounds. -/
theorem floor_top {b L d : Int} (hL : 0 ≤ L ∧ L < b) (hd : 0 ≤ d ∧ d < 1000000000) : d + 1000000000 * L < (999999999 + 1) * b := by omega
/-- quotient and rest: the floor. -/
theorem floor_pos {a b q r : Int} (hb : 0 < b) (h : q * b + r = a) (hr : 0 ≤ r ∧ r < b) : a / b = q := by
  have h1 : a = r + q * b := by omega
  rw [h1, Int.add_mul_ediv_right _ _ (by omega), Int.ediv_eq_zero_of_lt hr.1 hr.2, Int.zero_add]
theorem floor_neg {a b q r : Int} (hb : 0 < b) (h : q * b + r = a) (hr : 0 ≤ r ∧ r < b) : (-a) / b = if r = 0 then -q else -q - 1 := by
  split
  · next h0 => exact floor_pos (r := 0) hb (by rw [Int.neg_mul]; omega) ⟨by omega, hb⟩
  · next h0 => exact floor_pos (r := b - r) hb (by rw [Int.sub_mul, Int.neg_mul, Int.one_mul]; omega) (by omega)
end Go.Proofs.Ytlmdmpjfehpjeaa

/- The quotient of wide numbers: the product that the search compares. -/
set_option linter.unusedVariables false
set_option linter.unusedSimpArgs false
namespace Go.Proofs.Ytlmdmpjfehpjeaa
open Go.RowKit

/-- a number made of given digits and the sign 1 is the number above 0. -/
theorem wideOf_one {w : World} {b : Nat} (hb : 0 < b) {bo : Option Addr} {cap : Nat} {N : Nat → Prop} (h : DigIn w (.slice bo (dig b).length cap) (dig b) N) : WideAt w (.agg #[.int .i64 (sg0 (dval (dig b)) 1), .slice bo (tri (dig b)).length cap]) (b : Int) N := by
  obtain ⟨e1, e2⟩ := wide_of (xs := dig b) (z := (b : Int)) (s := 1) (by rw [dval_dig]; rfl) (fun _ => by unfold sg; rw [if_neg (by omega), if_neg (by omega)])
  rw [e1, e2]
  exact ⟨bo, cap, rfl, h⟩
theorem dig_small {n : Nat} (h : n < 1000000000) : (dig n).length ≤ 1 := dlen (by simp [dpw]; omega)
theorem cmpN_le {a b : Nat} : cmpN a b ≤ 0 ↔ a ≤ b := by unfold cmpN; split; omega; split <;> omega
/-- gcd by quotients. -/
theorem gcd_step {a b : Int} (ha : 0 ≤ a) (hb : 0 < b) : a - a / b * b = a % b ∧ 0 ≤ a % b ∧ a % b < b ∧ Int.gcd b (a % b) = Int.gcd a b := by
  refine ⟨?_, Int.emod_nonneg _ (by omega), Int.emod_lt_of_pos _ hb, ?_⟩
  · have h1 := Int.mul_ediv_add_emod a b
    have h2 := Int.mul_comm b (a / b)
    omega
  · obtain ⟨m, rfl⟩ := Int.eq_ofNat_of_zero_le ha
    obtain ⟨n, rfl⟩ := Int.eq_ofNat_of_zero_le (Int.le_of_lt hb)
    rw [← Int.natCast_emod]
    simp only [Int.gcd, Int.natAbs_natCast]
    rw [Nat.gcd_comm m n, Nat.gcd_comm n (m % n)]
    exact (Nat.gcd_rec n m).symm
end Go.Proofs.Ytlmdmpjfehpjeaa

/- Ratios of wide numbers: plain law. -/
set_option linter.unusedVariables false
set_option linter.unusedSimpArgs false
namespace Go.Proofs.Ytlmdmpjfehpjeaa
open Go.RowKit

theorem dlm (x y : Int) : (dig (x * y).natAbs).length ≤ (dig x.natAbs).length + (dig y.natAbs).length := by
  apply dlen
  rw [Int.natAbs_mul, dpw_add]
  have h1 := dig_high x.natAbs
  have h2 := dig_high y.natAbs
  push_cast
  have h3 := dpw_pos (dig x.natAbs).length
  exact Int.lt_of_le_of_lt (Int.mul_le_mul_of_nonneg_left (Int.le_of_lt h2) (by omega)) (Int.mul_lt_mul_of_pos_right h1 (dpw_pos _))
theorem dla (x y : Int) {k : Nat} (hx : (dig x.natAbs).length ≤ k) (hy : (dig y.natAbs).length ≤ k) : (dig (x + y).natAbs).length ≤ k + 1 := by
  apply dlen
  have h1 := dig_high x.natAbs
  have h2 := dig_high y.natAbs
  have h3 := dpw_mono hx
  have h4 := dpw_mono hy
  simp only [dpw]; omega
theorem dln (x : Int) : (dig (-x).natAbs).length = (dig x.natAbs).length := by rw [Int.natAbs_neg]
theorem dld {x y : Int} (h : x.natAbs ≤ y.natAbs) : (dig x.natAbs).length ≤ (dig y.natAbs).length := dig_len_mono h
theorem dl_small {x : Int} (h : x.natAbs < 1000000000000000000000000000) : (dig x.natAbs).length ≤ 3 := dlen (by simp only [dpw]; omega)

/-- a value is a ratio of two wide numbers. -/
def RatAt (w : World) (v : Value) (n d : Int) (N : Nat → Prop) : Prop := ∃ a b c e, v = .agg #[a, b, c, e] ∧ WideAt w (.agg #[a, b]) n N ∧ WideAt w (.agg #[c, e]) d N
theorem RatAt.mono {w w' : World} {v : Value} {n d : Int} {N N' : Nat → Prop} (h : RatAt w v n d N) (hb : Below w.heap.size w w') (hk : ∀ b, b < w.heap.size → N b → N' b) : RatAt w' v n d N' := by
  obtain ⟨a, b, c, e, rfl, h1, h2⟩ := h
  exact ⟨a, b, c, e, rfl, h1.mono hb hk, h2.mono hb hk⟩
def RetRat (w : World) (n d : Int) (N : Nat → Prop) (e : Ending) (w' : World) : Prop := ∃ v, e = .returned v ∧ RatAt w' v n d N ∧ Below w.heap.size w w'
theorem RatAt.shape {w : World} {v : Value} {n d : Int} {N : Nat → Prop} (h : RatAt w v n d N) : ∃ ao k cap bo m cap2, v = .agg #[.int .i64 (sg n), .slice ao k cap, .int .i64 (sg d), .slice bo m cap2] ∧ WideAt w (.agg #[.int .i64 (sg n), .slice ao k cap]) n N ∧ WideAt w (.agg #[.int .i64 (sg d), .slice bo m cap2]) d N := by
  obtain ⟨a, b, c, e, rfl, ⟨ao, cap, h1, h2⟩, ⟨bo, cap2, h3, h4⟩⟩ := h
  cases h1; cases h3
  exact ⟨ao, _, cap, bo, _, cap2, rfl, ⟨ao, cap, rfl, h2⟩, ⟨bo, cap2, rfl, h4⟩⟩

/-- a quotient in lowest terms. -/
def rN (n d : Int) : Int := n / (Int.gcd n d : Int)
def rD (n d : Int) : Int := d / (Int.gcd n d : Int)
theorem r_spec {n d : Int} (hd : 0 < d) : 0 < (Int.gcd n d : Int) ∧ (Int.gcd n d : Int) * rN n d = n ∧ (Int.gcd n d : Int) * rD n d = d ∧ 0 < rD n d ∧ (rN n d).natAbs ≤ n.natAbs ∧ (rD n d).natAbs ≤ d.natAbs := by
  have hg : 0 < Int.gcd n d := Nat.pos_of_ne_zero (fun h => by rw [Int.gcd_eq_zero_iff] at h; omega)
  have h1 : (Int.gcd n d : Int) * rN n d = n := Int.mul_ediv_cancel' (Int.gcd_dvd_left ..)
  have h2 : (Int.gcd n d : Int) * rD n d = d := Int.mul_ediv_cancel' (Int.gcd_dvd_right ..)
  have h3 : ∀ x y : Int, (Int.gcd n d : Int) * x = y → x.natAbs ≤ y.natAbs := by
    intro x y e
    rw [← e, Int.natAbs_mul]
    exact Nat.le_mul_of_pos_left _ (by omega)
  refine ⟨by omega, h1, h2, ?_, h3 _ _ h1, h3 _ _ h2⟩
  rcases Int.lt_trichotomy 0 (rD n d) with h | h | h
  · exact h
  · rw [← h] at h2; omega
  · have := Int.mul_neg_of_pos_of_neg (show 0 < (Int.gcd n d : Int) by omega) h; omega
theorem cancel_mul {g a b : Int} (h : g ≠ 0) (e : g * a = g * b) : a = b := Int.eq_of_mul_eq_mul_left h e
end Go.Proofs.Ytlmdmpjfehpjeaa

/- Tracks: plain law of the nearest distance. -/
set_option linter.unusedVariables false
set_option linter.unusedSimpArgs false
namespace Go.Proofs.Ytlmdmpjfehpjeaa

theorem r_mul {k x y : Int} (hk : 0 < k) : rN (k * x) (k * y) = rN x y ∧ rD (k * x) (k * y) = rD x y := by
  have e : (Int.gcd (k * x) (k * y) : Int) = k * (Int.gcd x y : Int) := by
    rw [Int.gcd_mul_left]; push_cast; congr 1; omega
  unfold rN rD
  rw [e, Int.mul_ediv_mul_of_pos _ _ hk, Int.mul_ediv_mul_of_pos _ _ hk]
  exact ⟨rfl, rfl⟩
/-- the nearest distance, as the reference reckons it. -/
theorem near_eq {dd al S : Int} (hS : 0 < S) : rN (dd * rD (al * al) S + -rN (al * al) S * 1) (1 * rD (al * al) S) = rN (dd * S - al * al) S ∧ rD (dd * rD (al * al) S + -rN (al * al) S * 1) (1 * rD (al * al) S) = rD (dd * S - al * al) S := by
  have hg : 0 < (Int.gcd (al * al) S : Int) := by
    have : 0 < Int.gcd (al * al) S := Nat.pos_of_ne_zero (fun h => by rw [Int.gcd_eq_zero_iff] at h; omega)
    omega
  have h1 : (Int.gcd (al * al) S : Int) * rN (al * al) S = al * al := Int.mul_ediv_cancel' (Int.gcd_dvd_left ..)
  have h2 : (Int.gcd (al * al) S : Int) * rD (al * al) S = S := Int.mul_ediv_cancel' (Int.gcd_dvd_right ..)
  generalize rN (al * al) S = A at *
  generalize rD (al * al) S = B at *
  generalize (Int.gcd (al * al) S : Int) = G at *
  have h := r_mul (k := G) (x := dd * B + -A * 1) (y := 1 * B) hg
  have e1 : G * (dd * B + -A * 1) = dd * S - al * al := by rw [← h1, ← h2]; grind
  have e2 : G * (1 * B) = S := by rw [← h2]; grind
  rw [e1, e2] at h
  exact ⟨h.1.symm, h.2.symm⟩
end Go.Proofs.Ytlmdmpjfehpjeaa

/- Tracks: boxes without a common step, and how many steps they have. -/
set_option linter.unusedVariables false
set_option linter.unusedSimpArgs false
namespace Go.Proofs.Ytlmdmpjfehpjeaa

theorem nodup_len {α : Type} [DecidableEq α] : ∀ (l m : List α), l.Nodup → (∀ x ∈ l, x ∈ m) → l.length ≤ m.length := by
  intro l
  induction l with
  | nil => intro m _ _; exact Nat.zero_le _
  | cons x l ih =>
    intro m hn hs
    obtain ⟨h1, h2⟩ := List.nodup_cons.1 hn
    have hx : x ∈ m := hs x (by simp)
    have h3 := ih (m.erase x) h2 (fun y hy => by
      have hy2 := hs y (by simp [hy])
      have hne : y ≠ x := fun e => h1 (e ▸ hy)
      exact (List.mem_erase_of_ne hne).2 hy2)
    rw [List.length_erase_of_mem hx] at h3
    have : 0 < m.length := List.length_pos_of_mem hx
    rw [List.length_cons]; omega
instance : DecidableEq V3 := fun a b => decidable_of_iff (a.x = b.x ∧ a.y = b.y ∧ a.z = b.z) (by
  obtain ⟨a1, a2, a3⟩ := a; obtain ⟨b1, b2, b3⟩ := b; simp [V3.mk.injEq])
theorem all_nodup (b : TBox) : b.all.Nodup := (all_sorted b).imp (fun h e => by subst e; exact lexB_irr _ h)
theorem apart_has {a b : TBox} (h : a.apart b) (s : V3) : ¬ (a.has s ∧ b.has s) := by
  unfold TBox.apart TBox.has TBox.rx TBox.ry TBox.rz Rg.has at *; simp only at *; omega
/-- boxes without a common step have at most as many steps as the box that they are in. -/
theorem sum_le {b : TBox} (L : List TBox) (o : b.ok) (h : ∀ c ∈ L, c.ok ∧ c.sub b) (hp : L.Pairwise TBox.apart) : sumC L ≤ b.count := by
  have hlen : ∀ M : List TBox, (∀ c ∈ M, c.ok) → ((M.flatMap TBox.all).length : Int) = sumC M := by
    intro M
    induction M with
    | nil => intro _; simp [sumC]
    | cons c M ih => intro hM; rw [List.flatMap_cons, List.length_append, sumC_cons, ← len_all (hM c (by simp)), ← ih (fun d hd => hM d (by simp [hd]))]; push_cast; rfl
  have hnd : ∀ M : List TBox, M.Pairwise TBox.apart → (M.flatMap TBox.all).Nodup := by
    intro M
    induction M with
    | nil => intro _; simp
    | cons c M ih =>
      intro hM
      obtain ⟨h1, h2⟩ := List.pairwise_cons.1 hM
      rw [List.flatMap_cons]
      refine List.nodup_append.2 ⟨all_nodup c, ih h2, fun x hx y hy e => ?_⟩
      subst e
      obtain ⟨d, hd, hxd⟩ := List.mem_flatMap.1 hy
      exact apart_has (h1 d hd) x ⟨mem_all.1 hx, mem_all.1 hxd⟩
  rw [← hlen L (fun c hc => (h c hc).1), ← len_all o]
  have := nodup_len (L.flatMap TBox.all) b.all (hnd L hp) (fun x hx => by
    obtain ⟨c, hc, hxc⟩ := List.mem_flatMap.1 hx
    exact mem_all.2 (sub_has (h c hc).2 (mem_all.1 hxc)))
  omega
/-- boxes without a common step that have as many steps as the box have each of them. -/
theorem sum_full {b : TBox} (L : List TBox) (o : b.ok) (h : ∀ c ∈ L, c.ok ∧ c.sub b) (hp : L.Pairwise TBox.apart) (hc : sumC L = b.count) (s : V3) (hs : b.has s) : ∃ c ∈ L, c.has s := by
  refine Classical.byContradiction fun hn => ?_
  have hb : ∀ c ∈ L, c.apart ⟨s, s⟩ := fun c hcL => by
    have h1 : ¬ c.has s := fun hh => hn ⟨c, hcL, hh⟩
    unfold TBox.apart; simp only
    unfold TBox.has TBox.rx TBox.ry TBox.rz Rg.has at h1; simp only at h1; omega
  have ho : (⟨s, s⟩ : TBox).ok := ⟨Int.le_refl _, Int.le_refl _, Int.le_refl _⟩
  have := sum_le (b := b) (⟨s, s⟩ :: L) o (fun c hcL => by
    rcases List.mem_cons.1 hcL with rfl | hcL
    · exact ⟨ho, ⟨⟨hs.1.1, hs.1.2⟩, ⟨hs.2.1.1, hs.2.1.2⟩, ⟨hs.2.2.1, hs.2.2.2⟩⟩⟩
    · exact h c hcL) (List.pairwise_cons.2 ⟨fun c hcL => apart_symm (hb c hcL), hp⟩)
  rw [sumC_cons, hc] at this
  have := count_pos ho
  omega
theorem covers_ge {m : TMod} {l : List THit} {K : Int} {b : TBox} {L : List TBox} (h : m.covers l K b L) (o : b.ok) {s : V3} (hb : b.has s) (hp : m.permit s) (hs : 0 ≤ m.slow) (hsl : m.slow < m.lo) (he : 0 ≤ m.ea ∧ 0 ≤ m.la) (hw : 0 ≤ m.mi ∧ 0 ≤ m.no) (hl : ∀ h ∈ l, 0 ≤ h.w) : K ≤ m.score s l := by
  obtain ⟨c, hc, hcs⟩ := sum_full L o (fun c hc => ⟨(h.each c hc).1, (h.each c hc).2.1⟩) h.apart h.count s hb
  exact proved_ge (h.each c hc).2.2 hcs hp hs hsl he hw hl
/-- Lagrange: the square of a product is at most the product of squares. -/
theorem lagrange (a b : V3) : 0 ≤ a.dot a * b.dot b - a.dot b * a.dot b := by
  have e : a.dot a * b.dot b - a.dot b * a.dot b = (a.x * b.y - a.y * b.x) * (a.x * b.y - a.y * b.x) + (a.x * b.z - a.z * b.x) * (a.x * b.z - a.z * b.x) + (a.y * b.z - a.z * b.y) * (a.y * b.z - a.z * b.y) := by
    unfold V3.dot; grind
  have h1 := sq_nn (a.x * b.y - a.y * b.x)
  have h2 := sq_nn (a.x * b.z - a.z * b.x)
  have h3 := sq_nn (a.y * b.z - a.z * b.y)
  omega
end Go.Proofs.Ytlmdmpjfehpjeaa

/- Tracks: the nearest distance by the program. -/
set_option linter.unusedVariables false
set_option linter.unusedSimpArgs false
namespace Go.Proofs.Ytlmdmpjfehpjeaa
open Go.RowKit

theorem track_divisor (a b : Int) (w : World) (h : 0 ≤ a) (h' : a ≤ 9223372036854775807) (hb : 0 < b) (hb' : b ≤ 9223372036854775807) :
    Calls Try.prog 79 #[.int .i64 a, .int .i64 b] w fun e w' => e = .returned (.int .i64 (Int.gcd a b : Nat)) ∧ Below w.heap.size w w' := by
  obtain ⟨g, hg⟩ : ∃ g, g = Int.gcd a b := ⟨_, rfl⟩
  have HG := hid hg
  clear hg
  go_enter Try.func79, Try.ntmps79
  go_wp2_with fail
  go_loopw [0, 1] (fun x y wr => ∃ p q : Int, x = .int .i64 p ∧ y = .int .i64 q ∧ Hid (g = Int.gcd p q) ∧ -9223372036854775808 ≤ p ∧ p ≤ 9223372036854775807 ∧ -9223372036854775807 ≤ q ∧ q ≤ 9223372036854775807 ∧ (q = 0 → -9223372036854775807 ≤ p) ∧ ∃ m, wr = w.drewN m) (fun _ y _ => (intOf y).natAbs)
  case atStart => exact ⟨a, b, rfl, rfl, HG, by omega, h', by omega, hb', by omega, 0, rfl⟩
  case round =>
    obtain ⟨p, q, rfl, rfl, hG, p1, p2, q1, q2, hq, m, rfl⟩ := hrel
    by_cases hz : q = 0
    · subst hz
      go_wp2_with fail
      all_goals
        go_ret
        refine ⟨ret_int ?_, Below.drewN m (Below.refl _ _)⟩
        rw [HG.out.symm, hG.out, Int.gcd_zero_right]
        omega
    · have hz' : (q != 0) = true := by simpa using hz
      have HT := hid (tmod_abs p q hz)
      have HT2 := hid (gcd_tmod p q)
      go_wp2_with fail
      go_quiet (fail)
      go_wp2
      go_roundw
      case rel => exact ⟨q, p.tmod q, rfl, rfl, hid (by rw [HT2.out]; exact hG.out), by omega, by omega, by have := HT.out; omega, by have := HT.out; omega, by omega, m + nq, by simp⟩
      case measure => simp only [intOf]; exact HT.out

/-- how far a place is off the model's place, and the numerator of the square of the nearest distance. -/
def TMod.off (m : TMod) (p : V3) : V3 := ⟨p.x - m.px, p.y - m.py, p.z - m.pz⟩
def TMod.num (m : TMod) (s p : V3) : Int := (m.off p).dot (m.off p) * s.dot s - (m.off p).dot s * (m.off p).dot s
theorem row_n {Q : Prop} {w w1 : World} {a : Array Value} {t : TypeId} (hb : Below (w.alloc (.cells a t)).heap.size (w.alloc (.cells a t)) w1) (k : w1.heap[w.heap.size]? = some (.cells a t (0, 0)) → Q) : Q := k ((hb.block _ (by simp)).trans (heap_alloc_new w _))
theorem off_in {m : TMod} {p : V3} (ho : m.Ok) (hp : p.inS 1000 = true) : (m.off p).inS 2000 = true := by
  rw [inS_iff] at *
  have h1 := ho.px; have h2 := ho.py; have h3 := ho.pz
  unfold TMod.off; simp only; omega
theorem near_nums {m : TMod} {s p : V3} (ho : m.Ok) (hs : s.inS 20 = true) (hpm : m.permit s) (hp : p.inS 1000 = true) :
    s.sm s ∧ (m.off p).sm s ∧ (m.off p).sm (m.off p) ∧ (1 ≤ s.dot s ∧ s.dot s ≤ 1200) ∧ (0 ≤ (m.off p).dot (m.off p) ∧ (m.off p).dot (m.off p) ≤ 12000000) ∧ (-120000 ≤ (m.off p).dot s ∧ (m.off p).dot s ≤ 120000) ∧
    (0 ≤ (m.off p).dot (m.off p) * s.dot s ∧ (m.off p).dot (m.off p) * s.dot s ≤ 14400000000) ∧ (0 ≤ (m.off p).dot s * (m.off p).dot s ∧ (m.off p).dot s * (m.off p).dot s ≤ 14400000000) ∧ (0 ≤ m.num s p ∧ m.num s p ≤ 14400000000) := by
  have hw := off_in ho hp
  have h1 := dot_sz hs hs (by omega) (by omega)
  have h2 := dot_sz hw hs (by omega) (by omega)
  have h3 := dot_sz hw hw (by omega) (by omega)
  have hS := hpm.1
  have hS2 := hpm.2
  have hl := ho.lo
  have hh := ho.hi
  have hn := V3.dot_self (m.off p)
  have hb : -120000 ≤ (m.off p).dot s ∧ (m.off p).dot s ≤ 120000 := by unfold V3.dot; omega
  have hc : (m.off p).dot (m.off p) ≤ 12000000 := by unfold V3.dot; omega
  have hbb := mul_rg hb hb (C := 14400000000) (by decide)
  have hac := mul_rg (x := (m.off p).dot (m.off p)) (y := s.dot s) (A := 12000000) (B := 1200) (C := 14400000000) (by omega) (by omega) (by decide)
  have hbn := sq_nn ((m.off p).dot s)
  have han := Int.mul_nonneg hn (show 0 ≤ s.dot s by omega)
  have hlg := lagrange (m.off p) s
  refine ⟨?_, ?_, ?_, by omega, ⟨hn, hc⟩, hb, ⟨han, by omega⟩, ⟨hbn, by omega⟩, ⟨hlg, by unfold TMod.num; omega⟩⟩
  all_goals (unfold V3.sm; omega)
/-- a quotient in lowest terms by numbers not below 0. -/
theorem r_pos {n d : Int} (hn : 0 ≤ n) (hd : 0 < d) : 0 ≤ rN n d ∧ rN n d ≤ n ∧ 1 ≤ rD n d ∧ rD n d ≤ d ∧ 1 ≤ (Int.gcd n d : Int) ∧ (Int.gcd n d : Int) ≤ d ∧ n.tdiv (Int.gcd n d) = rN n d ∧ d.tdiv (Int.gcd n d) = rD n d := by
  obtain ⟨h1, h2, h3, h4, h5, h6⟩ := r_spec (n := n) hd
  have hg : (Int.gcd n d : Int) ≤ d := Int.le_of_dvd hd (Int.gcd_dvd_right ..)
  have hN : 0 ≤ rN n d := Int.ediv_nonneg hn (by omega)
  exact ⟨hN, by omega, by omega, by omega, by omega, hg, Int.tdiv_eq_ediv_of_nonneg hn, Int.tdiv_eq_ediv_of_nonneg (by omega)⟩

set_option maxRecDepth 100000 in
set_option maxHeartbeats 8000000 in
theorem track_NearestTo (m : TMod) (s p : V3) (w : World) :
    Calls Try.prog 17 #[m.v, s.v, p.v] w fun e w' => (firstNZ [m.both s, plE p] = 0 → rN (m.num s p) (s.dot s) ≤ 1000000000 → e = .returned (.tuple #[.agg #[.int .i64 (rN (m.num s p) (s.dot s)), .int .i64 (rD (m.num s p) (s.dot s))], .int .i64 0])) ∧ (firstNZ [m.both s, plE p] = 0 → ¬ rN (m.num s p) (s.dot s) ≤ 1000000000 → e = .returned (.tuple #[.agg #[.int .i64 0, .int .i64 0], .int .i64 8])) ∧ (firstNZ [m.both s, plE p] ≠ 0 → e = .returned (.tuple #[.agg #[.int .i64 0, .int .i64 0], .int .i64 (firstNZ [m.both s, plE p])])) ∧ Below w.heap.size w w' := by
  have HO : Hid (∀ W, Calls Try.prog 73 #[m.v, s.v] W fun e w' => e = .returned (.tuple #[m.v, s.v, .int .i64 (m.both s)]) ∧ Below W.heap.size W w') := hid (fun W => track_openStep m s W)
  have HM : Hid (∀ W, Calls Try.prog 70 #[p.v] W fun e w' => e = .returned (.int .i64 (plE p)) ∧ Below W.heap.size W w') := hid (fun W => track_placeErr p W)
  have HFI : Hid (∀ v w, IntsAt w v [m.both s, plE p] → Calls Try.prog 69 #[v] w fun e w' => e = .returned (.int .i64 (firstNZ [m.both s, plE p])) ∧ w = w') := hid (fun v w h => track_first _ v w h)
  by_cases h1 : firstNZ [m.both s, plE p] = 0
  · obtain ⟨h2, h3⟩ := two_zero h1
    obtain ⟨o1, o2, o3, o4⟩ := both_ok h2
    have o5 := plE_ok h3
    obtain ⟨n1, n2, n3, nS, nd, na, nds, naa, nn⟩ := near_nums o1 o2 o3 o5
    obtain ⟨u1, u2, u3, u4, u5, u6, u7, u8⟩ := r_pos nn.1 (show 0 < s.dot s by omega)
    have hpl : m.pl.inS 100000000 = true := inS_iff.2 (by have h1 := o1.px; have h2 := o1.py; have h3 := o1.pz; unfold TMod.pl; simp only; omega)
    have hpp : p.inS 100000000 = true := inS_iff.2 (by have := inS_iff.1 o5; omega)
    have HMI : Hid (∀ W, Calls Try.prog 77 #[p.v, m.pl.v] W fun e w' => e = .returned (m.off p).v ∧ Below W.heap.size W w') := hid (fun W => track_minus p m.pl W hpp hpl)
    have HD1 : Hid (∀ W, Calls Try.prog 78 #[s.v, s.v] W fun e w' => e = .returned (.int .i64 (s.dot s)) ∧ Below W.heap.size W w') := hid (fun W => track_dot s s W n1)
    have HD2 : Hid (∀ W, Calls Try.prog 78 #[(m.off p).v, s.v] W fun e w' => e = .returned (.int .i64 ((m.off p).dot s)) ∧ Below W.heap.size W w') := hid (fun W => track_dot _ s W n2)
    have HD3 : Hid (∀ W, Calls Try.prog 78 #[(m.off p).v, (m.off p).v] W fun e w' => e = .returned (.int .i64 ((m.off p).dot (m.off p))) ∧ Below W.heap.size W w') := hid (fun W => track_dot _ _ W n3)
    have HDV : Hid (∀ W, Calls Try.prog 79 #[.int .i64 (m.num s p), .int .i64 (s.dot s)] W fun e w' => e = .returned (.int .i64 (Int.gcd (m.num s p) (s.dot s) : Nat)) ∧ Below W.heap.size W w') := hid (fun W => track_divisor _ _ W nn.1 (by omega) (by omega) (by omega))
    obtain ⟨X, Y, k1, k2, k3⟩ : ∃ X Y, IntKind.i64.wrap ((m.off p).dot (m.off p) * s.dot s) = X ∧ IntKind.i64.wrap ((m.off p).dot s * (m.off p).dot s) = Y ∧ IntKind.i64.wrap (X - Y) = m.num s p := ⟨_, _, IntWalk.i64_in _ (by omega), IntWalk.i64_in _ (by omega), IntWalk.i64_in _ (by unfold TMod.num at nn; omega)⟩
    rw [h1] at HFI
    have H1 := hid h1
    generalize hE1 : firstNZ [m.both s, plE p] = E1 at H1 ⊢
    generalize m.both s = EB at HO HFI
    generalize plE p = EM at HM HFI
    generalize (Int.gcd (m.num s p) (s.dot s)) = G at HDV u5 u6 u7 u8
    generalize m.off p = V at HMI HD2 HD3 k1 k2
    generalize rN (m.num s p) (s.dot s) = RN at u1 u2 u7 ⊢
    generalize rD (m.num s p) (s.dot s) = RD at u3 u4 u8 ⊢
    generalize m.num s p = NU at HDV k3 nn u2 u7
    generalize s.dot s = S at HD1 HDV k1 u4 u6 u8 nS
    generalize V.dot V = VV at HD3 k1
    generalize V.dot s = VS at HD2 k2
    obtain ⟨px, py, pz, tm, tk, lo, hi, li, ea, la, no, mi⟩ := m
    obtain ⟨sx, sy, sz⟩ := s
    obtain ⟨qx, qy, qz⟩ := p
    obtain ⟨vx, vy, vz⟩ := V
    unfold TMod.v V3.v at *
    simp only [TMod.pl] at *
    clear hE1 h1 h2 h3 o1 o2 o3 o4 o5 n1 n2 n3 nd na nds naa hpl hpp
    have hG0 : (G : Int) ≠ 0 := by omega
    obtain ⟨W0, hW0⟩ : ∃ W0, W0 = (((w.alloc (.cells #[.int .i64 px, .int .i64 py, .int .i64 pz, .int .i64 tm, .int .i64 tk, .int .i64 lo, .int .i64 hi, .int .i64 li, .int .i64 ea, .int .i64 la, .int .i64 no, .int .i64 mi] 26)).alloc (.cells #[.int .i64 sx, .int .i64 sy, .int .i64 sz] 22)).alloc (.cells #[.int .i64 qx, .int .i64 qy, .int .i64 qz] 22)).alloc (.cells #[.int .i64 0, .int .i64 0] 37) := ⟨_, rfl⟩
    have hbW0 : Below w.heap.size w W0 := by rw [hW0]; (repeat (with_reducible first | exact Below.refl _ _ | assumption | refine Below.drewN _ ?_ | refine Below.drew ?_ | refine Below_alloc ?_ _ | refine Below.alloc ?_ (by first | (simp; done) | (simp; omega) | omega) _ | refine Below.setCell ?_ (by first | (simp; done) | (simp; omega) | omega) _ | refine Below_call ?_ (by assumption) | refine Below.trans ?_ (by assumption)))
    obtain ⟨hz0, q0, q1, q2, q3⟩ := al4 w _ _ _ _ _ _ _ _ W0 hW0
    have Q2 := hid q2
    have Q3 := hid q3
    clear q0 q1 q2 q3
    go_enter Try.func17, Try.ntmps17
    go_wp2_with (first | (go_at_call 73; rw [← hW0]; refine (HO.out _).mono ?_; rintro _ w1 ⟨rfl, hb1⟩; have hz1 := hb1.size; obtain ⟨c0, c1, c2, fc0, fc1, fc2, hl2⟩ := three_cells ((hb1.block (w.heap.size + 1 + 1) (by omega)).trans Q2.out); have hl2' : w.heap.size + 1 + 1 < w1.heap.size + 1 := Nat.lt_succ_of_lt hl2) | (go_at_call 70; obtain ⟨WB, hWB⟩ : ∃ WB, WB = (w1.alloc (.cells #[.int .i64 px, .int .i64 py, .int .i64 pz, .int .i64 tm, .int .i64 tk, .int .i64 lo, .int .i64 hi, .int .i64 li, .int .i64 ea, .int .i64 la, .int .i64 no, .int .i64 mi] 134)).alloc (.cells #[.int .i64 sx, .int .i64 sy, .int .i64 sz] 135) := ⟨_, rfl⟩; rw [← hWB]; have hbWB : Below w1.heap.size w1 WB := (by rw [hWB]; (repeat (with_reducible first | exact Below.refl _ _ | assumption | refine Below.drewN _ ?_ | refine Below.drew ?_ | refine Below_alloc ?_ _ | refine Below.alloc ?_ (by first | (simp; done) | (simp; omega) | omega) _ | refine Below.setCell ?_ (by first | (simp; done) | (simp; omega) | omega) _ | refine Below_call ?_ (by assumption) | refine Below.trans ?_ (by assumption)))); obtain ⟨r0, r1, hr0, hr1⟩ := al2 w1 _ _ _ _ WB hWB; clear hWB; refine (HM.out _).mono ?_; rintro _ w2 ⟨rfl, hb2⟩; have hb12 : Below W0.heap.size W0 w2 := (hb1.trans (hbWB.mono hz1)).trans (hb2.mono (Nat.le_trans hz1 hbWB.size)); have HB12 := hid hb12; have R0 := hid ((hb2.block w1.heap.size hr0).trans r0); have R1 := hid ((hb2.block (w1.heap.size + 1) hr1).trans r1); have hml : w1.heap.size + 1 < w2.heap.size := Nat.lt_of_lt_of_le hr1 hb2.size; clear r0 r1 c0 c1 c2 fc0 fc1 fc2 hl2 hl2'; have hbf : Below w.heap.size w w2 := hbW0.trans (hb12.mono (by have := hbW0.size; omega)); obtain ⟨g0, g1, fg0, fg1, hgl⟩ := two_cells ((hb12.block (w.heap.size + 1 + 1 + 1) (by omega)).trans Q3.out)) | (go_at_call 69; refine (HFI.out _ _ (intsAt_new _ _ _ _ _ rfl (by simp) (by first | rfl | simp))).mono ?_; rintro _ _ ⟨rfl, rfl⟩))
    obtain ⟨W3, hW3⟩ : ∃ W3, W3 = w2.alloc (.cells #[.int .i64 EB, .int .i64 EM] 30) := ⟨_, rfl⟩
    have hb23 : Below w2.heap.size w2 W3 := by rw [hW3]; (repeat (with_reducible first | exact Below.refl _ _ | assumption | refine Below.drewN _ ?_ | refine Below.drew ?_ | refine Below_alloc ?_ _ | refine Below.alloc ?_ (by first | (simp; done) | (simp; omega) | omega) _ | refine Below.setCell ?_ (by first | (simp; done) | (simp; omega) | omega) _ | refine Below_call ?_ (by assumption) | refine Below.trans ?_ (by assumption)))
    rw [← hW3]
    clear hW3 g0 g1 fg0 fg1 hgl
    have hz23 := hb23.size
    have HB03 : Hid (Below W0.heap.size W0 W3) := hid (hb12.trans (hb23.mono hb12.size))
    have x0 := (hb23.block w1.heap.size (by omega)).trans R0.out
    have x1 := (hb23.block (w1.heap.size + 1) hml).trans R1.out
    have x2 := (HB03.out.block (w.heap.size + 1 + 1) (by omega)).trans Q2.out
    obtain ⟨m0, m1, m2, m3, m4, m5, m6, m7, m8, m9, m10, m11, ml⟩ := tw_cells (x0)
    obtain ⟨s0, s1, s2, fs0, fs1, fs2, hls⟩ := three_cells x1
    obtain ⟨p0, p1, p2, fp0, fp1, fp2, hlp⟩ := three_cells x2
    have X1 := hid x1
    clear x0 x1 x2 fs0 fs1 fs2 fp0 fp1 fp2 m3 m4 m5 m6 m7 m8 m9 m10 m11 hb1 hb2 hbWB hb12 hb23
    refine wp_mixG (fun wc => Below (W3.heap.size) W3 wc) 10 [0, 1, 2, 3, 5, 6] [4, 7] 8 [.f [9]] [.q [10]] #[true, true, true, true, true, true, true, true, true, false, false] (by kernel_rfl) (by kernel_rfl) ((Below.refl _ _).drew) ?_
    intro Q' hQ'
    simp only [pick, List.drop_succ_cons, List.drop_zero, List.head?_cons, Option.toList_some, List.cons_append, List.nil_append]
    (repeat (first | go_big_quiet_skip | (go_big_quiet_want; refine quiet_simple rfl ?_; go_big_quiet_op; go_big_quiet_on) | (go_big_quiet_want; refine quiet_agg3B (ty := 22) rfl rfl (by kernel_rfl) (by assumption) (by assumption) (by assumption) (by first | omega | (simp; omega)) ?_; simp only [Act.put, List.setIfInBounds_toArray, List.set_cons_succ, List.set_cons_zero]; go_big_quiet_on) | (go_big_quiet_want; refine quiet_agg3B (ty := 135) rfl rfl (by kernel_rfl) (by assumption) (by assumption) (by assumption) (by first | omega | (simp; omega)) ?_; simp only [Act.put, List.setIfInBounds_toArray, List.set_cons_succ, List.set_cons_zero]; go_big_quiet_on)))
    (try refine wpQuiet_nil ?_)
    (rw [wpFlt])
    (refine ⟨?_, ?_⟩)
    (go_wp2_with ((go_at_call 77; refine (HMI.out _).mono ?_; rintro _ w4 ⟨rfl, hb4⟩; have hz4 : W3.heap.size ≤ w4.heap.size := (by have := hb4.size; first | exact this | (simp at this; omega)); (try (refine row_k hb4 (fun hrow => ?_); obtain ⟨f0, f1, f2, ff0, ff1, ff2, hlf⟩ := three_cells hrow)))); rw [contF]; refine ⟨?_, ?_⟩; (next => (repeat (with_reducible first | exact Below.refl _ _ | assumption | refine Below.drewN _ ?_ | refine Below.drew ?_ | refine Below_alloc ?_ _ | refine Below.alloc ?_ (by first | (simp; done) | (simp; omega) | omega) _ | refine Below.setCell ?_ (by first | (simp; done) | (simp; omega) | omega) _ | refine Below_call ?_ (by assumption) | refine Below.trans ?_ (by assumption)))))
    rotate_left
    (simp only [List.cons_append, List.nil_append])
    (rw [wpSteps]; (go_wp2_with (fail); rw [contF]; refine ⟨?_, ?_⟩; (next => (repeat (with_reducible first | exact Below.refl _ _ | assumption | refine Below.drewN _ ?_ | refine Below.drew ?_ | refine Below_alloc ?_ _ | refine Below.alloc ?_ (by first | (simp; done) | (simp; omega) | omega) _ | refine Below.setCell ?_ (by first | (simp; done) | (simp; omega) | omega) _ | refine Below_call ?_ (by assumption) | refine Below.trans ?_ (by assumption))))))
    (rw [wpSteps]; (go_wp2_with ((go_at_call 77; refine (HMI.out _).mono ?_; rintro _ w4 ⟨rfl, hb4⟩; have hz4 : W3.heap.size ≤ w4.heap.size := (by have := hb4.size; first | exact this | (simp at this; omega)); (try (refine row_k hb4 (fun hrow => ?_); obtain ⟨f0, f1, f2, ff0, ff1, ff2, hlf⟩ := three_cells hrow)))); rw [contF]; refine ⟨?_, ?_⟩; (next => (repeat (with_reducible first | exact Below.refl _ _ | assumption | refine Below.drewN _ ?_ | refine Below.drew ?_ | refine Below_alloc ?_ _ | refine Below.alloc ?_ (by first | (simp; done) | (simp; omega) | omega) _ | refine Below.setCell ?_ (by first | (simp; done) | (simp; omega) | omega) _ | refine Below_call ?_ (by assumption) | refine Below.trans ?_ (by assumption))))))
    (rw [wpSteps]; (go_wp2_with ((go_at_call 78; refine (HD1.out _).mono ?_; rintro _ w5 ⟨rfl, hb5⟩; (first | (refine row_n hb5 (fun hrow => ?_); obtain ⟨f0, f1, f2, ff0, ff1, ff2, hlf⟩ := three_cells hrow) | (have hrow' := (hb5.block _ hlf).trans hrow; clear hrow f0 f1 f2 ff0 ff1 ff2; have hrow := hrow'; obtain ⟨f0, f1, f2, ff0, ff1, ff2, hlf'⟩ := three_cells hrow) | skip))); rw [contF]; refine ⟨?_, ?_⟩; (next => (repeat (with_reducible first | exact Below.refl _ _ | assumption | refine Below.drewN _ ?_ | refine Below.drew ?_ | refine Below_alloc ?_ _ | refine Below.alloc ?_ (by first | (simp; done) | (simp; omega) | omega) _ | refine Below.setCell ?_ (by first | (simp; done) | (simp; omega) | omega) _ | refine Below_call ?_ (by assumption) | refine Below.trans ?_ (by assumption))))))
    (rw [wpSteps])
    rotate_right
    (rw [wpFlt])
    (refine ⟨?_, ?_⟩)
    (go_wp2_with ((go_at_call 78; refine (HD1.out _).mono ?_; rintro _ w5 ⟨rfl, hb5⟩; (first | (refine row_n hb5 (fun hrow => ?_); obtain ⟨f0, f1, f2, ff0, ff1, ff2, hlf⟩ := three_cells hrow) | (have hrow' := (hb5.block _ hlf).trans hrow; clear hrow f0 f1 f2 ff0 ff1 ff2; have hrow := hrow'; obtain ⟨f0, f1, f2, ff0, ff1, ff2, hlf'⟩ := three_cells hrow) | skip))); rw [contF]; refine ⟨?_, ?_⟩; (next => (repeat (with_reducible first | exact Below.refl _ _ | assumption | refine Below.drewN _ ?_ | refine Below.drew ?_ | refine Below_alloc ?_ _ | refine Below.alloc ?_ (by first | (simp; done) | (simp; omega) | omega) _ | refine Below.setCell ?_ (by first | (simp; done) | (simp; omega) | omega) _ | refine Below_call ?_ (by assumption) | refine Below.trans ?_ (by assumption)))))
    rotate_left
    (simp only [List.cons_append, List.nil_append])
    (rw [wpSteps]; (go_wp2_with (fail); rw [contF]; refine ⟨?_, ?_⟩; (next => (repeat (with_reducible first | exact Below.refl _ _ | assumption | refine Below.drewN _ ?_ | refine Below.drew ?_ | refine Below_alloc ?_ _ | refine Below.alloc ?_ (by first | (simp; done) | (simp; omega) | omega) _ | refine Below.setCell ?_ (by first | (simp; done) | (simp; omega) | omega) _ | refine Below_call ?_ (by assumption) | refine Below.trans ?_ (by assumption))))))
    (rw [wpSteps]; (go_wp2_with ((go_at_call 78; refine (HD1.out _).mono ?_; rintro _ w5 ⟨rfl, hb5⟩; (first | (refine row_n hb5 (fun hrow => ?_); obtain ⟨f0, f1, f2, ff0, ff1, ff2, hlf⟩ := three_cells hrow) | (have hrow' := (hb5.block _ hlf).trans hrow; clear hrow f0 f1 f2 ff0 ff1 ff2; have hrow := hrow'; obtain ⟨f0, f1, f2, ff0, ff1, ff2, hlf'⟩ := three_cells hrow) | skip))); rw [contF]; refine ⟨?_, ?_⟩; (next => (repeat (with_reducible first | exact Below.refl _ _ | assumption | refine Below.drewN _ ?_ | refine Below.drew ?_ | refine Below_alloc ?_ _ | refine Below.alloc ?_ (by first | (simp; done) | (simp; omega) | omega) _ | refine Below.setCell ?_ (by first | (simp; done) | (simp; omega) | omega) _ | refine Below_call ?_ (by assumption) | refine Below.trans ?_ (by assumption))))))
    (rw [wpSteps])
    rotate_right
    (rw [wpFlt, wpSteps]; (go_wp2_with (fail); rw [contF]; refine ⟨?_, ?_⟩; (next => (repeat (with_reducible first | exact Below.refl _ _ | assumption | refine Below.drewN _ ?_ | refine Below.drew ?_ | refine Below_alloc ?_ _ | refine Below.alloc ?_ (by first | (simp; done) | (simp; omega) | omega) _ | refine Below.setCell ?_ (by first | (simp; done) | (simp; omega) | omega) _ | refine Below_call ?_ (by assumption) | refine Below.trans ?_ (by assumption))))))
    (rw [wpSteps])
    all_goals (rw [wpMixC]; simp only [pick, List.drop_succ_cons, List.drop_zero, List.head?_cons, Option.toList_some, List.cons_append, List.nil_append])
    all_goals (rw [wpSteps]; (go_wp2_with (fail); rw [contF]; refine ⟨?_, ?_⟩; (next => (repeat (with_reducible first | exact Below.refl _ _ | assumption | refine Below.drewN _ ?_ | refine Below.drew ?_ | refine Below_alloc ?_ _ | refine Below.alloc ?_ (by first | (simp; done) | (simp; omega) | omega) _ | refine Below.setCell ?_ (by first | (simp; done) | (simp; omega) | omega) _ | refine Below_call ?_ (by assumption) | refine Below.trans ?_ (by assumption))))))
    all_goals (rw [wpSteps])
    all_goals (rw [wpMixC])
    all_goals (rw [wpMix]; simp only [pick, List.drop_succ_cons, List.drop_zero, List.head?_cons, Option.toList_some, List.cons_append, List.nil_append])
    all_goals (repeat (first | (go_big_quiet_step (fail)) | (quiet_step (fail))))
    all_goals (try refine wpQuiet_nil ?_)
    all_goals (rw [wpMix])
    all_goals (refine hQ' _ _ ?_)
    all_goals first
    | (have hb45 : Below W3.heap.size W3 w5 := by (repeat (with_reducible first | exact Below.refl _ _ | assumption | refine Below.drewN _ ?_ | refine Below.drew ?_ | refine Below_alloc ?_ _ | refine Below.alloc ?_ (by first | (simp; done) | (simp; omega) | omega) _ | refine Below.setCell ?_ (by first | (simp; done) | (simp; omega) | omega) _ | refine Below_call ?_ (by assumption) | refine Below.trans ?_ (by assumption)))
       obtain ⟨W, hW⟩ : ∃ W, W = w5.alloc (.cells #[.int .i64 vx, .int .i64 vy, .int .i64 vz] 135) := ⟨_, rfl⟩
       have hrow : W.heap[w5.heap.size]? = some (.cells #[.int .i64 vx, .int .i64 vy, .int .i64 vz] 135 (0, 0)) := by rw [hW]; exact heap_alloc_new w5 _
       have hbb : Below W3.heap.size W3 W := by rw [hW]; (repeat (with_reducible first | exact Below.refl _ _ | assumption | refine Below.drewN _ ?_ | refine Below.drew ?_ | refine Below_alloc ?_ _ | refine Below.alloc ?_ (by first | (simp; done) | (simp; omega) | omega) _ | refine Below.setCell ?_ (by first | (simp; done) | (simp; omega) | omega) _ | refine Below_call ?_ (by assumption) | refine Below.trans ?_ (by assumption)))
       rw [← hW]
       obtain ⟨g, hg⟩ : ∃ g, g = w5.heap.size := ⟨_, rfl⟩
       rw [← hg] at hrow ⊢
       clear hW)
    | (have hb45 : Below W3.heap.size W3 w5 := by (repeat (with_reducible first | exact Below.refl _ _ | assumption | refine Below.drewN _ ?_ | refine Below.drew ?_ | refine Below_alloc ?_ _ | refine Below.alloc ?_ (by first | (simp; done) | (simp; omega) | omega) _ | refine Below.setCell ?_ (by first | (simp; done) | (simp; omega) | omega) _ | refine Below_call ?_ (by assumption) | refine Below.trans ?_ (by assumption)))
       obtain ⟨W, hW⟩ : ∃ W, W = ((w5.setCell ⟨w4.heap.size, 0, none⟩ (.int .i64 vx)).setCell ⟨w4.heap.size, 1, none⟩ (.int .i64 vy)).setCell ⟨w4.heap.size, 2, none⟩ (.int .i64 vz) := ⟨_, rfl⟩
       have hrow : W.heap[w4.heap.size]? = some (.cells #[.int .i64 vx, .int .i64 vy, .int .i64 vz] 135 (0, 0)) := by rw [hW]; exact heap_setCell_same _ _ 2 _ _ (.int .i64 vz) (heap_setCell_same _ _ 1 _ _ (.int .i64 vy) (heap_setCell_same _ _ 0 _ _ (.int .i64 vx) hrow))
       have hbb : Below W3.heap.size W3 W := by rw [hW]; (repeat (with_reducible first | exact Below.refl _ _ | assumption | refine Below.drewN _ ?_ | refine Below.drew ?_ | refine Below_alloc ?_ _ | refine Below.alloc ?_ (by first | (simp; done) | (simp; omega) | omega) _ | refine Below.setCell ?_ (by first | (simp; done) | (simp; omega) | omega) _ | refine Below_call ?_ (by assumption) | refine Below.trans ?_ (by assumption)))
       rw [← hW]
       obtain ⟨g, hg⟩ : ∃ g, g = w4.heap.size := ⟨_, rfl⟩
       rw [← hg] at hrow ⊢
       clear hW)
    | (have hb45 : Below W3.heap.size W3 w5 := by (repeat (with_reducible first | exact Below.refl _ _ | assumption | refine Below.drewN _ ?_ | refine Below.drew ?_ | refine Below_alloc ?_ _ | refine Below.alloc ?_ (by first | (simp; done) | (simp; omega) | omega) _ | refine Below.setCell ?_ (by first | (simp; done) | (simp; omega) | omega) _ | refine Below_call ?_ (by assumption) | refine Below.trans ?_ (by assumption)))
       obtain ⟨W, hW⟩ : ∃ W, W = ((w5.setCell ⟨W3.heap.size, 0, none⟩ (.int .i64 vx)).setCell ⟨W3.heap.size, 1, none⟩ (.int .i64 vy)).setCell ⟨W3.heap.size, 2, none⟩ (.int .i64 vz) := ⟨_, rfl⟩
       have hrow : W.heap[W3.heap.size]? = some (.cells #[.int .i64 vx, .int .i64 vy, .int .i64 vz] 135 (0, 0)) := by rw [hW]; exact heap_setCell_same _ _ 2 _ _ (.int .i64 vz) (heap_setCell_same _ _ 1 _ _ (.int .i64 vy) (heap_setCell_same _ _ 0 _ _ (.int .i64 vx) hrow))
       have hbb : Below W3.heap.size W3 W := by rw [hW]; (repeat (with_reducible first | exact Below.refl _ _ | assumption | refine Below.drewN _ ?_ | refine Below.drew ?_ | refine Below_alloc ?_ _ | refine Below.alloc ?_ (by first | (simp; done) | (simp; omega) | omega) _ | refine Below.setCell ?_ (by first | (simp; done) | (simp; omega) | omega) _ | refine Below_call ?_ (by assumption) | refine Below.trans ?_ (by assumption)))
       rw [← hW]
       obtain ⟨g, hg⟩ : ∃ g, g = W3.heap.size := ⟨_, rfl⟩
       rw [← hg] at hrow ⊢
       clear hW)
    all_goals
      clear hg
      have x1 := (hbb.block (w1.heap.size + 1) hls).trans X1.out
      clear m0 m1 m2 p0 p1 p2 s0 s1 s2 hls hlp
      obtain ⟨s0, s1, s2, fs0, fs1, fs2, hls⟩ := three_cells x1
      obtain ⟨v0, v1, v2, fv0, fv1, fv2, hlg⟩ := three_cells hrow
      clear x1 fs0 fs1 fs2 fv0 fv1 fv2
      go_wp2_with fail
      have HBB := hid hbb
      have HX : Hid (Below W0.heap.size W0 W) := hid (HB03.out.trans (hbb.mono HB03.out.size))
      refine wp_mixC (fun wc => Below (W.heap.size) W wc) 13 [.q [0, 1, 3, 5, 6, 8, 9], .f [2], .q [4], .f [7, 10], .q [11, 12]] [.q [13]] (by kernel_rfl) (by kernel_rfl) ((Below.refl _ _).drew) ?_
      intro Q' hQ'
      (rw [wpMixC]; simp only [pick, List.drop_succ_cons, List.drop_zero, List.head?_cons, Option.toList_some, List.cons_append, List.nil_append])
      (repeat (first | go_big_quiet_skip | (go_big_quiet_want; refine quiet_simple rfl ?_; go_big_quiet_op; go_big_quiet_on) | (go_big_quiet_want; refine quiet_agg3B (ty := 135) rfl rfl (by kernel_rfl) (by assumption) (by assumption) (by assumption) (by first | omega | (simp; omega)) ?_; simp only [Act.put, List.setIfInBounds_toArray, List.set_cons_succ, List.set_cons_zero]; go_big_quiet_on)))
      (try refine wpQuiet_nil ?_)
      (rw [wpMixC]; simp only [pick, List.drop_succ_cons, List.drop_zero, List.head?_cons, Option.toList_some, List.cons_append, List.nil_append])
      (rw [wpSteps]; go_wp2_with ((first | (go_at_call 78; ((with_reducible refine (HD3.out _).mono ?_); rintro _ w6 ⟨rfl, hb6⟩)) | (go_at_call 78; ((with_reducible refine (HD2.out _).mono ?_); rintro _ w7 ⟨rfl, hb7⟩)))); rw [contF]; refine ⟨?_, ?_⟩; (next => (repeat (with_reducible first | exact Below.refl _ _ | assumption | refine Below.drewN _ ?_ | refine Below.drew ?_ | refine Below_alloc ?_ _ | refine Below.alloc ?_ (by first | (simp; done) | (simp; omega) | omega) _ | refine Below.setCell ?_ (by first | (simp; done) | (simp; omega) | omega) _ | refine Below_call ?_ (by assumption) | refine Below.trans ?_ (by assumption)))))
      (rw [wpSteps])
      (rw [wpMixC]; simp only [pick, List.drop_succ_cons, List.drop_zero, List.head?_cons, Option.toList_some, List.cons_append, List.nil_append])
      (repeat (first | go_big_quiet_skip | (go_big_quiet_want; refine quiet_simple rfl ?_; go_big_quiet_op; go_big_quiet_on) | (go_big_quiet_want; refine quiet_agg3B (ty := 135) rfl rfl (by kernel_rfl) (by assumption) (by assumption) (by assumption) (by first | omega | (simp; omega)) ?_; simp only [Act.put, List.setIfInBounds_toArray, List.set_cons_succ, List.set_cons_zero]; go_big_quiet_on)))
      (try refine wpQuiet_nil ?_)
      (rw [wpMixC]; simp only [pick, List.drop_succ_cons, List.drop_zero, List.head?_cons, Option.toList_some, List.cons_append, List.nil_append])
      (rw [wpSteps]; go_wp2_with ((first | (go_at_call 78; ((with_reducible refine (HD3.out _).mono ?_); rintro _ w6 ⟨rfl, hb6⟩)) | (go_at_call 78; ((with_reducible refine (HD2.out _).mono ?_); rintro _ w7 ⟨rfl, hb7⟩)))); rw [contF]; refine ⟨?_, ?_⟩; (next => (repeat (with_reducible first | exact Below.refl _ _ | assumption | refine Below.drewN _ ?_ | refine Below.drew ?_ | refine Below_alloc ?_ _ | refine Below.alloc ?_ (by first | (simp; done) | (simp; omega) | omega) _ | refine Below.setCell ?_ (by first | (simp; done) | (simp; omega) | omega) _ | refine Below_call ?_ (by assumption) | refine Below.trans ?_ (by assumption)))))
      (rw [wpSteps]; go_wp2_with ((first | (go_at_call 78; ((with_reducible refine (HD3.out _).mono ?_); rintro _ w6 ⟨rfl, hb6⟩)) | (go_at_call 78; ((with_reducible refine (HD2.out _).mono ?_); rintro _ w7 ⟨rfl, hb7⟩)))); rw [contF]; refine ⟨?_, ?_⟩; (next => (repeat (with_reducible first | exact Below.refl _ _ | assumption | refine Below.drewN _ ?_ | refine Below.drew ?_ | refine Below_alloc ?_ _ | refine Below.alloc ?_ (by first | (simp; done) | (simp; omega) | omega) _ | refine Below.setCell ?_ (by first | (simp; done) | (simp; omega) | omega) _ | refine Below_call ?_ (by assumption) | refine Below.trans ?_ (by assumption)))))
      (rw [wpSteps])
      (rw [wpMixC]; simp only [pick, List.drop_succ_cons, List.drop_zero, List.head?_cons, Option.toList_some, List.cons_append, List.nil_append])
      (repeat (first | go_big_quiet_skip | (go_big_quiet_want; refine quiet_simple rfl ?_; go_big_quiet_op; go_big_quiet_on) | (go_big_quiet_want; refine quiet_agg3B (ty := 135) rfl rfl (by kernel_rfl) (by assumption) (by assumption) (by assumption) (by first | omega | (simp; omega)) ?_; simp only [Act.put, List.setIfInBounds_toArray, List.set_cons_succ, List.set_cons_zero]; go_big_quiet_on)))
      (try refine wpQuiet_nil ?_)
      (rw [wpMixC])
      (rw [wpMix]; simp only [pick, List.drop_succ_cons, List.drop_zero, List.head?_cons, Option.toList_some, List.cons_append, List.nil_append])
      (repeat (first | (go_big_quiet_step (fail)) | (quiet_step (fail))))
      (try refine wpQuiet_nil ?_)
      (rw [wpMix])
      (refine hQ' _ _ ?_)
      by_cases hN : RN ≤ 1000000000
      · have HN := hid hN
        have hN2 : ¬ 1000000000 < RN := by omega
        go_wp2_with (go_at_call 79; refine (HDV.out _).mono ?_; rintro _ w8 ⟨rfl, hb8⟩)
        have hb8' : Below W.heap.size W w8 := by (repeat (with_reducible first | exact Below.refl _ _ | assumption | refine Below.drewN _ ?_ | refine Below.drew ?_ | refine Below_alloc ?_ _ | refine Below.alloc ?_ (by first | (simp; done) | (simp; omega) | omega) _ | refine Below.setCell ?_ (by first | (simp; done) | (simp; omega) | omega) _ | refine Below_call ?_ (by assumption) | refine Below.trans ?_ (by assumption)))
        have hbe : Below W0.heap.size W0 w8 := HX.out.trans (hb8'.mono HX.out.size)
        have hbE : Below w.heap.size w w8 := hbW0.trans (hbe.mono (by omega))
        have y3 := (hbe.block (w.heap.size + 1 + 1 + 1) (by omega)).trans Q3.out
        obtain ⟨g0, g1, fg0, fg1, hgl⟩ := two_cells y3
        clear y3 hb8' hbe hb6 hb7 hb8
        refine wp_mixC (fun wc => Below ((w.heap.size)) w8 wc) 7 [.q [0, 1, 2, 3, 4, 5, 6]] [.f [7], .q [8]] (by kernel_rfl) (by kernel_rfl) ((Below.refl _ _).drew) ?_
        intro Q' hQ'
        (rw [wpMixC]; simp only [pick, List.drop_succ_cons, List.drop_zero, List.head?_cons, Option.toList_some, List.cons_append, List.nil_append])
        (repeat (first | go_big_quiet_skip | (go_big_quiet_want; refine quiet_simple rfl ?_; go_big_quiet_op; go_big_quiet_on)))
        (try refine wpQuiet_nil ?_)
        (rw [wpMixC])
        (rw [wpMix]; simp only [pick, List.drop_succ_cons, List.drop_zero, List.head?_cons, Option.toList_some, List.cons_append, List.nil_append])
        (go_wp2_with ((first | fail)); rw [contF])
        (rw [wpMix]; simp only [pick, List.drop_succ_cons, List.drop_zero, List.head?_cons, Option.toList_some, List.cons_append, List.nil_append])
        (repeat (first | (go_big_quiet_step (fail)) | (quiet_step (fail))))
        (try refine wpQuiet_nil ?_)
        (rw [wpMix])
        (refine hQ' _ _ ?_)
        go_wp2_with fail
        ((try simp only [Exit.inBlock, Exit.then]); refine bodyPost_ret (v := .tuple #[.agg #[.int .i64 RN, .int .i64 RD], .int .i64 0]) ?_ rfl ?_; (next => simp [results, Try.results17, go_sem, hgl, g0, g1]))
        refine ⟨?_, ?_, ?_, by (repeat (with_reducible first | exact Below.refl _ _ | assumption | refine Below.drewN _ ?_ | refine Below.drew ?_ | refine Below_alloc ?_ _ | refine Below.alloc ?_ (by first | (simp; done) | (simp; omega) | omega) _ | refine Below.setCell ?_ (by first | (simp; done) | (simp; omega) | omega) _ | refine Below_call ?_ (by assumption) | refine Below.trans ?_ (by assumption)))⟩
        all_goals (intros; first | rfl | (exfalso; have hx := H1.out; have hy := HN.out; omega))
      · have HN := hid hN
        have hN2 : 1000000000 < RN := by omega
        go_wp2_with (go_at_call 79; refine (HDV.out _).mono ?_; rintro _ w8 ⟨rfl, hb8⟩; have hb8' : Below W.heap.size W w8 := (by (repeat (with_reducible first | exact Below.refl _ _ | assumption | refine Below.drewN _ ?_ | refine Below.drew ?_ | refine Below_alloc ?_ _ | refine Below.alloc ?_ (by first | (simp; done) | (simp; omega) | omega) _ | refine Below.setCell ?_ (by first | (simp; done) | (simp; omega) | omega) _ | refine Below_call ?_ (by assumption) | refine Below.trans ?_ (by assumption)))); have hbe : Below W0.heap.size W0 w8 := HX.out.trans (hb8'.mono HX.out.size); have hbE : Below w.heap.size w w8 := hbW0.trans (hbe.mono (by omega)); have y3 := (hbe.block (w.heap.size + 1 + 1 + 1) (by omega)).trans Q3.out; obtain ⟨g0, g1, fg0, fg1, hgl⟩ := two_cells y3; clear y3 hb8' hbe hb6 hb7 hb8)
        ((try simp only [Exit.inBlock, Exit.then]); refine bodyPost_ret (v := .tuple #[.agg #[.int .i64 0, .int .i64 0], .int .i64 8]) ?_ rfl ?_; (next => simp [results, Try.results17, go_sem, hgl, g0, g1]))
        refine ⟨?_, ?_, ?_, by (repeat (with_reducible first | exact Below.refl _ _ | assumption | refine Below.drewN _ ?_ | refine Below.drew ?_ | refine Below_alloc ?_ _ | refine Below.alloc ?_ (by first | (simp; done) | (simp; omega) | omega) _ | refine Below.setCell ?_ (by first | (simp; done) | (simp; omega) | omega) _ | refine Below_call ?_ (by assumption) | refine Below.trans ?_ (by assumption)))⟩
        all_goals (intros; first | rfl | (exfalso; have hx := H1.out; have hy := HN.out; omega))
  · have hne : (firstNZ [m.both s, plE p] != 0) = true := by simpa using h1
    have HN := hid h1
    clear h1
    generalize firstNZ [m.both s, plE p] = E1 at HFI HN hne ⊢
    generalize m.both s = EB at HO HFI
    generalize plE p = EM at HM HFI
    generalize rN (m.num s p) (s.dot s) = RN
    generalize rD (m.num s p) (s.dot s) = RD
    obtain ⟨px, py, pz, tm, tk, lo, hi, li, ea, la, no, mi⟩ := m
    obtain ⟨sx, sy, sz⟩ := s
    obtain ⟨qx, qy, qz⟩ := p
    unfold TMod.v V3.v at *
    simp only at *
    obtain ⟨W0, hW0⟩ : ∃ W0, W0 = (((w.alloc (.cells #[.int .i64 px, .int .i64 py, .int .i64 pz, .int .i64 tm, .int .i64 tk, .int .i64 lo, .int .i64 hi, .int .i64 li, .int .i64 ea, .int .i64 la, .int .i64 no, .int .i64 mi] 26)).alloc (.cells #[.int .i64 sx, .int .i64 sy, .int .i64 sz] 22)).alloc (.cells #[.int .i64 qx, .int .i64 qy, .int .i64 qz] 22)).alloc (.cells #[.int .i64 0, .int .i64 0] 37) := ⟨_, rfl⟩
    have hbW0 : Below w.heap.size w W0 := by rw [hW0]; (repeat (with_reducible first | exact Below.refl _ _ | assumption | refine Below.drewN _ ?_ | refine Below.drew ?_ | refine Below_alloc ?_ _ | refine Below.alloc ?_ (by first | (simp; done) | (simp; omega) | omega) _ | refine Below.setCell ?_ (by first | (simp; done) | (simp; omega) | omega) _ | refine Below_call ?_ (by assumption) | refine Below.trans ?_ (by assumption)))
    obtain ⟨hz0, q0, q1, q2, q3⟩ := al4 w _ _ _ _ _ _ _ _ W0 hW0
    have Q2 := hid q2
    have Q3 := hid q3
    clear q0 q1 q2 q3
    go_enter Try.func17, Try.ntmps17
    go_wp2_with (first | (go_at_call 73; rw [← hW0]; refine (HO.out _).mono ?_; rintro _ w1 ⟨rfl, hb1⟩; have hz1 := hb1.size; obtain ⟨c0, c1, c2, fc0, fc1, fc2, hl2⟩ := three_cells ((hb1.block (w.heap.size + 1 + 1) (by omega)).trans Q2.out); have hl2' : w.heap.size + 1 + 1 < w1.heap.size + 1 := Nat.lt_succ_of_lt hl2) | (go_at_call 70; obtain ⟨WB, hWB⟩ : ∃ WB, WB = (w1.alloc (.cells #[.int .i64 px, .int .i64 py, .int .i64 pz, .int .i64 tm, .int .i64 tk, .int .i64 lo, .int .i64 hi, .int .i64 li, .int .i64 ea, .int .i64 la, .int .i64 no, .int .i64 mi] 134)).alloc (.cells #[.int .i64 sx, .int .i64 sy, .int .i64 sz] 135) := ⟨_, rfl⟩; rw [← hWB]; have hbWB : Below w1.heap.size w1 WB := (by rw [hWB]; (repeat (with_reducible first | exact Below.refl _ _ | assumption | refine Below.drewN _ ?_ | refine Below.drew ?_ | refine Below_alloc ?_ _ | refine Below.alloc ?_ (by first | (simp; done) | (simp; omega) | omega) _ | refine Below.setCell ?_ (by first | (simp; done) | (simp; omega) | omega) _ | refine Below_call ?_ (by assumption) | refine Below.trans ?_ (by assumption)))); obtain ⟨r0, r1, hr0, hr1⟩ := al2 w1 _ _ _ _ WB hWB; clear hWB; refine (HM.out _).mono ?_; rintro _ w2 ⟨rfl, hb2⟩; have hb12 : Below W0.heap.size W0 w2 := (hb1.trans (hbWB.mono hz1)).trans (hb2.mono (Nat.le_trans hz1 hbWB.size)); have HB12 := hid hb12; have R0 := hid ((hb2.block w1.heap.size hr0).trans r0); have R1 := hid ((hb2.block (w1.heap.size + 1) hr1).trans r1); have hml : w1.heap.size + 1 < w2.heap.size := Nat.lt_of_lt_of_le hr1 hb2.size; clear r0 r1 c0 c1 c2 fc0 fc1 fc2 hl2 hl2'; have hbf : Below w.heap.size w w2 := hbW0.trans (hb12.mono (by have := hbW0.size; omega)); obtain ⟨g0, g1, fg0, fg1, hgl⟩ := two_cells ((hb12.block (w.heap.size + 1 + 1 + 1) (by omega)).trans Q3.out)) | (go_at_call 69; refine (HFI.out _ _ (intsAt_new _ _ _ _ _ rfl (by simp) (by first | rfl | simp))).mono ?_; rintro _ _ ⟨rfl, rfl⟩))
    ((try simp only [Exit.inBlock, Exit.then]); refine bodyPost_ret (v := .tuple #[.agg #[.int .i64 0, .int .i64 0], .int .i64 E1]) ?_ rfl ?_; (next => simp [results, Try.results17, go_sem, hgl, g0, g1]))
    exact ⟨fun h => absurd h HN.out, fun h => absurd h HN.out, fun _ => rfl, by (repeat (with_reducible first | exact Below.refl _ _ | assumption | refine Below.drewN _ ?_ | refine Below.drew ?_ | refine Below_alloc ?_ _ | refine Below.alloc ?_ (by first | (simp; done) | (simp; omega) | omega) _ | refine Below.setCell ?_ (by first | (simp; done) | (simp; omega) | omega) _ | refine Below_call ?_ (by assumption) | refine Below.trans ?_ (by assumption)))⟩
end Go.Proofs.Ytlmdmpjfehpjeaa

/- Tracks: the examples of the document hold. -/
set_option linter.unusedVariables false
set_option linter.unusedSimpArgs false
namespace Go.Proofs.Ytlmdmpjfehpjeaa
open Go.RowKit

def exM : TMod := ⟨0, 0, 0, 0, 1, 25, 50, 9, 0, 0, 1, 2⟩
def exS : V3 := ⟨5, 0, 0⟩
def exB : TBox := ⟨⟨5, 0, 0⟩, ⟨5, 0, 0⟩⟩
def exH : List THit := [⟨⟨0, 12, 0⟩, 4, 1⟩, ⟨⟨5, 0, 0⟩, 0, 3⟩]
theorem ex_both : exM.both exS = 0 := by decide
theorem ex_ok : exM.Ok ∧ exS.inS 20 = true ∧ exM.permit exS ∧ exM.slow < exS.dot exS := both_ok ex_both
theorem ex_first : exM.first exS ⟨0, 12, 0⟩ = 4 := by
  have h := reached_iff exM exS ⟨0, 12, 0⟩ ex_ok.1.slp ex_ok.2.2.2 (n := 4) (by decide) (by decide)
  exact first_of exM exS ⟨0, 12, 0⟩ h (by decide) (by decide)
theorem ex_near : rN (exM.num exS ⟨7, 12, 0⟩) (exS.dot exS) = 144 ∧ rD (exM.num exS ⟨7, 12, 0⟩) (exS.dot exS) = 1 := by
  have e1 : exM.num exS ⟨7, 12, 0⟩ = 3600 := by decide
  have e2 : exS.dot exS = 25 := by decide
  rw [e1, e2]; exact ⟨by decide, by decide⟩
theorem ex_score : exM.score exS exH = 6 := by decide
theorem ex_hits : hitsE exH = 0 := by decide
theorem ex_in : exM.inE exB exH = 0 := by decide
theorem ex_scores : (exM.scores exB exH).lo = 6 ∧ (exM.scores exB exH).hi = 6 := ⟨by decide, by decide⟩

set_option maxRecDepth 100000 in
set_option maxHeartbeats 4000000 in
theorem law_Model (w : World) : Calls Try.prog 66 #[] w fun e w' => e = .returned exM.v ∧ Below w.heap.size w w' := by
  have HV : Hid (exM.v = .agg #[.int .i64 0, .int .i64 0, .int .i64 0, .int .i64 0, .int .i64 1, .int .i64 25, .int .i64 50, .int .i64 9, .int .i64 0, .int .i64 0, .int .i64 1, .int .i64 2]) := hid rfl
  generalize exM.v = V at HV ⊢
  go_enter Try.func66, Try.ntmps66
  go_wp2_with fail
  ((try simp only [Exit.inBlock, Exit.then]); refine bodyPost_ret (v := .agg #[.int .i64 0, .int .i64 0, .int .i64 0, .int .i64 0, .int .i64 1, .int .i64 25, .int .i64 50, .int .i64 9, .int .i64 0, .int .i64 0, .int .i64 1, .int .i64 2]) ?_ rfl ?_; (next => simp [results, Try.results66, go_sem]))
  exact ⟨by rw [HV.out], by (repeat (with_reducible first | exact Below.refl _ _ | assumption | refine Below.drewN _ ?_ | refine Below.drew ?_ | refine Below_alloc ?_ _ | refine Below.alloc ?_ (by first | (simp; done) | (simp; omega) | omega) _ | refine Below.setCell ?_ (by first | (simp; done) | (simp; omega) | omega) _ | refine Below_call ?_ (by assumption) | refine Below.trans ?_ (by assumption)))⟩
theorem hits_new (w : World) (t : TypeId) : HitsAt (w.alloc (.cells #[.int .i64 0, .int .i64 12, .int .i64 0, .int .i64 4, .int .i64 1, .int .i64 5, .int .i64 0, .int .i64 0, .int .i64 0, .int .i64 3] t)) (.slice (some ⟨w.heap.size, 0, none⟩) 2 2) exH := by
  have q := heap_alloc_new w (.cells #[.int .i64 0, .int .i64 12, .int .i64 0, .int .i64 4, .int .i64 1, .int .i64 5, .int .i64 0, .int .i64 0, .int .i64 0, .int .i64 3] t)
  refine ⟨_, _, rfl, Nat.le_refl _, by simp [maxLen], fun _ => ⟨w.heap.size, 0, rfl, by simp, fun i j hi hj => ?_⟩, fun h => by cases h⟩
  rw [cell_of_row _ _ _ _ _ (0, 0) q]
  have hi2 : i < 2 := hi
  rcases (by omega : i = 0 ∨ i = 1) with rfl | rfl
  all_goals rcases (by omega : j = 0 ∨ j = 1 ∨ j = 2 ∨ j = 3 ∨ j = 4) with rfl | rfl | rfl | rfl | rfl
  all_goals rfl
set_option maxRecDepth 100000 in
set_option maxHeartbeats 4000000 in
theorem law_Hits (w : World) : Calls Try.prog 67 #[] w fun e w' => ∃ ao cap, e = .returned (.slice ao 2 cap) ∧ HitsAt w' (.slice ao 2 cap) exH ∧ Below w.heap.size w w' := by
  have HV := hid (hits_new w 92)
  generalize exH = L at HV ⊢
  go_enter Try.func67, Try.ntmps67
  go_wp2_with fail
  ((try simp only [Exit.inBlock, Exit.then]); refine bodyPost_ret (v := .slice (some ⟨w.heap.size, 0, none⟩) 2 2) ?_ rfl ?_; (next => simp [results, Try.results67, go_sem]))
  exact ⟨_, _, rfl, HV.out, by (repeat (with_reducible first | exact Below.refl _ _ | assumption | refine Below.drewN _ ?_ | refine Below.drew ?_ | refine Below_alloc ?_ _ | refine Below.alloc ?_ (by first | (simp; done) | (simp; omega) | omega) _ | refine Below.setCell ?_ (by first | (simp; done) | (simp; omega) | omega) _ | refine Below_call ?_ (by assumption) | refine Below.trans ?_ (by assumption)))⟩
set_option maxRecDepth 100000 in
set_option maxHeartbeats 8000000 in
theorem law_awake5 (w : World) : Calls Try.prog 13 #[] w fun e w' => e = .returned (.bool true) ∧ Below w.heap.size w w' := by
  have e0 : firstNZ [exM.both exS, plE ⟨0, 12, 0⟩] = 0 := by decide
  have e1 : firstNZ [exM.both exS, plE ⟨7, 12, 0⟩] = 0 := by decide
  have e2 : firstNZ [exM.both exS, hitsE exH] = 0 := by rw [ex_both, ex_hits]; rfl
  have HM := hid law_Model
  have HH := hid law_Hits
  have HF : Hid (∀ W, Calls Try.prog 16 #[exM.v, .agg #[.int .i64 5, .int .i64 0, .int .i64 0], .agg #[.int .i64 0, .int .i64 12, .int .i64 0]] W fun e w' => e = .returned (.tuple #[.int .i64 4, .int .i64 0]) ∧ Below W.heap.size W w') := hid (fun W => by
    refine (track_FirstAt exM exS ⟨0, 12, 0⟩ W).mono ?_
    rintro e w' ⟨h1, _, _, h4⟩
    rw [ex_first] at h1
    exact ⟨h1 e0 (by decide), h4⟩)
  have HN : Hid (∀ W, Calls Try.prog 17 #[exM.v, .agg #[.int .i64 5, .int .i64 0, .int .i64 0], .agg #[.int .i64 7, .int .i64 12, .int .i64 0]] W fun e w' => e = .returned (.tuple #[.agg #[.int .i64 144, .int .i64 1], .int .i64 0]) ∧ Below W.heap.size W w') := hid (fun W => by
    refine (track_NearestTo exM exS ⟨7, 12, 0⟩ W).mono ?_
    rintro e w' ⟨h1, _, _, h4⟩
    rw [ex_near.1, ex_near.2] at h1
    exact ⟨h1 e1 (by decide), h4⟩)
  have HS : Hid (∀ v W, HitsAt W v exH → Calls Try.prog 32 #[exM.v, .agg #[.int .i64 5, .int .i64 0, .int .i64 0], v] W fun e w' => e = .returned (.tuple #[.int .i64 6, .int .i64 0]) ∧ Below W.heap.size W w') := hid (fun v W h => by
    refine (track_ScoreOf exM exS exH v W h).mono ?_
    rintro e w' ⟨h1, _, h4⟩
    rw [ex_score] at h1
    exact ⟨h1 e2, h4⟩)
  have HI : Hid (∀ v W, HitsAt W v exH → Calls Try.prog 38 #[exM.v, .agg #[.int .i64 5, .int .i64 0, .int .i64 0, .int .i64 5, .int .i64 0, .int .i64 0], v] W fun e w' => e = .returned (.tuple #[.agg #[.int .i64 6, .int .i64 6], .int .i64 0]) ∧ Below W.heap.size W w') := hid (fun v W h => by
    refine (track_ScoresIn exM exB exH v W h (by decide) (by decide)).mono ?_
    rintro e w' ⟨h1, _, h4⟩
    have h5 := h1 ex_in
    unfold Rg.v at h5
    rw [ex_scores.1, ex_scores.2] at h5
    exact ⟨h5, h4⟩)
  have hVM : Hid (exM.v = .agg #[.int .i64 0, .int .i64 0, .int .i64 0, .int .i64 0, .int .i64 1, .int .i64 25, .int .i64 50, .int .i64 9, .int .i64 0, .int .i64 0, .int .i64 1, .int .i64 2]) := hid rfl
  rw [hVM.out] at HF HN HS HI
  have HM' : Hid (∀ W, Calls Try.prog 66 #[] W fun e w' => e = .returned (.agg #[.int .i64 0, .int .i64 0, .int .i64 0, .int .i64 0, .int .i64 1, .int .i64 25, .int .i64 50, .int .i64 9, .int .i64 0, .int .i64 0, .int .i64 1, .int .i64 2]) ∧ Below W.heap.size W w') := hid (by rw [← hVM.out]; exact law_Model)
  generalize exH = L at HH HS HI
  clear e0 e1 e2 HM hVM
  go_enter Try.func13, Try.ntmps13
  go_wp2_with fail
  refine (HM'.out _).mono ?_
  rintro _ w1 ⟨rfl, hb1⟩
  go_wp2_with fail
  refine (HF.out _).mono ?_
  rintro _ w2 ⟨rfl, hb2⟩
  go_wp2_with fail
  refine (HM'.out _).mono ?_
  rintro _ w3 ⟨rfl, hb3⟩
  go_wp2_with fail
  refine (HN.out _).mono ?_
  rintro _ w4 ⟨rfl, hb4⟩
  obtain ⟨X, hX⟩ : ∃ X, X = w4.alloc (.cells #[.int .i64 144, .int .i64 1] 37) := ⟨_, rfl⟩
  have hb04 : Below w.heap.size w w4 := by (repeat (with_reducible first | exact Below.refl _ _ | assumption | refine Below.drewN _ ?_ | refine Below.drew ?_ | refine Below_alloc ?_ _ | refine Below.alloc ?_ (by first | (simp; done) | (simp; omega) | omega) _ | refine Below.setCell ?_ (by first | (simp; done) | (simp; omega) | omega) _ | refine Below_call ?_ (by assumption) | refine Below.trans ?_ (by assumption)))
  have hbX : Below w4.heap.size w4 X := by rw [hX]; (repeat (with_reducible first | exact Below.refl _ _ | assumption | refine Below.drewN _ ?_ | refine Below.drew ?_ | refine Below_alloc ?_ _ | refine Below.alloc ?_ (by first | (simp; done) | (simp; omega) | omega) _ | refine Below.setCell ?_ (by first | (simp; done) | (simp; omega) | omega) _ | refine Below_call ?_ (by assumption) | refine Below.trans ?_ (by assumption)))
  have RX := hid (show X.heap[w4.heap.size]? = some (.cells #[.int .i64 144, .int .i64 1] 37 (0, 0)) by rw [hX]; exact heap_alloc_new w4 _)
  have hlX := (Array.getElem?_eq_some_iff.1 RX.out).1
  have HB0X := hid (hb04.trans (hbX.mono hb04.size))
  clear hb1 hb2 hb3 hb4 hb04
  go_wp2_with fail
  rw [← hX]
  clear hX
  refine (HM'.out _).mono ?_
  rintro _ w5 ⟨rfl, hb5⟩
  go_wp2_with fail
  refine (HH.out _).mono ?_
  rintro _ w6 ⟨ao, cap, rfl, hv, hb6⟩
  have HV := hid hv
  clear hv
  go_wp2_with fail
  refine (HS.out _ _ HV.out).mono ?_
  rintro _ w7 ⟨rfl, hb7⟩
  go_wp2_with fail
  refine (HM'.out _).mono ?_
  rintro _ w8 ⟨rfl, hb8⟩
  go_wp2_with fail
  refine (HH.out _).mono ?_
  rintro _ w9 ⟨ao2, cap2, rfl, hv, hb9⟩
  have HV2 := hid hv
  clear hv
  go_wp2_with fail
  refine (HI.out _ _ HV2.out).mono ?_
  rintro _ w10 ⟨rfl, hb10⟩
  have hbXe : Below X.heap.size X w10 := by (repeat (with_reducible first | exact Below.refl _ _ | assumption | refine Below.drewN _ ?_ | refine Below.drew ?_ | refine Below_alloc ?_ _ | refine Below.alloc ?_ (by first | (simp; done) | (simp; omega) | omega) _ | refine Below.setCell ?_ (by first | (simp; done) | (simp; omega) | omega) _ | refine Below_call ?_ (by assumption) | refine Below.trans ?_ (by assumption)))
  have hbe : Below w.heap.size w w10 := HB0X.out.trans (hbXe.mono HB0X.out.size)
  obtain ⟨c0, c1, fc0, fc1, hlc⟩ := two_cells ((hbXe.block w4.heap.size hlX).trans RX.out)
  clear hb5 hb6 hb7 hb8 hb9 hb10 hbXe hbX
  go_wp2_with fail
  go_ret
  exact ⟨rfl, by (repeat (with_reducible first | exact Below.refl _ _ | assumption | refine Below.drewN _ ?_ | refine Below.drew ?_ | refine Below_alloc ?_ _ | refine Below.alloc ?_ (by first | (simp; done) | (simp; omega) | omega) _ | refine Below.setCell ?_ (by first | (simp; done) | (simp; omega) | omega) _ | refine Below_call ?_ (by assumption) | refine Below.trans ?_ (by assumption)))⟩
end Go.Proofs.Ytlmdmpjfehpjeaa

/- Tracks: plain law of TrackOnce. -/
set_option linter.unusedVariables false
set_option linter.unusedSimpArgs false
namespace Go.Proofs.Ytlmdmpjfehpjeaa
open Go.RowKit

theorem first_moved {m : TMod} {s p d : V3} {dt : Int} (hs : 0 ≤ m.slow) (ha : m.slow < s.dot s) (h1 : -900000 ≤ m.first s p) (h2 : m.first s p ≤ 900000) (h3 : -1000 ≤ dt ∧ dt ≤ 1000) :
    (m.put (m.pl.add d) (m.tm + dt)).first s (p.add d) = m.first s p + dt := by
  have h := first_at m s p hs ha (by omega) (by omega)
  refine first_of _ _ _ (fun u => ?_) (by omega) (by omega)
  have e := reached_move m s p d (u - dt) dt
  rw [show u - dt + dt = u by omega] at e
  rw [e, h]
  exact decide_eq_decide.2 (by omega)
theorem first_turned {m : TMod} {s p : V3} (hs : 0 ≤ m.slow) (ha : m.slow < s.dot s) (h1 : -900000 ≤ m.first s p) (h2 : m.first s p ≤ 900000) :
    (m.put m.pl.swap m.tm).first s.swap p.swap = m.first s p := by
  have h := first_at m s p hs ha (by omega) (by omega)
  exact first_of _ _ _ (fun u => by rw [reached_turn]; exact h u) (by omega) (by omega)
theorem swap_in (a : V3) (k : Int) : a.swap.inS k = a.inS k := by
  unfold V3.swap V3.inS; simp only
  cases inB a.x (-k) k <;> cases inB a.y (-k) k <;> rfl
theorem swap_dot (a b : V3) : a.swap.dot b.swap = a.dot b := by unfold V3.swap V3.dot; simp only; omega
theorem both_moved {m : TMod} {s : V3} (q : V3) (t : Int) (h : m.both s = 0) (he : (m.put q t).err = 0) : (m.put q t).both s = 0 := by
  unfold TMod.both at *
  obtain ⟨h1, h2⟩ := two_zero h
  have e : (m.put q t).stE s = m.stE s := rfl
  rw [he, e, h2]; rfl
theorem both_turned (m : TMod) (s : V3) : (m.put m.pl.swap m.tm).both s.swap = m.both s := by
  have e1 : (m.put m.pl.swap m.tm).err = m.err := by
    have e : plE (m.put m.pl.swap m.tm).pl = plE m.pl := by
      show plE m.pl.swap = plE m.pl
      unfold plE; rw [swap_in]
    unfold TMod.err
    rw [e]; rfl
  have e2 : (m.put m.pl.swap m.tm).stE s.swap = m.stE s := by
    unfold TMod.stE TMod.permB
    rw [swap_in, swap_dot]; rfl
  unfold TMod.both
  rw [e1, e2]
theorem mom_at {p : V3} {t : Int} (hp : plE p = 0) (h1 : -1000000 ≤ t) (h2 : t ≤ 1000000) : momE p t = 0 := by
  unfold momE; rw [hp, inB_true.2 ⟨h1, h2⟩]; rfl
set_option maxRecDepth 100000 in
theorem base_Mod20 (n : Int) (w : World) (h : 0 ≤ n) (h' : n ≤ 1000) :
    Calls Try.prog 27 #[.int .i64 n, .int .i64 20] w fun e w' => e = .returned (.int .i64 (n % 20)) ∧ w = w' := by
  go_enter Try.func27, Try.ntmps27
  go_wp2_with fail
  go_ret
  exact ⟨rfl, rfl⟩
end Go.Proofs.Ytlmdmpjfehpjeaa

