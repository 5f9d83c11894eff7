/- The greatest common divisor of wide numbers. -/
import Derived.Test.YtlmdmpjfehpjeaaK18
import Derived.Test.YtlmdmpjfehpjeaaK4
import Derived.Deep.LoopGhost
set_option linter.unusedVariables false
set_option linter.unusedSimpArgs false
namespace Go.Proofs.Ytlmdmpjfehpjeaa
open Go.RowKit

theorem WideAt.abs {w : World} {ao : Option Addr} {cap n : Nat} {z : Int} {N : Nat → Prop} (h : WideAt w (.agg #[.int .i64 (sg z), .slice ao n cap]) z N) : WideAt w (.agg #[.int .i64 (sg (z.natAbs : Int)), .slice ao n cap]) (z.natAbs : Int) N := by
  obtain ⟨ao', cap', e, h1⟩ := h
  cases e
  exact ⟨ao, cap, by rw [Int.natAbs_natCast], by rw [Int.natAbs_natCast]; exact h1⟩
theorem sg_abs (z : Int) : (if sg z < 0 then -sg z else sg z) = sg (z.natAbs : Int) := by
  rcases Int.lt_trichotomy z 0 with h | h | h
  · have h1 : sg z = -1 := by unfold sg; rw [if_pos h]
    have h2 : sg (z.natAbs : Int) = 1 := by unfold sg; rw [if_neg (by omega), if_neg (by omega)]
    rw [h1, h2]; rfl
  · subst h; rfl
  · rw [show (z.natAbs : Int) = z by omega]
    have h1 : sg z = 1 := by unfold sg; rw [if_neg (by omega), if_neg (by omega)]
    rw [h1]; rfl
theorem sg_nat (n : Nat) : sg (n : Int) = if n = 0 then 0 else 1 := by
  unfold sg; split <;> (try split) <;> (try split) <;> omega
/-- two cells of a block, as its heap. -/
theorem lt_alloc (w : World) (o : Obj) : w.heap.size < (w.alloc o).heap.size := by simp
theorem row_lt {w : World} {g : Nat} {o : Obj} (h : w.heap[g]? = some o) : g < w.heap.size := (Array.getElem?_eq_some_iff.1 h).1
theorem four_set {w : World} {g k : Nat} {x y : Value} {a b : Value} {t : TypeId} (h : w.heap[g]? = some (.cells #[x, y] t (0, 0))) (hne : g ≠ k) :
    ((w.setCell ⟨k, 0, none⟩ a).setCell ⟨k, 1, none⟩ b).heap[g]? = some (.cells #[x, y] t (0, 0)) := by
  rw [heap_setCell_other _ _ _ _ hne, heap_setCell_other _ _ _ _ hne, h]

/-- digits never lie in a variable that holds nothing yet. -/
theorem WideAt.apart {w : World} {v : Value} {z : Int} {N : Nat → Prop} {G : Nat} {t : TypeId} (h : WideAt w v z N) (hrow : w.heap[G]? = some (.cells #[.int .i64 0, .slice none 0 0] t (0, 0))) : WideAt w v z (fun b => N b ∧ b ≠ G) := by
  obtain ⟨ao, cap, rfl, ⟨ao', cap', e, h1, h2, h3, h4⟩⟩ := h
  cases e
  refine ⟨ao, cap, rfl, ⟨ao, cap, rfl, h1, h2, fun h0 => ?_, h4⟩⟩
  obtain ⟨b, off, e, hlt, hN, hc⟩ := h3 h0
  refine ⟨b, off, e, hlt, ⟨hN, fun hbG => ?_⟩, hc⟩
  subst hbG
  have hl := dig_last (n := z.natAbs) (by omega)
  obtain ⟨k, hk⟩ : ∃ k, (dig z.natAbs).length = k + 1 := ⟨(dig z.natAbs).length - 1, by omega⟩
  have hcc := hc k 0 (by omega) (by omega)
  rw [hk, Nat.add_sub_cancel] at hl
  rw [cell_of_row w b _ _ t (0, 0) hrow] at hcc
  rcases (by omega : off + k * 1 + 0 = 0 ∨ off + k * 1 + 0 = 1 ∨ 2 ≤ off + k * 1 + 0) with h5 | h5 | h5
  · rw [h5] at hcc; simp at hcc; exact hl hcc.symm
  · rw [h5] at hcc; simp at hcc
  · rw [Array.getElem?_eq_none (by simpa using h5)] at hcc; cases hcc

/-- what is known of a variable that holds a wide number. -/
structure WVar (w : World) (g : Nat) (z : Int) (N : Nat → Prop) (ao : Option Addr) (n cap : Nat) : Prop where
  row : w.heap[g]? = some (.cells #[.int .i64 (sg z), .slice ao n cap] 51 (0, 0))
  wide : WideAt w (.agg #[.int .i64 (sg z), .slice ao n cap]) z N
theorem WVar.below {w w' : World} {g : Nat} {z : Int} {N : Nat → Prop} {ao : Option Addr} {n cap : Nat} (h : WVar w g z N ao n cap) (hb : Below w.heap.size w w') : WVar w' g z N ao n cap :=
  ⟨(hb.block g (Array.getElem?_eq_some_iff.1 h.row).1).trans h.row, h.wide.mono hb (fun _ _ h => h)⟩

/-- both variables stored anew. -/
theorem gcd_rot {W : World} {A B R : Nat} {x y s t : Int} {N : Nat → Prop} {ao bo : Option Addr} {n m cap cap2 : Nat} {a0 a1 b0 b1 r0 r1 : Value} (hs : s = sg x) (ht : t = sg y)
    (ha : W.heap[A]? = some (.cells #[a0, a1] 51 (0, 0))) (hb : W.heap[B]? = some (.cells #[b0, b1] 51 (0, 0))) (hr : W.heap[R]? = some (.cells #[r0, r1] 51 (0, 0)))
    (hab : A ≠ B) (hra : R ≠ A) (hrb : R ≠ B) (hx : WideAt W (.agg #[.int .i64 (sg x), .slice ao n cap]) x N) (hy : WideAt W (.agg #[.int .i64 (sg y), .slice bo m cap2]) y N) (hN : ∀ b, N b → b ≠ A ∧ b ≠ B) :
    WVar ((((W.setCell ⟨A, 0, none⟩ (.int .i64 s)).setCell ⟨A, 1, none⟩ (.slice ao n cap)).setCell ⟨B, 0, none⟩ (.int .i64 t)).setCell ⟨B, 1, none⟩ (.slice bo m cap2)) A x N ao n cap ∧
    WVar ((((W.setCell ⟨A, 0, none⟩ (.int .i64 s)).setCell ⟨A, 1, none⟩ (.slice ao n cap)).setCell ⟨B, 0, none⟩ (.int .i64 t)).setCell ⟨B, 1, none⟩ (.slice bo m cap2)) B y N bo m cap2 ∧
    ((((W.setCell ⟨A, 0, none⟩ (.int .i64 s)).setCell ⟨A, 1, none⟩ (.slice ao n cap)).setCell ⟨B, 0, none⟩ (.int .i64 t)).setCell ⟨B, 1, none⟩ (.slice bo m cap2)).heap[R]? = some (.cells #[r0, r1] 51 (0, 0)) := by
  subst hs; subst ht
  obtain ⟨W1, hW1⟩ : ∃ W1, W1 = (W.setCell ⟨A, 0, none⟩ (.int .i64 (sg x))).setCell ⟨A, 1, none⟩ (.slice ao n cap) := ⟨_, rfl⟩
  have h1 : W1.heap[A]? = some (.cells #[.int .i64 (sg x), .slice ao n cap] 51 (0, 0)) := by rw [hW1]; exact two_set ha
  have h2 : W1.heap[B]? = some (.cells #[b0, b1] 51 (0, 0)) := by rw [hW1]; exact four_set hb (Ne.symm hab)
  have h3 : W1.heap[R]? = some (.cells #[r0, r1] 51 (0, 0)) := by rw [hW1]; exact four_set hr hra
  have h4 : WideAt W1 (.agg #[.int .i64 (sg x), .slice ao n cap]) x N := by rw [hW1]; exact hx.store2 (Below.refl _ _) (fun b h => ⟨(hN b h).1, h⟩) _ _
  have h5 : WideAt W1 (.agg #[.int .i64 (sg y), .slice bo m cap2]) y N := by rw [hW1]; exact hy.store2 (Below.refl _ _) (fun b h => ⟨(hN b h).1, h⟩) _ _
  rw [← hW1]
  exact ⟨⟨four_set h1 hab, h4.store2 (Below.refl _ _) (fun b h => ⟨(hN b h).2, h⟩) _ _⟩, ⟨two_set h2, h5.store2 (Below.refl _ _) (fun b h => ⟨(hN b h).2, h⟩) _ _⟩, four_set h3 hrb⟩

set_option maxRecDepth 100000 in
set_option maxHeartbeats 4000000 in
theorem base_wideGcd (x y : Int) (u v : Value) (w : World) (N : Nat → Prop) (hN : ∀ b, w.heap.size ≤ b → N b) (hu : WideAt w u x N) (hv : WideAt w v y N) (hx : (dig x.natAbs).length ≤ 80000) (hy : (dig y.natAbs).length ≤ 80000) :
    Calls Try.prog 142 #[u, v] w (RetWide w (Int.gcd x y : Int) N) := by
  obtain ⟨ao, lx, cap, rfl⟩ := hu.shape
  obtain ⟨bo, ly, cap2, rfl⟩ := hv.shape
  have hu' := hu.abs
  have hv' := hv.abs
  have hrx := sg_range x
  have hry := sg_range y
  have HSX := hid (sg_abs x)
  have HSY := hid (sg_abs y)
  obtain ⟨sx, hsx⟩ : ∃ sx, sx = sg x := ⟨_, rfl⟩
  obtain ⟨sy, hsy⟩ : ∃ sy, sy = sg y := ⟨_, rfl⟩
  rw [← hsx] at hrx HSX ⊢
  rw [← hsy] at hry HSY ⊢
  obtain ⟨tx, htx⟩ : ∃ tx, tx = sg (x.natAbs : Int) := ⟨_, rfl⟩
  obtain ⟨ty, hty⟩ : ∃ ty, ty = sg (y.natAbs : Int) := ⟨_, rfl⟩
  have HU : Hid (tx = sg (x.natAbs : Int) ∧ WideAt w (.agg #[.int .i64 tx, .slice ao lx cap]) (x.natAbs : Int) N) := hid ⟨htx, by rw [htx]; exact hu'⟩
  have HV : Hid (ty = sg (y.natAbs : Int) ∧ WideAt w (.agg #[.int .i64 ty, .slice bo ly cap2]) (y.natAbs : Int) N) := hid ⟨hty, by rw [hty]; exact hv'⟩
  have HC1 : Hid (∀ W', Calls Try.prog 153 #[.agg #[.int .i64 sx, .slice ao lx cap]] W' fun e w' => e = .returned (.agg #[.int .i64 tx, .slice ao lx cap]) ∧ Below W'.heap.size W' w') := hid (fun W' => by
    have := base_wideSize sx ao lx cap W' hrx
    rw [HSX.out, ← htx] at this; exact this)
  have HC2 : Hid (∀ W', Calls Try.prog 153 #[.agg #[.int .i64 sy, .slice bo ly cap2]] W' fun e w' => e = .returned (.agg #[.int .i64 ty, .slice bo ly cap2]) ∧ Below W'.heap.size W' w') := hid (fun W' => by
    have := base_wideSize sy bo ly cap2 W' hry
    rw [HSY.out, ← hty] at this; exact this)
  have HXY := hid (And.intro hx hy)
  have HNN := hid hN
  have HGCD : Hid ((Int.gcd x y : Int) = ((Nat.gcd x.natAbs y.natAbs : Nat) : Int)) := hid rfl
  clear hu hv hu' hv' hsx hsy htx hty hx hy hN hrx hry
  obtain ⟨W, hW⟩ : ∃ W, W = ((w.alloc (.cells #[.int .i64 sx, .slice ao lx cap] 51)).alloc (.cells #[.int .i64 sy, .slice bo ly cap2] 51)).alloc (.cells #[.int .i64 0, .slice none 0 0] 51) := ⟨_, rfl⟩
  have hzW : W.heap.size = w.heap.size + 1 + 1 + 1 := by rw [hW]; simp
  have hBW : Below w.heap.size w W := by rw [hW]; (repeat (with_reducible first | exact Below.refl _ _ | assumption | refine Below.drewN _ ?_ | refine Below.drew ?_ | refine Below_alloc ?_ _ | refine Below.alloc ?_ (by first | (simp; done) | (simp; omega) | omega) _ | refine Below.setCell ?_ (by first | (simp; done) | (simp; omega) | omega) _ | refine Below_call ?_ (by assumption) | refine Below.trans ?_ (by assumption)))
  obtain ⟨q0, q1, q2⟩ := alloc3 w _ _ _ _ _ _ W hW
  have HQ := hid (And.intro q0 (And.intro q1 q2))
  obtain ⟨a0, a1, fa0, fa1, hl0⟩ := two_cells q0
  obtain ⟨b0, b1, fb0, fb1, hl1⟩ := two_cells q1
  clear q0 q1 q2
  go_enter Try.func142, Try.ntmps142
  go_wp2_with fail
  rw [← hW]
  clear hW
  have hm0 : w.heap.size < W.heap.size := hl0
  have hm1 : w.heap.size + 1 < W.heap.size := hl1
  have hm2 : w.heap.size + 1 + 1 < W.heap.size := by omega
  refine wp_mixC (KeepB [w.heap.size + 1] W) 5 [.q [2], .f [0, 1, 3, 4]] [.f [5]] (by kernel_rfl) (by kernel_rfl) ((KeepB.refl (by first | (simp; done) | (simp; omega))).drew) ?_
  intro Q' hQ'
  (rw [wpMixC]; simp only [pick, List.drop_succ_cons, List.drop_zero, List.head?_cons, Option.toList_some, List.cons_append, List.nil_append])
  (repeat (first | go_big_quiet_skip | (go_big_quiet_want; refine quiet_simple rfl ?_; go_big_quiet_op; go_big_quiet_on) | (go_big_quiet_want; refine quiet_agg2K (ty := 51) rfl rfl (by kernel_rfl) (by assumption) (by assumption) (by simp) ?_; simp only [Act.put, List.setIfInBounds_toArray, List.set_cons_succ, List.set_cons_zero]; go_big_quiet_on)))
  (try refine wpQuiet_nil ?_)
  (rw [wpMixC]; simp only [pick, List.drop_succ_cons, List.drop_zero, List.head?_cons, Option.toList_some, List.cons_append, List.nil_append])
  (rw [wpSteps]; go_wp2_with (fail); rw [contF]; refine ⟨?_, ?_⟩; (next => (repeat (with_reducible first | assumption | exact KeepB.refl (by first | (simp; done) | (simp; omega)) | refine KeepB.drew ?_ | refine KeepB.alloc ?_ _ | refine KeepB.setCell ?_ (by first | (simp; done) | (simp; omega)) | refine KeepB.below ?_ (by assumption)))))
  (rw [wpSteps]; go_wp2_with ((first | (go_at_call 153; (with_reducible refine (HC1.out _).mono ?_); rintro _ w1 ⟨rfl, hb1⟩; have HB1 := hid hb1; have hzw1 : W.heap.size ≤ w1.heap.size := hb1.size; clear a0 a1 b0 b1 fa0 fa1 fb0 fb1) | (go_at_call 153; ((with_reducible refine (HC2.out _).mono ?_); rintro _ w2 ⟨rfl, hb2⟩; have HB2 := hid hb2; have HR := hid (And.intro ((HB2.out.block w.heap.size (Nat.lt_of_lt_of_le hm0 hzw1)).trans ((HB1.out.block w.heap.size hm0).trans HQ.out.1)) (And.intro ((HB2.out.block (w.heap.size + 1) (Nat.lt_of_lt_of_le hm1 hzw1)).trans ((HB1.out.block (w.heap.size + 1) hm1).trans HQ.out.2.1)) ((HB2.out.block (w.heap.size + 1 + 1) (Nat.lt_of_lt_of_le hm2 hzw1)).trans ((HB1.out.block (w.heap.size + 1 + 1) hm2).trans HQ.out.2.2)))); obtain ⟨a0, a1, fa0, fa1, hl0'⟩ := two_cells HR.out.1; obtain ⟨b0, b1, fb0, fb1, hl1'⟩ := two_cells HR.out.2.1)))); rw [contF]; refine ⟨?_, ?_⟩; (next => (repeat (with_reducible first | assumption | exact KeepB.refl (by first | (simp; done) | (simp; omega)) | refine KeepB.drew ?_ | refine KeepB.alloc ?_ _ | refine KeepB.setCell ?_ (by first | (simp; done) | (simp; omega)) | refine KeepB.below ?_ (by assumption)))))
  (rw [wpSteps]; go_wp2_with ((first | (go_at_call 153; (with_reducible refine (HC1.out _).mono ?_); rintro _ w1 ⟨rfl, hb1⟩; have HB1 := hid hb1; have hzw1 : W.heap.size ≤ w1.heap.size := hb1.size; clear a0 a1 b0 b1 fa0 fa1 fb0 fb1) | (go_at_call 153; ((with_reducible refine (HC2.out _).mono ?_); rintro _ w2 ⟨rfl, hb2⟩; have HB2 := hid hb2; have HR := hid (And.intro ((HB2.out.block w.heap.size (Nat.lt_of_lt_of_le hm0 hzw1)).trans ((HB1.out.block w.heap.size hm0).trans HQ.out.1)) (And.intro ((HB2.out.block (w.heap.size + 1) (Nat.lt_of_lt_of_le hm1 hzw1)).trans ((HB1.out.block (w.heap.size + 1) hm1).trans HQ.out.2.1)) ((HB2.out.block (w.heap.size + 1 + 1) (Nat.lt_of_lt_of_le hm2 hzw1)).trans ((HB1.out.block (w.heap.size + 1 + 1) hm2).trans HQ.out.2.2)))); obtain ⟨a0, a1, fa0, fa1, hl0'⟩ := two_cells HR.out.1; obtain ⟨b0, b1, fb0, fb1, hl1'⟩ := two_cells HR.out.2.1)))); rw [contF]; refine ⟨?_, ?_⟩; (next => (repeat (with_reducible first | assumption | exact KeepB.refl (by first | (simp; done) | (simp; omega)) | refine KeepB.drew ?_ | refine KeepB.alloc ?_ _ | refine KeepB.setCell ?_ (by first | (simp; done) | (simp; omega)) | refine KeepB.below ?_ (by assumption)))))
  (rw [wpSteps]; go_wp2_with (fail); rw [contF]; refine ⟨?_, ?_⟩; (next => (repeat (with_reducible first | assumption | exact KeepB.refl (by first | (simp; done) | (simp; omega)) | refine KeepB.drew ?_ | refine KeepB.alloc ?_ _ | refine KeepB.setCell ?_ (by first | (simp; done) | (simp; omega)) | refine KeepB.below ?_ (by assumption)))))
  (rw [wpSteps])
  (rw [wpMixC])
  (rw [wpMix]; simp only [pick, List.drop_succ_cons, List.drop_zero, List.head?_cons, Option.toList_some, List.cons_append, List.nil_append])
  (go_wp2_with ((first | fail)); rw [contF])
  (rw [wpMix])
  (refine hQ' _ _ ?_)
  go_wp2_with fail
  clear a0 a1 b0 b1 fa0 fa1 fb0 fb1
  have hm02 : w.heap.size < w2.heap.size := Nat.lt_of_lt_of_le hm0 (Nat.le_trans hzw1 hb2.size)
  have hb12 : Below w.heap.size w w2 := (hBW.trans ((((Below.refl W.heap.size W).drew).trans HB1.out).mono (by omega))).trans (hb2.mono (by omega))
  have HBB := hid hb12
  have HG0 := hid (show Nat.gcd x.natAbs y.natAbs = Nat.gcd x.natAbs y.natAbs from rfl)
  clear hb1 hb2
  go_loopg [] (y.natAbs) (fun k wr => ∃ (p q : Nat) (po : Option Addr) (pn pc : Nat) (qo : Option Addr) (qn qc : Nat), q ≤ k ∧ Hid (Nat.gcd p q = Nat.gcd x.natAbs y.natAbs ∧ (dig p).length ≤ 80000 ∧ (dig q).length ≤ 80000) ∧ Hid (WVar wr w.heap.size p (fun b => b ≠ w.heap.size ∧ b ≠ w.heap.size + 1 ∧ b ≠ w.heap.size + 1 + 1 ∧ (b < w.heap.size → N b)) po pn pc ∧ WVar wr (w.heap.size + 1) q (fun b => b ≠ w.heap.size ∧ b ≠ w.heap.size + 1 ∧ b ≠ w.heap.size + 1 + 1 ∧ (b < w.heap.size → N b)) qo qn qc ∧ wr.heap[w.heap.size + 1 + 1]? = some (.cells #[.int .i64 0, .slice none 0 0] 51 (0, 0))) ∧ Below w.heap.size w wr)
  case atStart =>
    have hrot := gcd_rot (N := fun b => b < w.heap.size ∧ N b) HU.out.1 HV.out.1 HR.out.1 HR.out.2.1 HR.out.2.2 (by omega) (by omega) (by omega) (by rw [← HU.out.1]; exact HU.out.2.keep HBB.out.size (fun b h hN => ⟨HBB.out.block b h, h, hN⟩)) (by rw [← HV.out.1]; exact HV.out.2.keep HBB.out.size (fun b h hN => ⟨HBB.out.block b h, h, hN⟩)) (fun b h => ⟨by omega, by omega⟩)
    exact ⟨x.natAbs, y.natAbs, ao, lx, cap, bo, ly, cap2, Nat.le_refl _, hid ⟨rfl, HXY.out⟩, hid ⟨⟨hrot.1.row, hrot.1.wide.mono (Below.refl _ _) (fun b _ h => ⟨by omega, by omega, by omega, fun _ => h.2⟩)⟩, ⟨hrot.2.1.row, hrot.2.1.wide.mono (Below.refl _ _) (fun b _ h => ⟨by omega, by omega, by omega, fun _ => h.2⟩)⟩, hrot.2.2⟩, by (repeat (with_reducible first | exact Below.refl _ _ | assumption | refine Below.drewN _ ?_ | refine Below.drew ?_ | refine Below_alloc ?_ _ | refine Below.alloc ?_ (by first | (simp; done) | (simp; omega) | omega) _ | refine Below.setCell ?_ (by first | (simp; done) | (simp; omega) | omega) _ | refine Below_call ?_ (by assumption) | refine Below.trans ?_ (by assumption)))⟩
  case round =>
    obtain ⟨p, q, po, pn, pc, qo, qn, qc, hqk, HG, HW, hbel⟩ := hrel
    obtain ⟨a0, a1, fa0, fa1, hla⟩ := two_cells HW.out.1.row
    obtain ⟨b0, b1, fb0, fb1, hlb⟩ := two_cells HW.out.2.1.row
    obtain ⟨r0, r1, fr0, fr1, hlr⟩ := two_cells HW.out.2.2
    obtain ⟨sp, hsp⟩ : ∃ sp, sp = sg (p : Int) := ⟨_, rfl⟩
    obtain ⟨sq, hsq⟩ : ∃ sq, sq = sg (q : Int) := ⟨_, rfl⟩
    rw [← hsp] at a0
    rw [← hsq] at b0
    have HSP := hid hsp
    have HSQ := hid hsq
    have hsq0 : sq = 0 ↔ q = 0 := by rw [hsq, sg_zero]; omega
    clear hsp hsq
    by_cases hq0 : q = 0
    · obtain rfl : sq = 0 := hsq0.2 hq0
      have HE : Hid (q = 0) := hid hq0
      clear hsq0 hq0
      go_wp2_with (go_at_call 141; refine (base_WideSign _ _ _).mono ?_; rintro _ w3 ⟨rfl, hb3⟩; have HB3 := hid hb3; obtain ⟨a0, a1, fa0, fa1, hla'⟩ := two_cells ((hb3.block w.heap.size hla).trans HW.out.1.row); obtain ⟨r0, r1, fr0, fr1, hlr'⟩ := two_cells ((hb3.block (w.heap.size + 1 + 1) hlr).trans HW.out.2.2); rw [← HSP.out] at a0)
      ((try simp only [Exit.inBlock, Exit.then]); refine bodyPost_ret (v := .agg #[.int .i64 sp, .slice po pn pc]) ?_ rfl ?_; (next => simp [results, Try.results142, go_sem, hlr', r0, r1]))
      rw [HGCD.out, HSP.out, show Nat.gcd x.natAbs y.natAbs = p by rw [← HG.out.1, HE.out, Nat.gcd_zero_right]]
      exact ⟨_, rfl, HW.out.1.wide.store2 HB3.out (fun b h => ⟨h.2.2.1, by rcases Nat.lt_or_ge b w.heap.size with h1 | h1; exact h.2.2.2 h1; exact HNN.out b h1⟩) _ _, by (repeat (with_reducible first | exact Below.refl _ _ | assumption | refine Below.drewN _ ?_ | refine Below.drew ?_ | refine Below_alloc ?_ _ | refine Below.alloc ?_ (by first | (simp; done) | (simp; omega) | omega) _ | refine Below.setCell ?_ (by first | (simp; done) | (simp; omega) | omega) _ | refine Below_call ?_ (by assumption) | refine Below.trans ?_ (by assumption)))⟩
    · have hsq1 : ¬ sq = 0 := fun h => hq0 (hsq0.1 h)
      have HQ0 := hid (Nat.pos_of_ne_zero hq0)
      clear hsq0 hq0
      obtain ⟨wo, rfl⟩ : ∃ wo : World, wo = wr := ⟨_, rfl⟩
      have HPW : Hid (∀ W', Below wo.heap.size wo W' → WideAt W' (.agg #[.int .i64 sp, .slice po pn pc]) p (fun b => b ≠ w.heap.size ∧ b ≠ w.heap.size + 1 ∧ b ≠ w.heap.size + 1 + 1 ∧ (b < w.heap.size → N b))) := hid (fun W' h => by rw [HSP.out]; exact HW.out.1.wide.mono h (fun _ _ h => h))
      have HQW : Hid (∀ W', Below wo.heap.size wo W' → WideAt W' (.agg #[.int .i64 sq, .slice qo qn qc]) q (fun b => b ≠ w.heap.size ∧ b ≠ w.heap.size + 1 ∧ b ≠ w.heap.size + 1 + 1 ∧ (b < w.heap.size → N b))) := hid (fun W' h => by rw [HSQ.out]; exact HW.out.2.1.wide.mono h (fun _ _ h => h))
      have HNB : Hid (∀ W' : World, wo.heap.size ≤ W'.heap.size → ∀ b, W'.heap.size ≤ b → b ≠ w.heap.size ∧ b ≠ w.heap.size + 1 ∧ b ≠ w.heap.size + 1 + 1 ∧ (b < w.heap.size → N b)) := hid (fun W' h b hb => ⟨by omega, by omega, by omega, fun h => by omega⟩)
      have HST := hid (gcd_step (a := (p : Int)) (b := (q : Int)) (by omega) (by have := HQ0.out; omega))
      have HLEN : Hid ((dig (p : Int).natAbs).length ≤ 80000 ∧ (dig (q : Int).natAbs).length ≤ 80000 ∧ (dig ((p : Int) / (q : Int)).natAbs).length ≤ 80000 ∧ (dig ((p : Int) / (q : Int) * (q : Int)).natAbs).length ≤ 80000) := hid (by
        obtain ⟨g1, g2, g3⟩ := HG.out
        have e : (p : Int) / (q : Int) = ((p / q : Nat) : Int) := rfl
        rw [e, ← Int.natCast_mul, Int.natAbs_natCast, Int.natAbs_natCast, Int.natAbs_natCast, Int.natAbs_natCast]
        exact ⟨g2, g3, Nat.le_trans (dig_len_mono (Nat.div_le_self _ _)) g2, Nat.le_trans (dig_len_mono (Nat.div_mul_le_self _ _)) g2⟩)
      go_wp2_with (go_at_call 141; refine (base_WideSign _ _ _).mono ?_; rintro _ w3 ⟨rfl, hb3⟩; have HB3 := hid hb3; obtain ⟨a0, a1, fa0, fa1, hla'⟩ := two_cells ((hb3.block w.heap.size hla).trans HW.out.1.row); obtain ⟨b0, b1, fb0, fb1, hlb'⟩ := two_cells ((hb3.block (w.heap.size + 1) hlb).trans HW.out.2.1.row); rw [← HSP.out] at a0; rw [← HSQ.out] at b0)
      have hz3 : wo.heap.size ≤ w3.heap.size := HB3.out.size
      have hb3' : Below wo.heap.size wo w3 := HB3.out
      refine wp_mixF (fun wc => Below (w3.heap.size) w3 wc) 8 [0, 1, 2, 4] [3, 5, 6] 7 [.f [8]] #[true, true, true, true, true, true, true, true, false] (by kernel_rfl) (by kernel_rfl) ((Below.refl _ _).drew) ?_
      intro Q' hQ'
      simp only [pick, List.drop_succ_cons, List.drop_zero, List.head?_cons, Option.toList_some, List.cons_append, List.nil_append]
      (repeat (first | go_big_quiet_skip | (go_big_quiet_want; refine quiet_simple rfl ?_; go_big_quiet_op; go_big_quiet_on) | (go_big_quiet_want; refine quiet_agg2B (ty := 51) rfl rfl (by kernel_rfl) (by assumption) (by assumption) (by first | omega | (simp; omega)) ?_; simp only [Act.put, List.setIfInBounds_toArray, List.set_cons_succ, List.set_cons_zero]; go_big_quiet_on)))
      (try refine wpQuiet_nil ?_)
      (rw [wpFlt])
      (refine ⟨?_, ?_⟩)
      (go_wp2_with ((go_at_call 144; refine (base_WideFloor p q _ _ _ _ (HNB.out _ (by first | exact hz3 | (simp; omega) | omega)) (HPW.out _ (by (repeat (with_reducible first | exact Below.refl _ _ | assumption | refine Below.drewN _ ?_ | refine Below.drew ?_ | refine Below_alloc ?_ _ | refine Below.alloc ?_ (by first | (simp; done) | (simp; omega) | omega) _ | refine Below.setCell ?_ (by first | (simp; done) | (simp; omega) | omega) _ | refine Below_call ?_ (by assumption) | refine Below.trans ?_ (by assumption))))) (HQW.out _ (by (repeat (with_reducible first | exact Below.refl _ _ | assumption | refine Below.drewN _ ?_ | refine Below.drew ?_ | refine Below_alloc ?_ _ | refine Below.alloc ?_ (by first | (simp; done) | (simp; omega) | omega) _ | refine Below.setCell ?_ (by first | (simp; done) | (simp; omega) | omega) _ | refine Below_call ?_ (by assumption) | refine Below.trans ?_ (by assumption))))) (by have := HQ0.out; omega) (by have := HLEN.out.1; omega) (by have := HLEN.out.2.1; omega)).mono ?_; rintro _ w4 ⟨r4, rfl, hw4, hb4⟩; obtain ⟨ro4, rn4, rc4, rfl⟩ := hw4.shape; have HW4 := hid hw4; clear hw4; have hz4 : w3.heap.size ≤ w4.heap.size := (by have := hb4.size; first | exact this | (simp at this; omega)); (try (with_reducible have hrow := (hb4.block _ (lt_alloc _ _)).trans (heap_alloc_new _ _))))); rw [contF]; refine ⟨?_, ?_⟩; (next => (repeat (with_reducible first | exact Below.refl _ _ | assumption | refine Below.drewN _ ?_ | refine Below.drew ?_ | refine Below_alloc ?_ _ | refine Below.alloc ?_ (by first | (simp; done) | (simp; omega) | omega) _ | refine Below.setCell ?_ (by first | (simp; done) | (simp; omega) | omega) _ | refine Below_call ?_ (by assumption) | refine Below.trans ?_ (by assumption)))))
      rotate_left
      (simp only [List.cons_append, List.nil_append])
      (rw [wpSteps]; (go_wp2_with (fail); rw [contF]; refine ⟨?_, ?_⟩; (next => (repeat (with_reducible first | exact Below.refl _ _ | assumption | refine Below.drewN _ ?_ | refine Below.drew ?_ | refine Below_alloc ?_ _ | refine Below.alloc ?_ (by first | (simp; done) | (simp; omega) | omega) _ | refine Below.setCell ?_ (by first | (simp; done) | (simp; omega) | omega) _ | refine Below_call ?_ (by assumption) | refine Below.trans ?_ (by assumption))))))
      (rw [wpSteps]; (go_wp2_with ((go_at_call 144; refine (base_WideFloor p q _ _ _ _ (HNB.out _ (by first | exact hz3 | (simp; omega) | omega)) (HPW.out _ (by (repeat (with_reducible first | exact Below.refl _ _ | assumption | refine Below.drewN _ ?_ | refine Below.drew ?_ | refine Below_alloc ?_ _ | refine Below.alloc ?_ (by first | (simp; done) | (simp; omega) | omega) _ | refine Below.setCell ?_ (by first | (simp; done) | (simp; omega) | omega) _ | refine Below_call ?_ (by assumption) | refine Below.trans ?_ (by assumption))))) (HQW.out _ (by (repeat (with_reducible first | exact Below.refl _ _ | assumption | refine Below.drewN _ ?_ | refine Below.drew ?_ | refine Below_alloc ?_ _ | refine Below.alloc ?_ (by first | (simp; done) | (simp; omega) | omega) _ | refine Below.setCell ?_ (by first | (simp; done) | (simp; omega) | omega) _ | refine Below_call ?_ (by assumption) | refine Below.trans ?_ (by assumption))))) (by have := HQ0.out; omega) (by have := HLEN.out.1; omega) (by have := HLEN.out.2.1; omega)).mono ?_; rintro _ w4 ⟨r4, rfl, hw4, hb4⟩; obtain ⟨ro4, rn4, rc4, rfl⟩ := hw4.shape; have HW4 := hid hw4; clear hw4; have hz4 : w3.heap.size ≤ w4.heap.size := (by have := hb4.size; first | exact this | (simp at this; omega)); (try (with_reducible have hrow := (hb4.block _ (lt_alloc _ _)).trans (heap_alloc_new _ _))))); rw [contF]; refine ⟨?_, ?_⟩; (next => (repeat (with_reducible first | exact Below.refl _ _ | assumption | refine Below.drewN _ ?_ | refine Below.drew ?_ | refine Below_alloc ?_ _ | refine Below.alloc ?_ (by first | (simp; done) | (simp; omega) | omega) _ | refine Below.setCell ?_ (by first | (simp; done) | (simp; omega) | omega) _ | refine Below_call ?_ (by assumption) | refine Below.trans ?_ (by assumption))))))
      (rw [wpSteps]; (go_wp2_with ((go_at_call 137; refine (base_WideMul _ q _ _ _ _ (HNB.out _ (by first | exact Nat.le_trans hz3 hz4 | (simp; omega))) (HW4.out.mono (by (repeat (with_reducible first | exact Below.refl _ _ | assumption | refine Below.drewN _ ?_ | refine Below.drew ?_ | refine Below_alloc ?_ _ | refine Below.alloc ?_ (by first | (simp; done) | (simp; omega) | omega) _ | refine Below.setCell ?_ (by first | (simp; done) | (simp; omega) | omega) _ | refine Below_call ?_ (by assumption) | refine Below.trans ?_ (by assumption)))) (fun _ _ h => h)) (HQW.out _ (by (repeat (with_reducible first | exact Below.refl _ _ | assumption | refine Below.drewN _ ?_ | refine Below.drew ?_ | refine Below_alloc ?_ _ | refine Below.alloc ?_ (by first | (simp; done) | (simp; omega) | omega) _ | refine Below.setCell ?_ (by first | (simp; done) | (simp; omega) | omega) _ | refine Below_call ?_ (by assumption) | refine Below.trans ?_ (by assumption))))) (by have := HLEN.out.2.2.1; omega) (by have := HLEN.out.2.1; omega)).mono ?_; rintro _ w5 ⟨r5, rfl, hw5, hb5⟩; obtain ⟨ro5, rn5, rc5, rfl⟩ := hw5.shape; have HW5 := hid hw5; clear hw5; have hz5 : w4.heap.size ≤ w5.heap.size := (by have := hb5.size; first | exact this | (simp at this; omega)); (first | (with_reducible have hrow := (hb5.block _ (lt_alloc _ _)).trans (heap_alloc_new _ _)) | (have hrow := (hb5.block _ (row_lt hrow)).trans hrow) | skip))); rw [contF]; refine ⟨?_, ?_⟩; (next => (repeat (with_reducible first | exact Below.refl _ _ | assumption | refine Below.drewN _ ?_ | refine Below.drew ?_ | refine Below_alloc ?_ _ | refine Below.alloc ?_ (by first | (simp; done) | (simp; omega) | omega) _ | refine Below.setCell ?_ (by first | (simp; done) | (simp; omega) | omega) _ | refine Below_call ?_ (by assumption) | refine Below.trans ?_ (by assumption))))))
      (rw [wpSteps]; (go_wp2_with ((go_at_call 154; refine (base_WideSub p _ _ _ _ _ (HNB.out _ (by first | exact Nat.le_trans hz3 (Nat.le_trans hz4 hz5) | (simp; omega))) (HPW.out _ (by (repeat (with_reducible first | exact Below.refl _ _ | assumption | refine Below.drewN _ ?_ | refine Below.drew ?_ | refine Below_alloc ?_ _ | refine Below.alloc ?_ (by first | (simp; done) | (simp; omega) | omega) _ | refine Below.setCell ?_ (by first | (simp; done) | (simp; omega) | omega) _ | refine Below_call ?_ (by assumption) | refine Below.trans ?_ (by assumption))))) (HW5.out.mono (by (repeat (with_reducible first | exact Below.refl _ _ | assumption | refine Below.drewN _ ?_ | refine Below.drew ?_ | refine Below_alloc ?_ _ | refine Below.alloc ?_ (by first | (simp; done) | (simp; omega) | omega) _ | refine Below.setCell ?_ (by first | (simp; done) | (simp; omega) | omega) _ | refine Below_call ?_ (by assumption) | refine Below.trans ?_ (by assumption)))) (fun _ _ h => h)) (by have := HLEN.out.1; omega) (by have := HLEN.out.2.2.2; omega)).mono ?_; rintro _ w6 ⟨r6, rfl, hw6, hb6⟩; obtain ⟨ro6, rn6, rc6, rfl⟩ := hw6.shape; have HW6 := hid hw6; clear hw6; have hz6 : w5.heap.size ≤ w6.heap.size := (by have := hb6.size; first | exact this | (simp at this; omega)); (first | (with_reducible have hrow := (hb6.block _ (lt_alloc _ _)).trans (heap_alloc_new _ _)) | (have hrow := (hb6.block _ (row_lt hrow)).trans hrow) | skip); (first | (have hrow2 := hrow; obtain ⟨y0, y1, fy0, fy1, hly⟩ := two_cells hrow2) | skip))); rw [contF]; refine ⟨?_, ?_⟩; (next => (repeat (with_reducible first | exact Below.refl _ _ | assumption | refine Below.drewN _ ?_ | refine Below.drew ?_ | refine Below_alloc ?_ _ | refine Below.alloc ?_ (by first | (simp; done) | (simp; omega) | omega) _ | refine Below.setCell ?_ (by first | (simp; done) | (simp; omega) | omega) _ | refine Below_call ?_ (by assumption) | refine Below.trans ?_ (by assumption))))))
      (rw [wpSteps])
      rotate_right
      (rw [wpFlt])
      (refine ⟨?_, ?_⟩)
      (go_wp2_with ((go_at_call 137; refine (base_WideMul _ q _ _ _ _ (HNB.out _ (by first | exact Nat.le_trans hz3 hz4 | (simp; omega))) (HW4.out.mono (by (repeat (with_reducible first | exact Below.refl _ _ | assumption | refine Below.drewN _ ?_ | refine Below.drew ?_ | refine Below_alloc ?_ _ | refine Below.alloc ?_ (by first | (simp; done) | (simp; omega) | omega) _ | refine Below.setCell ?_ (by first | (simp; done) | (simp; omega) | omega) _ | refine Below_call ?_ (by assumption) | refine Below.trans ?_ (by assumption)))) (fun _ _ h => h)) (HQW.out _ (by (repeat (with_reducible first | exact Below.refl _ _ | assumption | refine Below.drewN _ ?_ | refine Below.drew ?_ | refine Below_alloc ?_ _ | refine Below.alloc ?_ (by first | (simp; done) | (simp; omega) | omega) _ | refine Below.setCell ?_ (by first | (simp; done) | (simp; omega) | omega) _ | refine Below_call ?_ (by assumption) | refine Below.trans ?_ (by assumption))))) (by have := HLEN.out.2.2.1; omega) (by have := HLEN.out.2.1; omega)).mono ?_; rintro _ w5 ⟨r5, rfl, hw5, hb5⟩; obtain ⟨ro5, rn5, rc5, rfl⟩ := hw5.shape; have HW5 := hid hw5; clear hw5; have hz5 : w4.heap.size ≤ w5.heap.size := (by have := hb5.size; first | exact this | (simp at this; omega)); (first | (with_reducible have hrow := (hb5.block _ (lt_alloc _ _)).trans (heap_alloc_new _ _)) | (have hrow := (hb5.block _ (row_lt hrow)).trans hrow) | skip))); rw [contF]; refine ⟨?_, ?_⟩; (next => (repeat (with_reducible first | exact Below.refl _ _ | assumption | refine Below.drewN _ ?_ | refine Below.drew ?_ | refine Below_alloc ?_ _ | refine Below.alloc ?_ (by first | (simp; done) | (simp; omega) | omega) _ | refine Below.setCell ?_ (by first | (simp; done) | (simp; omega) | omega) _ | refine Below_call ?_ (by assumption) | refine Below.trans ?_ (by assumption)))))
      rotate_left
      (simp only [List.cons_append, List.nil_append])
      (rw [wpSteps]; (go_wp2_with (fail); rw [contF]; refine ⟨?_, ?_⟩; (next => (repeat (with_reducible first | exact Below.refl _ _ | assumption | refine Below.drewN _ ?_ | refine Below.drew ?_ | refine Below_alloc ?_ _ | refine Below.alloc ?_ (by first | (simp; done) | (simp; omega) | omega) _ | refine Below.setCell ?_ (by first | (simp; done) | (simp; omega) | omega) _ | refine Below_call ?_ (by assumption) | refine Below.trans ?_ (by assumption))))))
      (rw [wpSteps]; (go_wp2_with ((go_at_call 137; refine (base_WideMul _ q _ _ _ _ (HNB.out _ (by first | exact Nat.le_trans hz3 hz4 | (simp; omega))) (HW4.out.mono (by (repeat (with_reducible first | exact Below.refl _ _ | assumption | refine Below.drewN _ ?_ | refine Below.drew ?_ | refine Below_alloc ?_ _ | refine Below.alloc ?_ (by first | (simp; done) | (simp; omega) | omega) _ | refine Below.setCell ?_ (by first | (simp; done) | (simp; omega) | omega) _ | refine Below_call ?_ (by assumption) | refine Below.trans ?_ (by assumption)))) (fun _ _ h => h)) (HQW.out _ (by (repeat (with_reducible first | exact Below.refl _ _ | assumption | refine Below.drewN _ ?_ | refine Below.drew ?_ | refine Below_alloc ?_ _ | refine Below.alloc ?_ (by first | (simp; done) | (simp; omega) | omega) _ | refine Below.setCell ?_ (by first | (simp; done) | (simp; omega) | omega) _ | refine Below_call ?_ (by assumption) | refine Below.trans ?_ (by assumption))))) (by have := HLEN.out.2.2.1; omega) (by have := HLEN.out.2.1; omega)).mono ?_; rintro _ w5 ⟨r5, rfl, hw5, hb5⟩; obtain ⟨ro5, rn5, rc5, rfl⟩ := hw5.shape; have HW5 := hid hw5; clear hw5; have hz5 : w4.heap.size ≤ w5.heap.size := (by have := hb5.size; first | exact this | (simp at this; omega)); (first | (with_reducible have hrow := (hb5.block _ (lt_alloc _ _)).trans (heap_alloc_new _ _)) | (have hrow := (hb5.block _ (row_lt hrow)).trans hrow) | skip))); rw [contF]; refine ⟨?_, ?_⟩; (next => (repeat (with_reducible first | exact Below.refl _ _ | assumption | refine Below.drewN _ ?_ | refine Below.drew ?_ | refine Below_alloc ?_ _ | refine Below.alloc ?_ (by first | (simp; done) | (simp; omega) | omega) _ | refine Below.setCell ?_ (by first | (simp; done) | (simp; omega) | omega) _ | refine Below_call ?_ (by assumption) | refine Below.trans ?_ (by assumption))))))
      (rw [wpSteps]; (go_wp2_with ((go_at_call 154; refine (base_WideSub p _ _ _ _ _ (HNB.out _ (by first | exact Nat.le_trans hz3 (Nat.le_trans hz4 hz5) | (simp; omega))) (HPW.out _ (by (repeat (with_reducible first | exact Below.refl _ _ | assumption | refine Below.drewN _ ?_ | refine Below.drew ?_ | refine Below_alloc ?_ _ | refine Below.alloc ?_ (by first | (simp; done) | (simp; omega) | omega) _ | refine Below.setCell ?_ (by first | (simp; done) | (simp; omega) | omega) _ | refine Below_call ?_ (by assumption) | refine Below.trans ?_ (by assumption))))) (HW5.out.mono (by (repeat (with_reducible first | exact Below.refl _ _ | assumption | refine Below.drewN _ ?_ | refine Below.drew ?_ | refine Below_alloc ?_ _ | refine Below.alloc ?_ (by first | (simp; done) | (simp; omega) | omega) _ | refine Below.setCell ?_ (by first | (simp; done) | (simp; omega) | omega) _ | refine Below_call ?_ (by assumption) | refine Below.trans ?_ (by assumption)))) (fun _ _ h => h)) (by have := HLEN.out.1; omega) (by have := HLEN.out.2.2.2; omega)).mono ?_; rintro _ w6 ⟨r6, rfl, hw6, hb6⟩; obtain ⟨ro6, rn6, rc6, rfl⟩ := hw6.shape; have HW6 := hid hw6; clear hw6; have hz6 : w5.heap.size ≤ w6.heap.size := (by have := hb6.size; first | exact this | (simp at this; omega)); (first | (with_reducible have hrow := (hb6.block _ (lt_alloc _ _)).trans (heap_alloc_new _ _)) | (have hrow := (hb6.block _ (row_lt hrow)).trans hrow) | skip); (first | (have hrow2 := hrow; obtain ⟨y0, y1, fy0, fy1, hly⟩ := two_cells hrow2) | skip))); rw [contF]; refine ⟨?_, ?_⟩; (next => (repeat (with_reducible first | exact Below.refl _ _ | assumption | refine Below.drewN _ ?_ | refine Below.drew ?_ | refine Below_alloc ?_ _ | refine Below.alloc ?_ (by first | (simp; done) | (simp; omega) | omega) _ | refine Below.setCell ?_ (by first | (simp; done) | (simp; omega) | omega) _ | refine Below_call ?_ (by assumption) | refine Below.trans ?_ (by assumption))))))
      (rw [wpSteps])
      rotate_right
      (rw [wpFlt])
      (refine ⟨?_, ?_⟩)
      (go_wp2_with ((go_at_call 154; refine (base_WideSub p _ _ _ _ _ (HNB.out _ (by first | exact Nat.le_trans hz3 (Nat.le_trans hz4 hz5) | (simp; omega))) (HPW.out _ (by (repeat (with_reducible first | exact Below.refl _ _ | assumption | refine Below.drewN _ ?_ | refine Below.drew ?_ | refine Below_alloc ?_ _ | refine Below.alloc ?_ (by first | (simp; done) | (simp; omega) | omega) _ | refine Below.setCell ?_ (by first | (simp; done) | (simp; omega) | omega) _ | refine Below_call ?_ (by assumption) | refine Below.trans ?_ (by assumption))))) (HW5.out.mono (by (repeat (with_reducible first | exact Below.refl _ _ | assumption | refine Below.drewN _ ?_ | refine Below.drew ?_ | refine Below_alloc ?_ _ | refine Below.alloc ?_ (by first | (simp; done) | (simp; omega) | omega) _ | refine Below.setCell ?_ (by first | (simp; done) | (simp; omega) | omega) _ | refine Below_call ?_ (by assumption) | refine Below.trans ?_ (by assumption)))) (fun _ _ h => h)) (by have := HLEN.out.1; omega) (by have := HLEN.out.2.2.2; omega)).mono ?_; rintro _ w6 ⟨r6, rfl, hw6, hb6⟩; obtain ⟨ro6, rn6, rc6, rfl⟩ := hw6.shape; have HW6 := hid hw6; clear hw6; have hz6 : w5.heap.size ≤ w6.heap.size := (by have := hb6.size; first | exact this | (simp at this; omega)); (first | (with_reducible have hrow := (hb6.block _ (lt_alloc _ _)).trans (heap_alloc_new _ _)) | (have hrow := (hb6.block _ (row_lt hrow)).trans hrow) | skip); (first | (have hrow2 := hrow; obtain ⟨y0, y1, fy0, fy1, hly⟩ := two_cells hrow2) | skip))); rw [contF]; refine ⟨?_, ?_⟩; (next => (repeat (with_reducible first | exact Below.refl _ _ | assumption | refine Below.drewN _ ?_ | refine Below.drew ?_ | refine Below_alloc ?_ _ | refine Below.alloc ?_ (by first | (simp; done) | (simp; omega) | omega) _ | refine Below.setCell ?_ (by first | (simp; done) | (simp; omega) | omega) _ | refine Below_call ?_ (by assumption) | refine Below.trans ?_ (by assumption)))))
      rotate_left
      (simp only [List.cons_append, List.nil_append])
      (rw [wpSteps]; (go_wp2_with (fail); rw [contF]; refine ⟨?_, ?_⟩; (next => (repeat (with_reducible first | exact Below.refl _ _ | assumption | refine Below.drewN _ ?_ | refine Below.drew ?_ | refine Below_alloc ?_ _ | refine Below.alloc ?_ (by first | (simp; done) | (simp; omega) | omega) _ | refine Below.setCell ?_ (by first | (simp; done) | (simp; omega) | omega) _ | refine Below_call ?_ (by assumption) | refine Below.trans ?_ (by assumption))))))
      (rw [wpSteps]; (go_wp2_with ((go_at_call 154; refine (base_WideSub p _ _ _ _ _ (HNB.out _ (by first | exact Nat.le_trans hz3 (Nat.le_trans hz4 hz5) | (simp; omega))) (HPW.out _ (by (repeat (with_reducible first | exact Below.refl _ _ | assumption | refine Below.drewN _ ?_ | refine Below.drew ?_ | refine Below_alloc ?_ _ | refine Below.alloc ?_ (by first | (simp; done) | (simp; omega) | omega) _ | refine Below.setCell ?_ (by first | (simp; done) | (simp; omega) | omega) _ | refine Below_call ?_ (by assumption) | refine Below.trans ?_ (by assumption))))) (HW5.out.mono (by (repeat (with_reducible first | exact Below.refl _ _ | assumption | refine Below.drewN _ ?_ | refine Below.drew ?_ | refine Below_alloc ?_ _ | refine Below.alloc ?_ (by first | (simp; done) | (simp; omega) | omega) _ | refine Below.setCell ?_ (by first | (simp; done) | (simp; omega) | omega) _ | refine Below_call ?_ (by assumption) | refine Below.trans ?_ (by assumption)))) (fun _ _ h => h)) (by have := HLEN.out.1; omega) (by have := HLEN.out.2.2.2; omega)).mono ?_; rintro _ w6 ⟨r6, rfl, hw6, hb6⟩; obtain ⟨ro6, rn6, rc6, rfl⟩ := hw6.shape; have HW6 := hid hw6; clear hw6; have hz6 : w5.heap.size ≤ w6.heap.size := (by have := hb6.size; first | exact this | (simp at this; omega)); (first | (with_reducible have hrow := (hb6.block _ (lt_alloc _ _)).trans (heap_alloc_new _ _)) | (have hrow := (hb6.block _ (row_lt hrow)).trans hrow) | skip); (first | (have hrow2 := hrow; obtain ⟨y0, y1, fy0, fy1, hly⟩ := two_cells hrow2) | skip))); rw [contF]; refine ⟨?_, ?_⟩; (next => (repeat (with_reducible first | exact Below.refl _ _ | assumption | refine Below.drewN _ ?_ | refine Below.drew ?_ | refine Below_alloc ?_ _ | refine Below.alloc ?_ (by first | (simp; done) | (simp; omega) | omega) _ | refine Below.setCell ?_ (by first | (simp; done) | (simp; omega) | omega) _ | refine Below_call ?_ (by assumption) | refine Below.trans ?_ (by assumption))))))
      (rw [wpSteps])
      rotate_right
      (rw [wpFlt, wpSteps]; (go_wp2_with (fail); rw [contF]; refine ⟨?_, ?_⟩; (next => (repeat (with_reducible first | exact Below.refl _ _ | assumption | refine Below.drewN _ ?_ | refine Below.drew ?_ | refine Below_alloc ?_ _ | refine Below.alloc ?_ (by first | (simp; done) | (simp; omega) | omega) _ | refine Below.setCell ?_ (by first | (simp; done) | (simp; omega) | omega) _ | refine Below_call ?_ (by assumption) | refine Below.trans ?_ (by assumption))))))
      (rw [wpSteps])
      all_goals (rw [wpMix]; simp only [pick, List.drop_succ_cons, List.drop_zero, List.head?_cons, Option.toList_some, List.cons_append, List.nil_append])
      all_goals (go_wp2_with (fail); rw [contF])
      all_goals (rw [wpMix])
      all_goals (refine hQ' _ _ ?_)
      all_goals go_wp2_with fail
      · obtain ⟨W7, hW7⟩ : ∃ W7, W7 = w6.alloc (.cells #[.int .i64 (sg ((p : Int) - (p : Int) / (q : Int) * (q : Int))), .slice ro6 rn6 rc6] 51) := ⟨_, rfl⟩
        rw [← hW7]
        have q7 : W7.heap[w6.heap.size]? = some (.cells #[.int .i64 (sg ((p : Int) - (p : Int) / (q : Int) * (q : Int))), .slice ro6 rn6 rc6] 51 (0, 0)) := by rw [hW7]; exact heap_alloc_new w6 _
        have hb7 : Below wo.heap.size wo W7 := by rw [hW7]; (repeat (with_reducible first | exact Below.refl _ _ | assumption | refine Below.drewN _ ?_ | refine Below.drew ?_ | refine Below_alloc ?_ _ | refine Below.alloc ?_ (by first | (simp; done) | (simp; omega) | omega) _ | refine Below.setCell ?_ (by first | (simp; done) | (simp; omega) | omega) _ | refine Below_call ?_ (by assumption) | refine Below.trans ?_ (by assumption)))
        have HW7 : Hid (WideAt W7 (.agg #[.int .i64 (sg ((p : Int) - (p : Int) / (q : Int) * (q : Int))), .slice ro6 rn6 rc6]) ((p : Int) - (p : Int) / (q : Int) * (q : Int)) (fun b => b ≠ w.heap.size ∧ b ≠ w.heap.size + 1 ∧ b ≠ w.heap.size + 1 + 1 ∧ (b < w.heap.size → N b))) := hid (by rw [hW7]; exact HW6.out.mono ((Below.refl _ _).alloc (Nat.le_refl _) _) (fun _ _ h => h))
        obtain ⟨g, hg⟩ : ∃ g, g = w6.heap.size := ⟨_, rfl⟩
        have hgw : wo.heap.size ≤ g := by omega
        rw [← hg] at q7 ⊢
        clear hW7 hg
        obtain ⟨sr, hsr⟩ : ∃ sr, sr = sg ((p : Int) - (p : Int) / (q : Int) * (q : Int)) := ⟨_, rfl⟩
        rw [← hsr] at q7 ⊢
        have HSR := hid hsr
        have HQ7 := hid q7
        have HB7 := hid hb7
        obtain ⟨z0, z1, fz0, fz1, hlg⟩ := two_cells q7
        obtain ⟨a0, a1, fa0, fa1, hla7⟩ := two_cells ((hb7.block w.heap.size hla).trans HW.out.1.row)
        obtain ⟨b0, b1, fb0, fb1, hlb7⟩ := two_cells ((hb7.block (w.heap.size + 1) hlb).trans HW.out.2.1.row)
        rw [← HSP.out] at a0
        rw [← HSQ.out] at b0
        have hga : g ≠ w.heap.size := by omega
        have hgb : g ≠ w.heap.size + 1 := by omega
        clear hb3 hb3' hb4 hb5 hb6 q7 hsr r0 r1 fr0 fr1
        refine wp_mixC (KeepB [g, w.heap.size + 1] W7) 3 [.q [0, 1], .f [2]] [.f [3]] (by kernel_rfl) (by kernel_rfl) ((KeepB.refl (by first | (simp; done) | (simp; omega))).drew) ?_
        intro Q' hQ'
        (rw [wpMixC]; simp only [pick, List.drop_succ_cons, List.drop_zero, List.head?_cons, Option.toList_some, List.cons_append, List.nil_append])
        (repeat (first | go_big_quiet_skip | (go_big_quiet_want; refine quiet_simple rfl ?_; go_big_quiet_op; go_big_quiet_on) | (go_big_quiet_want; refine quiet_agg2K (ty := 51) rfl rfl (by kernel_rfl) (by assumption) (by assumption) (by simp) ?_; simp only [Act.put, List.setIfInBounds_toArray, List.set_cons_succ, List.set_cons_zero]; go_big_quiet_on)))
        (try refine wpQuiet_nil ?_)
        (rw [wpMixC]; simp only [pick, List.drop_succ_cons, List.drop_zero, List.head?_cons, Option.toList_some, List.cons_append, List.nil_append])
        (rw [wpSteps]; go_wp2_with (fail); rw [contF]; refine ⟨?_, ?_⟩; (next => (repeat (with_reducible first | assumption | exact KeepB.refl (by first | (simp; done) | (simp; omega)) | refine KeepB.drew ?_ | refine KeepB.alloc ?_ _ | refine KeepB.setCell ?_ (by first | (simp; done) | (simp; omega)) | refine KeepB.below ?_ (by assumption)))))
        (rw [wpSteps])
        (rw [wpMixC])
        (rw [wpMix]; simp only [pick, List.drop_succ_cons, List.drop_zero, List.head?_cons, Option.toList_some, List.cons_append, List.nil_append])
        (go_wp2_with ((first | fail)); rw [contF])
        (rw [wpMix])
        (refine hQ' _ _ ?_)
        go_wp2_with fail
        go_roundg (p % q)
        case rel =>
          have hpq : (p : Int) - (p : Int) / (q : Int) * (q : Int) = ((p % q : Nat) : Int) := by rw [HST.out.1]; rfl
          have hmq : p % q ≤ p := Nat.mod_le _ _
          have ra := (HB7.out.block w.heap.size hla).trans HW.out.1.row
          have rb := (HB7.out.block (w.heap.size + 1) hlb).trans HW.out.2.1.row
          have rr := (HB7.out.block (w.heap.size + 1 + 1) hlr).trans HW.out.2.2
          have hrot := gcd_rot (N := fun b => b ≠ w.heap.size ∧ b ≠ w.heap.size + 1 ∧ b ≠ w.heap.size + 1 + 1 ∧ (b < w.heap.size → N b)) HSQ.out (HSR.out.trans (congrArg sg hpq)) ra rb rr (by omega) (by omega) (by omega) (by rw [← HSQ.out]; exact HQW.out _ HB7.out) (by have := HW7.out; rw [hpq] at this; exact this) (fun b h => ⟨h.1, h.2.1⟩)
          exact ⟨q, p % q, qo, qn, qc, ro6, rn6, rc6, Nat.le_refl _, hid ⟨by rw [← HG.out.1, Nat.gcd_comm p q, Nat.gcd_comm q (p % q)]; exact (Nat.gcd_rec q p).symm, HG.out.2.2, Nat.le_trans (dig_len_mono hmq) HG.out.2.1⟩, hid ⟨hrot.1.below ((Below.refl _ _).drew), hrot.2.1.below ((Below.refl _ _).drew), hrot.2.2⟩, by (repeat (with_reducible first | exact Below.refl _ _ | assumption | refine Below.drewN _ ?_ | refine Below.drew ?_ | refine Below_alloc ?_ _ | refine Below.alloc ?_ (by first | (simp; done) | (simp; omega) | omega) _ | refine Below.setCell ?_ (by first | (simp; done) | (simp; omega) | omega) _ | refine Below_call ?_ (by assumption) | refine Below.trans ?_ (by assumption)))⟩
        case measure => exact Nat.lt_of_lt_of_le (Nat.mod_lt _ HQ0.out) hqk
      · obtain ⟨W7, hW7⟩ : ∃ W7, W7 = (w6.setCell ⟨w5.heap.size, 0, none⟩ (.int .i64 (sg ((p : Int) - (p : Int) / (q : Int) * (q : Int))))).setCell ⟨w5.heap.size, 1, none⟩ (.slice ro6 rn6 rc6) := ⟨_, rfl⟩
        rw [← hW7]
        have q7 : W7.heap[w5.heap.size]? = some (.cells #[.int .i64 (sg ((p : Int) - (p : Int) / (q : Int) * (q : Int))), .slice ro6 rn6 rc6] 51 (0, 0)) := by rw [hW7]; exact two_set hrow
        have hb7 : Below wo.heap.size wo W7 := by rw [hW7]; (repeat (with_reducible first | exact Below.refl _ _ | assumption | refine Below.drewN _ ?_ | refine Below.drew ?_ | refine Below_alloc ?_ _ | refine Below.alloc ?_ (by first | (simp; done) | (simp; omega) | omega) _ | refine Below.setCell ?_ (by first | (simp; done) | (simp; omega) | omega) _ | refine Below_call ?_ (by assumption) | refine Below.trans ?_ (by assumption)))
        have HW7 : Hid (WideAt W7 (.agg #[.int .i64 (sg ((p : Int) - (p : Int) / (q : Int) * (q : Int))), .slice ro6 rn6 rc6]) ((p : Int) - (p : Int) / (q : Int) * (q : Int)) (fun b => b ≠ w.heap.size ∧ b ≠ w.heap.size + 1 ∧ b ≠ w.heap.size + 1 + 1 ∧ (b < w.heap.size → N b))) := hid (by rw [hW7]; exact (HW6.out.apart hrow).store2 (Below.refl _ _) (fun b h => ⟨h.2, h.1⟩) _ _)
        obtain ⟨g, hg⟩ : ∃ g, g = w5.heap.size := ⟨_, rfl⟩
        have hgw : wo.heap.size ≤ g := by omega
        rw [← hg] at q7 ⊢
        clear hW7 hrow y0 y1 fy0 fy1 hly hg
        obtain ⟨sr, hsr⟩ : ∃ sr, sr = sg ((p : Int) - (p : Int) / (q : Int) * (q : Int)) := ⟨_, rfl⟩
        rw [← hsr] at q7 ⊢
        have HSR := hid hsr
        have HQ7 := hid q7
        have HB7 := hid hb7
        obtain ⟨z0, z1, fz0, fz1, hlg⟩ := two_cells q7
        obtain ⟨a0, a1, fa0, fa1, hla7⟩ := two_cells ((hb7.block w.heap.size hla).trans HW.out.1.row)
        obtain ⟨b0, b1, fb0, fb1, hlb7⟩ := two_cells ((hb7.block (w.heap.size + 1) hlb).trans HW.out.2.1.row)
        rw [← HSP.out] at a0
        rw [← HSQ.out] at b0
        have hga : g ≠ w.heap.size := by omega
        have hgb : g ≠ w.heap.size + 1 := by omega
        clear hb3 hb3' hb4 hb5 hb6 q7 hsr r0 r1 fr0 fr1
        refine wp_mixC (KeepB [g, w.heap.size + 1] W7) 3 [.q [0, 1], .f [2]] [.f [3]] (by kernel_rfl) (by kernel_rfl) ((KeepB.refl (by first | (simp; done) | (simp; omega))).drew) ?_
        intro Q' hQ'
        (rw [wpMixC]; simp only [pick, List.drop_succ_cons, List.drop_zero, List.head?_cons, Option.toList_some, List.cons_append, List.nil_append])
        (repeat (first | go_big_quiet_skip | (go_big_quiet_want; refine quiet_simple rfl ?_; go_big_quiet_op; go_big_quiet_on) | (go_big_quiet_want; refine quiet_agg2K (ty := 51) rfl rfl (by kernel_rfl) (by assumption) (by assumption) (by simp) ?_; simp only [Act.put, List.setIfInBounds_toArray, List.set_cons_succ, List.set_cons_zero]; go_big_quiet_on)))
        (try refine wpQuiet_nil ?_)
        (rw [wpMixC]; simp only [pick, List.drop_succ_cons, List.drop_zero, List.head?_cons, Option.toList_some, List.cons_append, List.nil_append])
        (rw [wpSteps]; go_wp2_with (fail); rw [contF]; refine ⟨?_, ?_⟩; (next => (repeat (with_reducible first | assumption | exact KeepB.refl (by first | (simp; done) | (simp; omega)) | refine KeepB.drew ?_ | refine KeepB.alloc ?_ _ | refine KeepB.setCell ?_ (by first | (simp; done) | (simp; omega)) | refine KeepB.below ?_ (by assumption)))))
        (rw [wpSteps])
        (rw [wpMixC])
        (rw [wpMix]; simp only [pick, List.drop_succ_cons, List.drop_zero, List.head?_cons, Option.toList_some, List.cons_append, List.nil_append])
        (go_wp2_with ((first | fail)); rw [contF])
        (rw [wpMix])
        (refine hQ' _ _ ?_)
        go_wp2_with fail
        go_roundg (p % q)
        case rel =>
          have hpq : (p : Int) - (p : Int) / (q : Int) * (q : Int) = ((p % q : Nat) : Int) := by rw [HST.out.1]; rfl
          have hmq : p % q ≤ p := Nat.mod_le _ _
          have ra := (HB7.out.block w.heap.size hla).trans HW.out.1.row
          have rb := (HB7.out.block (w.heap.size + 1) hlb).trans HW.out.2.1.row
          have rr := (HB7.out.block (w.heap.size + 1 + 1) hlr).trans HW.out.2.2
          have hrot := gcd_rot (N := fun b => b ≠ w.heap.size ∧ b ≠ w.heap.size + 1 ∧ b ≠ w.heap.size + 1 + 1 ∧ (b < w.heap.size → N b)) HSQ.out (HSR.out.trans (congrArg sg hpq)) ra rb rr (by omega) (by omega) (by omega) (by rw [← HSQ.out]; exact HQW.out _ HB7.out) (by have := HW7.out; rw [hpq] at this; exact this) (fun b h => ⟨h.1, h.2.1⟩)
          exact ⟨q, p % q, qo, qn, qc, ro6, rn6, rc6, Nat.le_refl _, hid ⟨by rw [← HG.out.1, Nat.gcd_comm p q, Nat.gcd_comm q (p % q)]; exact (Nat.gcd_rec q p).symm, HG.out.2.2, Nat.le_trans (dig_len_mono hmq) HG.out.2.1⟩, hid ⟨hrot.1.below ((Below.refl _ _).drew), hrot.2.1.below ((Below.refl _ _).drew), hrot.2.2⟩, by (repeat (with_reducible first | exact Below.refl _ _ | assumption | refine Below.drewN _ ?_ | refine Below.drew ?_ | refine Below_alloc ?_ _ | refine Below.alloc ?_ (by first | (simp; done) | (simp; omega) | omega) _ | refine Below.setCell ?_ (by first | (simp; done) | (simp; omega) | omega) _ | refine Below_call ?_ (by assumption) | refine Below.trans ?_ (by assumption)))⟩
        case measure => exact Nat.lt_of_lt_of_le (Nat.mod_lt _ HQ0.out) hqk
      · obtain ⟨W7, hW7⟩ : ∃ W7, W7 = (w6.setCell ⟨w4.heap.size, 0, none⟩ (.int .i64 (sg ((p : Int) - (p : Int) / (q : Int) * (q : Int))))).setCell ⟨w4.heap.size, 1, none⟩ (.slice ro6 rn6 rc6) := ⟨_, rfl⟩
        rw [← hW7]
        have q7 : W7.heap[w4.heap.size]? = some (.cells #[.int .i64 (sg ((p : Int) - (p : Int) / (q : Int) * (q : Int))), .slice ro6 rn6 rc6] 51 (0, 0)) := by rw [hW7]; exact two_set hrow
        have hb7 : Below wo.heap.size wo W7 := by rw [hW7]; (repeat (with_reducible first | exact Below.refl _ _ | assumption | refine Below.drewN _ ?_ | refine Below.drew ?_ | refine Below_alloc ?_ _ | refine Below.alloc ?_ (by first | (simp; done) | (simp; omega) | omega) _ | refine Below.setCell ?_ (by first | (simp; done) | (simp; omega) | omega) _ | refine Below_call ?_ (by assumption) | refine Below.trans ?_ (by assumption)))
        have HW7 : Hid (WideAt W7 (.agg #[.int .i64 (sg ((p : Int) - (p : Int) / (q : Int) * (q : Int))), .slice ro6 rn6 rc6]) ((p : Int) - (p : Int) / (q : Int) * (q : Int)) (fun b => b ≠ w.heap.size ∧ b ≠ w.heap.size + 1 ∧ b ≠ w.heap.size + 1 + 1 ∧ (b < w.heap.size → N b))) := hid (by rw [hW7]; exact (HW6.out.apart hrow).store2 (Below.refl _ _) (fun b h => ⟨h.2, h.1⟩) _ _)
        obtain ⟨g, hg⟩ : ∃ g, g = w4.heap.size := ⟨_, rfl⟩
        have hgw : wo.heap.size ≤ g := by omega
        rw [← hg] at q7 ⊢
        clear hW7 hrow y0 y1 fy0 fy1 hly hg
        obtain ⟨sr, hsr⟩ : ∃ sr, sr = sg ((p : Int) - (p : Int) / (q : Int) * (q : Int)) := ⟨_, rfl⟩
        rw [← hsr] at q7 ⊢
        have HSR := hid hsr
        have HQ7 := hid q7
        have HB7 := hid hb7
        obtain ⟨z0, z1, fz0, fz1, hlg⟩ := two_cells q7
        obtain ⟨a0, a1, fa0, fa1, hla7⟩ := two_cells ((hb7.block w.heap.size hla).trans HW.out.1.row)
        obtain ⟨b0, b1, fb0, fb1, hlb7⟩ := two_cells ((hb7.block (w.heap.size + 1) hlb).trans HW.out.2.1.row)
        rw [← HSP.out] at a0
        rw [← HSQ.out] at b0
        have hga : g ≠ w.heap.size := by omega
        have hgb : g ≠ w.heap.size + 1 := by omega
        clear hb3 hb3' hb4 hb5 hb6 q7 hsr r0 r1 fr0 fr1
        refine wp_mixC (KeepB [g, w.heap.size + 1] W7) 3 [.q [0, 1], .f [2]] [.f [3]] (by kernel_rfl) (by kernel_rfl) ((KeepB.refl (by first | (simp; done) | (simp; omega))).drew) ?_
        intro Q' hQ'
        (rw [wpMixC]; simp only [pick, List.drop_succ_cons, List.drop_zero, List.head?_cons, Option.toList_some, List.cons_append, List.nil_append])
        (repeat (first | go_big_quiet_skip | (go_big_quiet_want; refine quiet_simple rfl ?_; go_big_quiet_op; go_big_quiet_on) | (go_big_quiet_want; refine quiet_agg2K (ty := 51) rfl rfl (by kernel_rfl) (by assumption) (by assumption) (by simp) ?_; simp only [Act.put, List.setIfInBounds_toArray, List.set_cons_succ, List.set_cons_zero]; go_big_quiet_on)))
        (try refine wpQuiet_nil ?_)
        (rw [wpMixC]; simp only [pick, List.drop_succ_cons, List.drop_zero, List.head?_cons, Option.toList_some, List.cons_append, List.nil_append])
        (rw [wpSteps]; go_wp2_with (fail); rw [contF]; refine ⟨?_, ?_⟩; (next => (repeat (with_reducible first | assumption | exact KeepB.refl (by first | (simp; done) | (simp; omega)) | refine KeepB.drew ?_ | refine KeepB.alloc ?_ _ | refine KeepB.setCell ?_ (by first | (simp; done) | (simp; omega)) | refine KeepB.below ?_ (by assumption)))))
        (rw [wpSteps])
        (rw [wpMixC])
        (rw [wpMix]; simp only [pick, List.drop_succ_cons, List.drop_zero, List.head?_cons, Option.toList_some, List.cons_append, List.nil_append])
        (go_wp2_with ((first | fail)); rw [contF])
        (rw [wpMix])
        (refine hQ' _ _ ?_)
        go_wp2_with fail
        go_roundg (p % q)
        case rel =>
          have hpq : (p : Int) - (p : Int) / (q : Int) * (q : Int) = ((p % q : Nat) : Int) := by rw [HST.out.1]; rfl
          have hmq : p % q ≤ p := Nat.mod_le _ _
          have ra := (HB7.out.block w.heap.size hla).trans HW.out.1.row
          have rb := (HB7.out.block (w.heap.size + 1) hlb).trans HW.out.2.1.row
          have rr := (HB7.out.block (w.heap.size + 1 + 1) hlr).trans HW.out.2.2
          have hrot := gcd_rot (N := fun b => b ≠ w.heap.size ∧ b ≠ w.heap.size + 1 ∧ b ≠ w.heap.size + 1 + 1 ∧ (b < w.heap.size → N b)) HSQ.out (HSR.out.trans (congrArg sg hpq)) ra rb rr (by omega) (by omega) (by omega) (by rw [← HSQ.out]; exact HQW.out _ HB7.out) (by have := HW7.out; rw [hpq] at this; exact this) (fun b h => ⟨h.1, h.2.1⟩)
          exact ⟨q, p % q, qo, qn, qc, ro6, rn6, rc6, Nat.le_refl _, hid ⟨by rw [← HG.out.1, Nat.gcd_comm p q, Nat.gcd_comm q (p % q)]; exact (Nat.gcd_rec q p).symm, HG.out.2.2, Nat.le_trans (dig_len_mono hmq) HG.out.2.1⟩, hid ⟨hrot.1.below ((Below.refl _ _).drew), hrot.2.1.below ((Below.refl _ _).drew), hrot.2.2⟩, by (repeat (with_reducible first | exact Below.refl _ _ | assumption | refine Below.drewN _ ?_ | refine Below.drew ?_ | refine Below_alloc ?_ _ | refine Below.alloc ?_ (by first | (simp; done) | (simp; omega) | omega) _ | refine Below.setCell ?_ (by first | (simp; done) | (simp; omega) | omega) _ | refine Below_call ?_ (by assumption) | refine Below.trans ?_ (by assumption)))⟩
        case measure => exact Nat.lt_of_lt_of_le (Nat.mod_lt _ HQ0.out) hqk
      · obtain ⟨W7, hW7⟩ : ∃ W7, W7 = (w6.setCell ⟨w3.heap.size, 0, none⟩ (.int .i64 (sg ((p : Int) - (p : Int) / (q : Int) * (q : Int))))).setCell ⟨w3.heap.size, 1, none⟩ (.slice ro6 rn6 rc6) := ⟨_, rfl⟩
        rw [← hW7]
        have q7 : W7.heap[w3.heap.size]? = some (.cells #[.int .i64 (sg ((p : Int) - (p : Int) / (q : Int) * (q : Int))), .slice ro6 rn6 rc6] 51 (0, 0)) := by rw [hW7]; exact two_set hrow
        have hb7 : Below wo.heap.size wo W7 := by rw [hW7]; (repeat (with_reducible first | exact Below.refl _ _ | assumption | refine Below.drewN _ ?_ | refine Below.drew ?_ | refine Below_alloc ?_ _ | refine Below.alloc ?_ (by first | (simp; done) | (simp; omega) | omega) _ | refine Below.setCell ?_ (by first | (simp; done) | (simp; omega) | omega) _ | refine Below_call ?_ (by assumption) | refine Below.trans ?_ (by assumption)))
        have HW7 : Hid (WideAt W7 (.agg #[.int .i64 (sg ((p : Int) - (p : Int) / (q : Int) * (q : Int))), .slice ro6 rn6 rc6]) ((p : Int) - (p : Int) / (q : Int) * (q : Int)) (fun b => b ≠ w.heap.size ∧ b ≠ w.heap.size + 1 ∧ b ≠ w.heap.size + 1 + 1 ∧ (b < w.heap.size → N b))) := hid (by rw [hW7]; exact (HW6.out.apart hrow).store2 (Below.refl _ _) (fun b h => ⟨h.2, h.1⟩) _ _)
        obtain ⟨g, hg⟩ : ∃ g, g = w3.heap.size := ⟨_, rfl⟩
        have hgw : wo.heap.size ≤ g := by omega
        rw [← hg] at q7 ⊢
        clear hW7 hrow y0 y1 fy0 fy1 hly hg
        obtain ⟨sr, hsr⟩ : ∃ sr, sr = sg ((p : Int) - (p : Int) / (q : Int) * (q : Int)) := ⟨_, rfl⟩
        rw [← hsr] at q7 ⊢
        have HSR := hid hsr
        have HQ7 := hid q7
        have HB7 := hid hb7
        obtain ⟨z0, z1, fz0, fz1, hlg⟩ := two_cells q7
        obtain ⟨a0, a1, fa0, fa1, hla7⟩ := two_cells ((hb7.block w.heap.size hla).trans HW.out.1.row)
        obtain ⟨b0, b1, fb0, fb1, hlb7⟩ := two_cells ((hb7.block (w.heap.size + 1) hlb).trans HW.out.2.1.row)
        rw [← HSP.out] at a0
        rw [← HSQ.out] at b0
        have hga : g ≠ w.heap.size := by omega
        have hgb : g ≠ w.heap.size + 1 := by omega
        clear hb3 hb3' hb4 hb5 hb6 q7 hsr r0 r1 fr0 fr1
        refine wp_mixC (KeepB [g, w.heap.size + 1] W7) 3 [.q [0, 1], .f [2]] [.f [3]] (by kernel_rfl) (by kernel_rfl) ((KeepB.refl (by first | (simp; done) | (simp; omega))).drew) ?_
        intro Q' hQ'
        (rw [wpMixC]; simp only [pick, List.drop_succ_cons, List.drop_zero, List.head?_cons, Option.toList_some, List.cons_append, List.nil_append])
        (repeat (first | go_big_quiet_skip | (go_big_quiet_want; refine quiet_simple rfl ?_; go_big_quiet_op; go_big_quiet_on) | (go_big_quiet_want; refine quiet_agg2K (ty := 51) rfl rfl (by kernel_rfl) (by assumption) (by assumption) (by simp) ?_; simp only [Act.put, List.setIfInBounds_toArray, List.set_cons_succ, List.set_cons_zero]; go_big_quiet_on)))
        (try refine wpQuiet_nil ?_)
        (rw [wpMixC]; simp only [pick, List.drop_succ_cons, List.drop_zero, List.head?_cons, Option.toList_some, List.cons_append, List.nil_append])
        (rw [wpSteps]; go_wp2_with (fail); rw [contF]; refine ⟨?_, ?_⟩; (next => (repeat (with_reducible first | assumption | exact KeepB.refl (by first | (simp; done) | (simp; omega)) | refine KeepB.drew ?_ | refine KeepB.alloc ?_ _ | refine KeepB.setCell ?_ (by first | (simp; done) | (simp; omega)) | refine KeepB.below ?_ (by assumption)))))
        (rw [wpSteps])
        (rw [wpMixC])
        (rw [wpMix]; simp only [pick, List.drop_succ_cons, List.drop_zero, List.head?_cons, Option.toList_some, List.cons_append, List.nil_append])
        (go_wp2_with ((first | fail)); rw [contF])
        (rw [wpMix])
        (refine hQ' _ _ ?_)
        go_wp2_with fail
        go_roundg (p % q)
        case rel =>
          have hpq : (p : Int) - (p : Int) / (q : Int) * (q : Int) = ((p % q : Nat) : Int) := by rw [HST.out.1]; rfl
          have hmq : p % q ≤ p := Nat.mod_le _ _
          have ra := (HB7.out.block w.heap.size hla).trans HW.out.1.row
          have rb := (HB7.out.block (w.heap.size + 1) hlb).trans HW.out.2.1.row
          have rr := (HB7.out.block (w.heap.size + 1 + 1) hlr).trans HW.out.2.2
          have hrot := gcd_rot (N := fun b => b ≠ w.heap.size ∧ b ≠ w.heap.size + 1 ∧ b ≠ w.heap.size + 1 + 1 ∧ (b < w.heap.size → N b)) HSQ.out (HSR.out.trans (congrArg sg hpq)) ra rb rr (by omega) (by omega) (by omega) (by rw [← HSQ.out]; exact HQW.out _ HB7.out) (by have := HW7.out; rw [hpq] at this; exact this) (fun b h => ⟨h.1, h.2.1⟩)
          exact ⟨q, p % q, qo, qn, qc, ro6, rn6, rc6, Nat.le_refl _, hid ⟨by rw [← HG.out.1, Nat.gcd_comm p q, Nat.gcd_comm q (p % q)]; exact (Nat.gcd_rec q p).symm, HG.out.2.2, Nat.le_trans (dig_len_mono hmq) HG.out.2.1⟩, hid ⟨hrot.1.below ((Below.refl _ _).drew), hrot.2.1.below ((Below.refl _ _).drew), hrot.2.2⟩, by (repeat (with_reducible first | exact Below.refl _ _ | assumption | refine Below.drewN _ ?_ | refine Below.drew ?_ | refine Below_alloc ?_ _ | refine Below.alloc ?_ (by first | (simp; done) | (simp; omega) | omega) _ | refine Below.setCell ?_ (by first | (simp; done) | (simp; omega) | omega) _ | refine Below_call ?_ (by assumption) | refine Below.trans ?_ (by assumption)))⟩
        case measure => exact Nat.lt_of_lt_of_le (Nat.mod_lt _ HQ0.out) hqk
end Go.Proofs.Ytlmdmpjfehpjeaa

