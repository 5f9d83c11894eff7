/- Wide numbers multiplied. -/
import Derived.Test.YtlmdmpjfehpjeaaL16
import Derived.Test.YtlmdmpjfehpjeaaL14
import Derived.Test.YtlmdmpjfehpjeaaL2
set_option linter.unusedVariables false
set_option linter.unusedSimpArgs false
namespace Go.Proofs.Ytlmdmpjfehpjeaa
open Go.RowKit

theorem mul_rng {x y : Int} (hx : 0 ≤ x ∧ x < 1000000000) (hy : 0 ≤ y ∧ y < 1000000000) : 0 ≤ x * y ∧ x * y ≤ 999999998000000001 := by
  refine ⟨Int.mul_nonneg hx.1 hy.1, ?_⟩
  have := Int.mul_le_mul (show x ≤ 999999999 by omega) (show y ≤ 999999999 by omega) hy.1 (by omega)
  omega
theorem sg_mul (x y : Int) : sg (x * y) = sg x * sg y := by
  unfold sg
  rcases Int.lt_trichotomy x 0 with h | h | h
  · rcases Int.lt_trichotomy y 0 with g | g | g
    · have := Int.mul_pos_of_neg_of_neg h g
      rw [if_pos h, if_pos g, if_neg (by omega), if_neg (by omega)]; rfl
    · subst g; rw [Int.mul_zero]; simp
    · have := Int.mul_neg_of_neg_of_pos h g
      rw [if_pos h, if_pos this, if_neg (by omega), if_neg (by omega)]; rfl
  · subst h; rw [Int.zero_mul]; simp
  · rcases Int.lt_trichotomy y 0 with g | g | g
    · have := Int.mul_neg_of_pos_of_neg h g
      rw [if_pos this, if_neg (by omega), if_neg (by omega), if_pos g]; rfl
    · subst g; rw [Int.mul_zero]; simp
    · have := Int.mul_pos h g
      rw [if_neg (by omega), if_neg (by omega), if_neg (by omega), if_neg (by omega), if_neg (by omega), if_neg (by omega)]; rfl
/-- a step of the product of a digit with digits. -/
theorem mul_step {xs lb : List Int} {i k : Nat} {A x y o cc q r : Int} (hi : i + k < xs.length) (ho : o = nth xs (i + k)) (hy : y = nth lb k) (he : o + x * y + cc = r + 1000000000 * q)
    (h : dval xs + cc * dpw (i + k) = A + x * dval (lb.take k) * dpw i) : dval (xs.set (i + k) r) + q * dpw (i + (k + 1)) = A + x * dval (lb.take (k + 1)) * dpw i := by
  rw [dval_set _ _ _ hi, dval_take, ← ho, ← hy, ← Nat.add_assoc]
  have e1 : x * (dval (lb.take k) + y * dpw k) * dpw i = x * dval (lb.take k) * dpw i + x * y * dpw (i + k) := by
    rw [Int.mul_add, Int.add_mul, dpw_add, Int.mul_comm (dpw i) (dpw k)]
    simp only [Int.mul_assoc]
  have e2 : q * dpw (i + k + 1) = 1000000000 * q * dpw (i + k) := by simp only [dpw]; rw [← Int.mul_assoc, Int.mul_comm q]
  have e3 : (o + x * y + cc) * dpw (i + k) = (r + 1000000000 * q) * dpw (i + k) := by rw [he]
  rw [Int.add_mul, Int.add_mul, Int.add_mul] at e3
  rw [e1, e2, Int.sub_mul]
  omega
theorem mul_end {xs la : List Int} {i m : Nat} {B x cc : Int} (hi : i + m < xs.length) (hz : nth xs (i + m) = 0) (hx : x = nth la i)
    (h : dval xs + cc * dpw (i + m) = dval (la.take i) * B + x * B * dpw i) : dval (xs.set (i + m) cc) = dval (la.take (i + 1)) * B := by
  rw [dval_set _ _ _ hi, dval_take, hz, ← hx, Int.sub_zero, h, Int.add_mul]
  congr 1
  rw [Int.mul_assoc, Int.mul_comm B, Int.mul_assoc]

set_option maxRecDepth 100000 in
set_option maxHeartbeats 2000000 in
theorem base_WideMul (x y : Int) (u v : Value) (w : World) (N : Nat → Prop) (hN : ∀ b, w.heap.size ≤ b → N b) (hu : WideAt w u x N) (hv : WideAt w v y N) (hx : (dig x.natAbs).length ≤ 100000) (hy : (dig y.natAbs).length ≤ 100000) :
    Calls Try.prog 137 #[u, v] w (RetWide w (x * y) N) := by
  obtain ⟨i0, hi, hz0, hz1, hz2⟩ := info_parts infoInt
  obtain ⟨ao, cap, rfl, gu⟩ := hu
  obtain ⟨bo, cap2, rfl, gv⟩ := hv
  obtain ⟨ao', cap', ea, ha1, ha2, ha3⟩ := gu.ints.opn
  cases ea
  obtain ⟨bo', cap2', eb, hb1, hb2, hb3⟩ := gv.ints.opn
  cases eb
  have hrx := sg_range x
  have hry := sg_range y
  have HSG := hid (sg_mul x y)
  obtain ⟨sx, hsx⟩ : ∃ sx, sx = sg x := ⟨_, rfl⟩
  obtain ⟨sy, hsy⟩ : ∃ sy, sy = sg y := ⟨_, rfl⟩
  obtain ⟨la, hla⟩ : ∃ la, la = dig x.natAbs := ⟨_, rfl⟩
  obtain ⟨lb, hlb⟩ : ∃ lb, lb = dig y.natAbs := ⟨_, rfl⟩
  have HLA := hid hla
  have HLB := hid hlb
  have HDA : Hid (isD la) := hid (by rw [hla]; exact isD_dig _)
  have HDB : Hid (isD lb) := hid (by rw [hlb]; exact isD_dig _)
  rw [← hsx] at hrx HSG ⊢
  rw [← hsy] at hry HSG ⊢
  rw [← hla] at ha1 ha3 hx ⊢
  rw [← hlb] at hb1 hb3 hy ⊢
  have hss : -1 ≤ sx * sy ∧ sx * sy ≤ 1 := by rw [← HSG.out]; exact sg_range _
  have HNN := hid hN
  unfold maxLen at ha2 hb2
  clear gu gv hN hsx hsy hla hlb
  obtain ⟨W, hW⟩ : ∃ W, W = ((w.alloc (.cells #[.int .i64 sx, .slice ao la.length cap] 51)).alloc (.cells #[.int .i64 sy, .slice bo lb.length cap2] 51)).alloc (.cells #[.int .i64 0, .slice none 0 0] 51) := ⟨_, rfl⟩
  have hzW : W.heap.size = w.heap.size + 1 + 1 + 1 := by rw [hW]; simp
  have hBW : Below w.heap.size w W := by rw [hW]; (repeat (with_reducible first | exact Below.refl _ _ | assumption | refine Below.drewN _ ?_ | refine Below.drew ?_ | refine Below_alloc ?_ _ | refine Below.alloc ?_ (by first | (simp; done) | (simp; omega) | omega) _ | refine Below.setCell ?_ (by first | (simp; done) | (simp; omega) | omega) _ | refine Below_call ?_ (by assumption) | refine Below.trans ?_ (by assumption)))
  obtain ⟨q0, q1, q2⟩ := alloc3 w _ _ _ _ _ _ W hW
  have HWC := hid q2
  obtain ⟨a0, a1, fa0, fa1, hl0⟩ := two_cells q0
  obtain ⟨b0, b1, fb0, fb1, hl1⟩ := two_cells q1
  have HA0 := hid (And.intro a0 (And.intro a1 (And.intro b0 b1)))
  clear q0 q1 q2 fa0 fa1 fb0 fb1 a0 a1 b0 b1
  have HA3 := hid ha3
  have HB3 := hid hb3
  clear ha3 hb3
  go_enter Try.func137, Try.ntmps137
  go_wp2_with (at_make; rw [← hW]; refine wpList_make_full W rfl _ _ _ rfl W.heap.size 3 i0 _ 1 Try.underlying49 hi hz0 hz1 _ _ _ _ (la.length + lb.length + 1) rfl rfl (by omega) (by omega) (by rw [hz2]; omega) (by unfold maxLen; omega) (Nat.le_refl _) ?_; intro w1 hmade hgrow)
  have hmade' : w1.ownsRow W.heap.size 3 1 (.slice (some ⟨W.heap.size, 0, none⟩) (la.length + lb.length + 1) (la.length + lb.length + 1)) (la.length + lb.length + 1) ((List.replicate (la.length + lb.length + 1) (0 : Int)).map (Value.int .i64)) := by
    rw [List.map_replicate]
    have e := toList_madeCells_one (.int .i64 0) (la.length + lb.length + 1)
    simpa [Value.cells, e] using hmade
  have hb0 : Below W.heap.size W w1 := (Below.refl _ _).grown hgrow (Nat.le_refl _) (fun k hk => by cases hk)
  clear hmade hgrow hW
  rw [hzW] at hmade'
  obtain ⟨n, hn⟩ : ∃ n, n = la.length + lb.length + 1 := ⟨_, rfl⟩
  rw [← hn] at hmade' ⊢
  have hrep : isD (List.replicate n (0 : Int)) ∧ dval (List.replicate n (0 : Int)) = 0 ∧ ∀ j, nth (List.replicate n (0 : Int)) j = 0 := by
    have h0 : ∀ j, nth (List.replicate n (0 : Int)) j = 0 := fun j => by simp only [nth, List.getD_eq_getElem?_getD, List.getElem?_replicate]; split <;> rfl
    exact ⟨fun d hd => by rw [List.eq_of_mem_replicate hd]; omega, dval_zero h0, h0⟩
  have HREP := hid hrep
  have HMADE := hid hmade'
  clear hrep hmade'
  go_loopw [6] (fun ii wr => ∃ (i : Nat) (xs : List Int), i ≤ la.length ∧ ii = .int .i64 i ∧ xs.length = n ∧ Hid (isD xs ∧ dval xs = dval (la.take i) * dval lb ∧ ∀ j, i + lb.length ≤ j → nth xs j = 0) ∧ wr.ownsRow (w.heap.size + 1 + 1 + 1) 3 1 (.slice (some ⟨w.heap.size + 1 + 1 + 1, 0, none⟩) n n) n (xs.map (Value.int .i64)) ∧ Below W.heap.size W wr) (fun ii _ => la.length - (intOf ii).toNat)
  case atStart => exact ⟨0, List.replicate n 0, by omega, rfl, by simp, hid ⟨HREP.out.1, by rw [HREP.out.2.1]; simp [dval], fun j _ => HREP.out.2.2 j⟩, HMADE.out, hb0⟩
  case round =>
    obtain ⟨i, xs, hil, rfl, hxl, HX, hown, hbel⟩ := hrel
    have hzw := hbel.size
    have hbx : Below w.heap.size w wr := by (repeat (with_reducible first | exact Below.refl _ _ | assumption | refine Below.drewN _ ?_ | refine Below.drew ?_ | refine Below_alloc ?_ _ | refine Below.alloc ?_ (by first | (simp; done) | (simp; omega) | omega) _ | refine Below.setCell ?_ (by first | (simp; done) | (simp; omega) | omega) _ | refine Below_call ?_ (by assumption) | refine Below.trans ?_ (by assumption)))
    obtain ⟨a0, a1, b0, b1⟩ := HA0.out
    obtain ⟨hcc, _⟩ := bcell hbel
    rw [← hcc w.heap.size _ (by omega)] at a0 a1
    rw [← hcc (w.heap.size + 1) _ (by omega)] at b0 b1
    clear hcc
    by_cases hlt : i < la.length
    · obtain ⟨d, hdd⟩ : ∃ d, d = nth la i := ⟨_, rfl⟩
      have hdb := isD_nth HDA.out i
      rw [← hdd] at hdb
      have HD := hid hdd
      have hlw0 : w.heap.size < wr.heap.size := by omega
      have hlw1 : w.heap.size + 1 < wr.heap.size := by omega
      have HOWN := hid hown
      have HBEL := hid hbel
      clear hown hbel hdd
      go_wp2_with fail
      clear a0 a1 b0 b1 hlw0 hlw1
      go_loopw [7, 8] (fun c kk w2 => ∃ (k : Nat) (cc : Int) (ys : List Int), k ≤ lb.length ∧ kk = .int .i64 k ∧ c = .int .i64 cc ∧ 0 ≤ cc ∧ cc < 1000000000 ∧ ys.length = n ∧ Hid (isD ys ∧ dval ys + cc * dpw (i + k) = dval (la.take i) * dval lb + d * dval (lb.take k) * dpw i ∧ ∀ j, i + lb.length ≤ j → nth ys j = 0) ∧ w2.ownsRow (w.heap.size + 1 + 1 + 1) 3 1 (.slice (some ⟨w.heap.size + 1 + 1 + 1, 0, none⟩) n n) n (ys.map (Value.int .i64)) ∧ Below W.heap.size W w2) (fun _ kk _ => lb.length - (intOf kk).toNat)
      case atStart => exact ⟨0, 0, xs, by omega, rfl, rfl, by omega, by omega, hxl, hid ⟨HX.out.1, by rw [HX.out.2.1]; simp [dval], HX.out.2.2⟩, HOWN.out, HBEL.out⟩
      case round =>
        obtain ⟨k, cc, ys, hkl, rfl, rfl, hc0, hc1, hyl, HY, hown, hbel⟩ := hrel
        have hz2 := hbel.size
        obtain ⟨a0, a1, b0, b1⟩ := HA0.out
        obtain ⟨hcc, _⟩ := bcell hbel
        rw [← hcc w.heap.size _ (by omega)] at a0 a1
        rw [← hcc (w.heap.size + 1) _ (by omega)] at b0 b1
        have hbx2 : Below w.heap.size w wr := by (repeat (with_reducible first | exact Below.refl _ _ | assumption | refine Below.drewN _ ?_ | refine Below.drew ?_ | refine Below_alloc ?_ _ | refine Below.alloc ?_ (by first | (simp; done) | (simp; omega) | omega) _ | refine Below.setCell ?_ (by first | (simp; done) | (simp; omega) | omega) _ | refine Below_call ?_ (by assumption) | refine Below.trans ?_ (by assumption)))
        have hlw0 : w.heap.size < wr.heap.size := by omega
        have hlw1 : w.heap.size + 1 < wr.heap.size := by omega
        clear hcc
        obtain ⟨m, hm⟩ : ∃ m : Nat, m = i + k := ⟨_, rfl⟩
        have hmi : (i : Int) + (k : Int) = (m : Int) := by omega
        by_cases hk : k < lb.length
        · obtain ⟨e, hee⟩ : ∃ e, e = nth lb k := ⟨_, rfl⟩
          have heb := isD_nth HDB.out k
          rw [← hee] at heb
          obtain ⟨o, hoo⟩ : ∃ o, o = nth ys m := ⟨_, rfl⟩
          have hob := isD_nth HY.out.1 m
          rw [← hoo] at hob
          have hde := mul_rng hdb heb
          have hmn : m < n := by omega
          obtain ⟨b1', off1, rfl, hbb1, hcl1⟩ := HA3.out i hlt
          obtain ⟨b2', off2, rfl, hbb2, hcl2⟩ := HB3.out k hk
          have z1 := (hbx2.cell (p := ⟨b1', off1 + i, none⟩) hbb1).trans (hcl1 i hlt)
          have z2 := (hbx2.cell (p := ⟨b2', off2 + k, none⟩) hbb2).trans (hcl2 k hk)
          have z0 := (hown.cellAt m (by omega)).trans (map_nth (by omega))
          have p0 := hown.frozenAt m
          rw [← HD.out] at z1
          rw [← hee] at z2
          rw [← hoo] at z0
          have hgl : w.heap.size + 1 + 1 + 1 < wr.heap.size := by
            rcases hown.2 with ⟨h, _⟩ | ⟨g, cap, cur, h, _, hg, _⟩
            · cases h
            · cases h; exact (Array.getElem?_eq_some_iff.1 hg).1
          have hbl1 : b1' < wr.heap.size := by omega
          have hbl2 : b2' < wr.heap.size := by omega
          obtain ⟨P, hP⟩ : ∃ P, P = d * e := ⟨_, rfl⟩
          rw [← hP] at hde
          obtain ⟨q, hq⟩ : ∃ q, q = (o + P + cc) / 1000000000 := ⟨_, rfl⟩
          obtain ⟨r, hr⟩ : ∃ r, r = (o + P + cc) % 1000000000 := ⟨_, rfl⟩
          have hqr : o + P + cc = r + 1000000000 * q ∧ 0 ≤ r ∧ r < 1000000000 ∧ 0 ≤ q ∧ q < 1000000000 := by omega
          have hdiv : (o + P + cc).tdiv 1000000000 = q := by rw [Int.tdiv_eq_ediv_of_nonneg (by omega), hq]
          have hmod : (o + P + cc).tmod 1000000000 = r := by rw [Int.tmod_eq_emod_of_nonneg (by omega), hr]
          have hPm : d * e = P := hP.symm
          have HSTEP : Hid (dval (ys.set m r) + q * dpw (i + (k + 1)) = dval (la.take i) * dval lb + d * dval (lb.take (k + 1)) * dpw i) := hid (by
            rw [hm]
            exact mul_step (o := o) (y := e) (cc := cc) (by omega) (by rw [hoo, hm]) hee (by rw [hPm]; exact hqr.1) HY.out.2.1)
          have hqr2 := hqr.2
          have HM := hid hm
          have HOW2 := hid hown
          clear hq hr hqr hoo hee hP hcl1 hcl2 hm hown
          go_wp2_with fail
          refine wp_mixC (fun wc => Below (wr.heap.size) wr wc) 20 [.q [0, 1, 2, 3, 4, 5, 6, 7, 8, 9, 10, 11, 12, 13, 14, 15, 16, 17, 18, 19]] [.q [20]] (by kernel_rfl) (by kernel_rfl) ((Below.refl _ _).drew) ?_
          intro Q' hQ'
          (rw [wpMixC]; simp only [pick, List.drop_succ_cons, List.drop_zero, List.head?_cons, Option.toList_some, List.cons_append, List.nil_append])
          (repeat (first | go_big_quiet_skip | (go_big_quiet_want; refine quiet_simple rfl ?_; go_big_quiet_op; go_big_quiet_on) | (go_big_quiet_want; refine quiet_cellB (ty := 3) rfl rfl (by kernel_rfl) (by assumption) (by first | omega | (simp; omega)) ?_; simp only [Act.put, List.setIfInBounds_toArray, List.set_cons_succ, List.set_cons_zero]; go_big_quiet_on) | (go_big_quiet_want; refine quiet_cellB (ty := 49) rfl rfl (by kernel_rfl) (by assumption) (by first | omega | (simp; omega)) ?_; simp only [Act.put, List.setIfInBounds_toArray, List.set_cons_succ, List.set_cons_zero]; go_big_quiet_on)))
          (try refine wpQuiet_nil ?_)
          (rw [wpMixC])
          (rw [wpMix]; simp only [pick, List.drop_succ_cons, List.drop_zero, List.head?_cons, Option.toList_some, List.cons_append, List.nil_append])
          (repeat (first | (go_big_quiet_step (fail)) | (quiet_step (fail))))
          (try refine wpQuiet_nil ?_)
          (rw [wpMix])
          (refine hQ' _ _ ?_)
          go_wp2_with fail
          go_roundw
          case rel =>
            refine ⟨k + 1, q, ys.set m r, by omega, by go_num, rfl, by omega, by omega, by simp [hyl], hid ⟨isD_set HY.out.1 _ ⟨hqr2.1, hqr2.2.1⟩, HSTEP.out, fun j hj => ?_⟩, ?_, by (repeat (with_reducible first | exact Below.refl _ _ | assumption | refine Below.drewN _ ?_ | refine Below.drew ?_ | refine Below_alloc ?_ _ | refine Below.alloc ?_ (by first | (simp; done) | (simp; omega) | omega) _ | refine Below.setCell ?_ (by first | (simp; done) | (simp; omega) | omega) _ | refine Below_call ?_ (by assumption) | refine Below.trans ?_ (by assumption)))⟩
            · rw [dnth_set _ _ _ _ (by omega), if_neg (by have := HM.out; omega)]; exact HY.out.2.2 j hj
            · rw [List.map_set]; exact (HOW2.out.stored m _).1
          case measure => simp [intOf]; omega
        · have hke : k = lb.length := by omega
          subst hke
          have z0 := (hown.cellAt m (by omega)).trans (map_nth (by omega))
          rw [HY.out.2.2 m (by omega)] at z0
          have p0 := hown.frozenAt m
          have hmn : m < n := by omega
          have hgl : w.heap.size + 1 + 1 + 1 < wr.heap.size := by
            rcases hown.2 with ⟨h, _⟩ | ⟨g, cap, cur, h, _, hg, _⟩
            · cases h
            · cases h; exact (Array.getElem?_eq_some_iff.1 hg).1
          have HSTEP : Hid (dval (ys.set m cc) = dval (la.take (i + 1)) * dval lb) := hid (by
            have h1 := HY.out.2.1
            rw [List.take_of_length_le (Nat.le_refl _)] at h1
            rw [hm]
            exact mul_end (by omega) (HY.out.2.2 _ (by omega)) HD.out h1)
          have HM := hid hm
          have HOW2 := hid hown
          clear hm hown
          go_wp2_with fail
          refine wp_mixC (fun wc => Below (wr.heap.size) wr wc) 16 [.q [0, 1, 2, 3, 4, 5, 6, 7, 8, 9, 10, 11, 12, 13, 14, 15]] [.q [16], .f [17]] (by kernel_rfl) (by kernel_rfl) ((Below.refl _ _).drew) ?_
          intro Q' hQ'
          (rw [wpMixC]; simp only [pick, List.drop_succ_cons, List.drop_zero, List.head?_cons, Option.toList_some, List.cons_append, List.nil_append])
          (repeat (first | go_big_quiet_skip | (go_big_quiet_want; refine quiet_simple rfl ?_; go_big_quiet_op; go_big_quiet_on) | (go_big_quiet_want; refine quiet_cellB (ty := 3) rfl rfl (by kernel_rfl) (by assumption) (by first | omega | (simp; omega)) ?_; simp only [Act.put, List.setIfInBounds_toArray, List.set_cons_succ, List.set_cons_zero]; go_big_quiet_on) | (go_big_quiet_want; refine quiet_cellB (ty := 49) rfl rfl (by kernel_rfl) (by assumption) (by first | omega | (simp; omega)) ?_; simp only [Act.put, List.setIfInBounds_toArray, List.set_cons_succ, List.set_cons_zero]; go_big_quiet_on) | (go_big_quiet_want; refine quiet_len (t1 := 49) rfl rfl Try.underlying49 ?_; simp only [Act.put, List.setIfInBounds_toArray, List.set_cons_succ, List.set_cons_zero]; go_big_quiet_on)))
          (try refine wpQuiet_nil ?_)
          (rw [wpMixC])
          (rw [wpMix]; simp only [pick, List.drop_succ_cons, List.drop_zero, List.head?_cons, Option.toList_some, List.cons_append, List.nil_append])
          (repeat (first | (go_big_quiet_step (fail)) | (quiet_step (fail))))
          (try refine wpQuiet_nil ?_)
          (rw [wpMix]; simp only [pick, List.drop_succ_cons, List.drop_zero, List.head?_cons, Option.toList_some, List.cons_append, List.nil_append])
          (go_wp2_with (fail); rw [contF])
          (rw [wpMix])
          (refine hQ' _ _ ?_)
          go_wp2_with fail
          go_roundw
          case rel =>
            refine ⟨i + 1, ys.set m cc, by omega, by go_num, by simp [hyl], hid ⟨isD_set HY.out.1 _ ⟨hc0, hc1⟩, HSTEP.out, fun j hj => ?_⟩, ?_, by (repeat (with_reducible first | exact Below.refl _ _ | assumption | refine Below.drewN _ ?_ | refine Below.drew ?_ | refine Below_alloc ?_ _ | refine Below.alloc ?_ (by first | (simp; done) | (simp; omega) | omega) _ | refine Below.setCell ?_ (by first | (simp; done) | (simp; omega) | omega) _ | refine Below_call ?_ (by assumption) | refine Below.trans ?_ (by assumption)))⟩
            · rw [dnth_set _ _ _ _ (by omega), if_neg (by have := HM.out; omega)]; exact HY.out.2.2 j (by omega)
            · rw [List.map_set]; exact (HOW2.out.stored m _).1
          case measure => simp [intOf]; omega
    · subst hxl
      obtain ⟨T, hT⟩ : ∃ T, T = sx * sy := ⟨_, rfl⟩
      have hTm : sx * sy = T := hT.symm
      rw [hTm] at hss HSG
      have HE : Hid (dval xs = ((x * y).natAbs : Nat)) := hid (by
        rw [HX.out.2.1, List.take_of_length_le (by omega), HLA.out, HLB.out, dval_dig, dval_dig, Int.natAbs_mul]; push_cast; rfl)
      have hlw0 : w.heap.size < wr.heap.size := by omega
      have hlw1 : w.heap.size + 1 < wr.heap.size := by omega
      have HO := hid (ownsRow_dig (l := xs) hown)
      have HWO : Hid (∀ W', Below wr.heap.size wr W' → Calls Try.prog 140 #[.int .i64 T, .slice (some ⟨w.heap.size + 1 + 1 + 1, 0, none⟩) xs.length xs.length] W' fun e w' => e = .returned (.agg #[.int .i64 (sg0 (dval xs) T), .slice (some ⟨w.heap.size + 1 + 1 + 1, 0, none⟩) (tri xs).length xs.length]) ∧ Below W'.heap.size W' w') := hid (fun W' hW => base_wideOf T xs (some ⟨w.heap.size + 1 + 1 + 1, 0, none⟩) xs.length W' (HO.out.ints.below hW) HX.out.1)
      have HZZ := hid (show wr.heap[w.heap.size + 1 + 1]? = _ from (hbel.block (w.heap.size + 1 + 1) (by omega)).trans HWC.out)
      obtain ⟨S, hS⟩ : ∃ S, S = sg0 (dval xs) T := ⟨_, rfl⟩
      obtain ⟨L, hL⟩ : ∃ L, L = (tri xs).length := ⟨_, rfl⟩
      rw [← hS, ← hL] at HWO
      have HSL := hid (And.intro hS hL)
      have HOW2 := hid hown
      have hwr : IntKind.i64.wrap T = T := IntWalk.i64_in _ (by omega)
      clear hown hS hL hT hn
      go_wp2_with (go_at_call 140; refine (HWO.out _ (by (repeat (with_reducible first | exact Below.refl _ _ | assumption | refine Below.drewN _ ?_ | refine Below.drew ?_ | refine Below_alloc ?_ _ | refine Below.alloc ?_ (by first | (simp; done) | (simp; omega) | omega) _ | refine Below.setCell ?_ (by first | (simp; done) | (simp; omega) | omega) _ | refine Below_call ?_ (by assumption) | refine Below.trans ?_ (by assumption))))).mono ?_; rintro _ w3 ⟨rfl, hbb⟩; have HBB := hid hbb; obtain ⟨e0, e1, p0, p1, hlt1⟩ := two_cells ((hbb.block (w.heap.size + 1 + 1) (by omega)).trans HZZ.out))
      ((try simp only [Exit.inBlock, Exit.then]); refine bodyPost_ret (v := .agg #[.int .i64 S, .slice (some ⟨w.heap.size + 1 + 1 + 1, 0, none⟩) L xs.length]) ?_ rfl ?_; (next => simp [results, Try.results137, go_sem, hlt1, e0, e1]))
      rw [HSL.out.1, HSL.out.2]
      exact ⟨_, rfl, wide_fin HX.out.1 HE.out (fun _ => HSG.out.symm) HO.out HBB.out (fun b h => ⟨by omega, HNN.out b (by omega)⟩) _ _, by (repeat (with_reducible first | exact Below.refl _ _ | assumption | refine Below.drewN _ ?_ | refine Below.drew ?_ | refine Below_alloc ?_ _ | refine Below.alloc ?_ (by first | (simp; done) | (simp; omega) | omega) _ | refine Below.setCell ?_ (by first | (simp; done) | (simp; omega) | omega) _ | refine Below_call ?_ (by assumption) | refine Below.trans ?_ (by assumption)))⟩

end Go.Proofs.Ytlmdmpjfehpjeaa

/- The quotient of wide numbers, digit by digit: plain law. -/
set_option linter.unusedVariables false
set_option linter.unusedSimpArgs false
namespace Go.Proofs.Ytlmdmpjfehpjeaa

theorem dval_drop {l : List Int} {i : Nat} (h : i < l.length) : dval (l.drop i) = nth l i + 1000000000 * dval (l.drop (i + 1)) := by
  rw [← List.getElem_cons_drop h, dval, dnth_lt h]
theorem dval_drop_set {l : List Int} {i : Nat} {d : Int} (h : i < l.length) : dval ((l.set i d).drop i) = d + 1000000000 * dval (l.drop (i + 1)) := by
  rw [dval_drop (by simpa using h), dnth_set _ _ _ _ h, if_pos rfl, List.drop_set_of_lt (by omega)]
/-- one digit of the quotient: what is left, with the next digit, below the base times b. -/
theorem floor_step {b L d D Q : Int} (hb : 0 < b) (hL : 0 ≤ L ∧ L < b) (hd : 0 ≤ d ∧ d < 1000000000) (h : Q * b + L = D) {lo : Int} (hlo : lo * b ≤ d + 1000000000 * L) (hhi : d + 1000000000 * L < (lo + 1) * b) :
    (lo + 1000000000 * Q) * b + (d + 1000000000 * L - lo * b) = d + 1000000000 * D ∧ 0 ≤ d + 1000000000 * L - lo * b ∧ d + 1000000000 * L - lo * b < b := by
  rw [Int.add_mul, Int.one_mul] at hhi
  refine ⟨?_, by omega, by omega⟩
  rw [Int.add_mul, Int.mul_assoc, ← h]
  omega
/-- the greatest digit is too great or fits: the search's first bounds. -/
theorem floor_top {b L d : Int} (hL : 0 ≤ L ∧ L < b) (hd : 0 ≤ d ∧ d < 1000000000) : d + 1000000000 * L < (999999999 + 1) * b := by omega
/-- quotient and rest: the floor. -/
theorem floor_pos {a b q r : Int} (hb : 0 < b) (h : q * b + r = a) (hr : 0 ≤ r ∧ r < b) : a / b = q := by
  have h1 : a = r + q * b := by omega
  rw [h1, Int.add_mul_ediv_right _ _ (by omega), Int.ediv_eq_zero_of_lt hr.1 hr.2, Int.zero_add]
theorem floor_neg {a b q r : Int} (hb : 0 < b) (h : q * b + r = a) (hr : 0 ≤ r ∧ r < b) : (-a) / b = if r = 0 then -q else -q - 1 := by
  split
  · next h0 => exact floor_pos (r := 0) hb (by rw [Int.neg_mul]; omega) ⟨by omega, hb⟩
  · next h0 => exact floor_pos (r := b - r) hb (by rw [Int.sub_mul, Int.neg_mul, Int.one_mul]; omega) (by omega)
end Go.Proofs.Ytlmdmpjfehpjeaa

/- The quotient of wide numbers: the product that the search compares. -/
set_option linter.unusedVariables false
set_option linter.unusedSimpArgs false
namespace Go.Proofs.Ytlmdmpjfehpjeaa
open Go.RowKit

/-- a number made of given digits and the sign 1 is the number above 0. -/
theorem wideOf_one {w : World} {b : Nat} (hb : 0 < b) {bo : Option Addr} {cap : Nat} {N : Nat → Prop} (h : DigIn w (.slice bo (dig b).length cap) (dig b) N) : WideAt w (.agg #[.int .i64 (sg0 (dval (dig b)) 1), .slice bo (tri (dig b)).length cap]) (b : Int) N := by
  obtain ⟨e1, e2⟩ := wide_of (xs := dig b) (z := (b : Int)) (s := 1) (by rw [dval_dig]; rfl) (fun _ => by unfold sg; rw [if_neg (by omega), if_neg (by omega)])
  rw [e1, e2]
  exact ⟨bo, cap, rfl, h⟩
theorem dig_small {n : Nat} (h : n < 1000000000) : (dig n).length ≤ 1 := dlen (by simp [dpw]; omega)
theorem cmpN_le {a b : Nat} : cmpN a b ≤ 0 ↔ a ≤ b := by unfold cmpN; split; omega; split <;> omega
/-- gcd by quotients. -/
theorem gcd_step {a b : Int} (ha : 0 ≤ a) (hb : 0 < b) : a - a / b * b = a % b ∧ 0 ≤ a % b ∧ a % b < b ∧ Int.gcd b (a % b) = Int.gcd a b := by
  refine ⟨?_, Int.emod_nonneg _ (by omega), Int.emod_lt_of_pos _ hb, ?_⟩
  · have h1 := Int.mul_ediv_add_emod a b
    have h2 := Int.mul_comm b (a / b)
    omega
  · obtain ⟨m, rfl⟩ := Int.eq_ofNat_of_zero_le ha
    obtain ⟨n, rfl⟩ := Int.eq_ofNat_of_zero_le (Int.le_of_lt hb)
    rw [← Int.natCast_emod]
    simp only [Int.gcd, Int.natAbs_natCast]
    rw [Nat.gcd_comm m n, Nat.gcd_comm n (m % n)]
    exact (Nat.gcd_rec n m).symm
end Go.Proofs.Ytlmdmpjfehpjeaa

/- Ratios of wide numbers: plain law. -/
set_option linter.unusedVariables false
set_option linter.unusedSimpArgs false
namespace Go.Proofs.Ytlmdmpjfehpjeaa
open Go.RowKit

theorem dlm (x y : Int) : (dig (x * y).natAbs).length ≤ (dig x.natAbs).length + (dig y.natAbs).length := by
  apply dlen
  rw [Int.natAbs_mul, dpw_add]
  have h1 := dig_high x.natAbs
  have h2 := dig_high y.natAbs
  push_cast
  have h3 := dpw_pos (dig x.natAbs).length
  exact Int.lt_of_le_of_lt (Int.mul_le_mul_of_nonneg_left (Int.le_of_lt h2) (by omega)) (Int.mul_lt_mul_of_pos_right h1 (dpw_pos _))
theorem dla (x y : Int) {k : Nat} (hx : (dig x.natAbs).length ≤ k) (hy : (dig y.natAbs).length ≤ k) : (dig (x + y).natAbs).length ≤ k + 1 := by
  apply dlen
  have h1 := dig_high x.natAbs
  have h2 := dig_high y.natAbs
  have h3 := dpw_mono hx
  have h4 := dpw_mono hy
  simp only [dpw]; omega
theorem dln (x : Int) : (dig (-x).natAbs).length = (dig x.natAbs).length := by rw [Int.natAbs_neg]
theorem dld {x y : Int} (h : x.natAbs ≤ y.natAbs) : (dig x.natAbs).length ≤ (dig y.natAbs).length := dig_len_mono h
theorem dl_small {x : Int} (h : x.natAbs < 1000000000000000000000000000) : (dig x.natAbs).length ≤ 3 := dlen (by simp only [dpw]; omega)

/-- a value is a ratio of two wide numbers. -/
def RatAt (w : World) (v : Value) (n d : Int) (N : Nat → Prop) : Prop := ∃ a b c e, v = .agg #[a, b, c, e] ∧ WideAt w (.agg #[a, b]) n N ∧ WideAt w (.agg #[c, e]) d N
theorem RatAt.mono {w w' : World} {v : Value} {n d : Int} {N N' : Nat → Prop} (h : RatAt w v n d N) (hb : Below w.heap.size w w') (hk : ∀ b, b < w.heap.size → N b → N' b) : RatAt w' v n d N' := by
  obtain ⟨a, b, c, e, rfl, h1, h2⟩ := h
  exact ⟨a, b, c, e, rfl, h1.mono hb hk, h2.mono hb hk⟩
def RetRat (w : World) (n d : Int) (N : Nat → Prop) (e : Ending) (w' : World) : Prop := ∃ v, e = .returned v ∧ RatAt w' v n d N ∧ Below w.heap.size w w'
theorem RatAt.shape {w : World} {v : Value} {n d : Int} {N : Nat → Prop} (h : RatAt w v n d N) : ∃ ao k cap bo m cap2, v = .agg #[.int .i64 (sg n), .slice ao k cap, .int .i64 (sg d), .slice bo m cap2] ∧ WideAt w (.agg #[.int .i64 (sg n), .slice ao k cap]) n N ∧ WideAt w (.agg #[.int .i64 (sg d), .slice bo m cap2]) d N := by
  obtain ⟨a, b, c, e, rfl, ⟨ao, cap, h1, h2⟩, ⟨bo, cap2, h3, h4⟩⟩ := h
  cases h1; cases h3
  exact ⟨ao, _, cap, bo, _, cap2, rfl, ⟨ao, cap, rfl, h2⟩, ⟨bo, cap2, rfl, h4⟩⟩

/-- a quotient in lowest terms. -/
def rN (n d : Int) : Int := n / (Int.gcd n d : Int)
def rD (n d : Int) : Int := d / (Int.gcd n d : Int)
theorem r_spec {n d : Int} (hd : 0 < d) : 0 < (Int.gcd n d : Int) ∧ (Int.gcd n d : Int) * rN n d = n ∧ (Int.gcd n d : Int) * rD n d = d ∧ 0 < rD n d ∧ (rN n d).natAbs ≤ n.natAbs ∧ (rD n d).natAbs ≤ d.natAbs := by
  have hg : 0 < Int.gcd n d := Nat.pos_of_ne_zero (fun h => by rw [Int.gcd_eq_zero_iff] at h; omega)
  have h1 : (Int.gcd n d : Int) * rN n d = n := Int.mul_ediv_cancel' (Int.gcd_dvd_left ..)
  have h2 : (Int.gcd n d : Int) * rD n d = d := Int.mul_ediv_cancel' (Int.gcd_dvd_right ..)
  have h3 : ∀ x y : Int, (Int.gcd n d : Int) * x = y → x.natAbs ≤ y.natAbs := by
    intro x y e
    rw [← e, Int.natAbs_mul]
    exact Nat.le_mul_of_pos_left _ (by omega)
  refine ⟨by omega, h1, h2, ?_, h3 _ _ h1, h3 _ _ h2⟩
  rcases Int.lt_trichotomy 0 (rD n d) with h | h | h
  · exact h
  · rw [← h] at h2; omega
  · have := Int.mul_neg_of_pos_of_neg (show 0 < (Int.gcd n d : Int) by omega) h; omega
theorem cancel_mul {g a b : Int} (h : g ≠ 0) (e : g * a = g * b) : a = b := Int.eq_of_mul_eq_mul_left h e
end Go.Proofs.Ytlmdmpjfehpjeaa

/- Tracks: plain law of the nearest distance. -/
set_option linter.unusedVariables false
set_option linter.unusedSimpArgs false
namespace Go.Proofs.Ytlmdmpjfehpjeaa

theorem r_mul {k x y : Int} (hk : 0 < k) : rN (k * x) (k * y) = rN x y ∧ rD (k * x) (k * y) = rD x y := by
  have e : (Int.gcd (k * x) (k * y) : Int) = k * (Int.gcd x y : Int) := by
    rw [Int.gcd_mul_left]; push_cast; congr 1; omega
  unfold rN rD
  rw [e, Int.mul_ediv_mul_of_pos _ _ hk, Int.mul_ediv_mul_of_pos _ _ hk]
  exact ⟨rfl, rfl⟩
/-- the nearest distance, as the reference reckons it. -/
theorem near_eq {dd al S : Int} (hS : 0 < S) : rN (dd * rD (al * al) S + -rN (al * al) S * 1) (1 * rD (al * al) S) = rN (dd * S - al * al) S ∧ rD (dd * rD (al * al) S + -rN (al * al) S * 1) (1 * rD (al * al) S) = rD (dd * S - al * al) S := by
  have hg : 0 < (Int.gcd (al * al) S : Int) := by
    have : 0 < Int.gcd (al * al) S := Nat.pos_of_ne_zero (fun h => by rw [Int.gcd_eq_zero_iff] at h; omega)
    omega
  have h1 : (Int.gcd (al * al) S : Int) * rN (al * al) S = al * al := Int.mul_ediv_cancel' (Int.gcd_dvd_left ..)
  have h2 : (Int.gcd (al * al) S : Int) * rD (al * al) S = S := Int.mul_ediv_cancel' (Int.gcd_dvd_right ..)
  generalize rN (al * al) S = A at *
  generalize rD (al * al) S = B at *
  generalize (Int.gcd (al * al) S : Int) = G at *
  have h := r_mul (k := G) (x := dd * B + -A * 1) (y := 1 * B) hg
  have e1 : G * (dd * B + -A * 1) = dd * S - al * al := by rw [← h1, ← h2]; grind
  have e2 : G * (1 * B) = S := by rw [← h2]; grind
  rw [e1, e2] at h
  exact ⟨h.1.symm, h.2.symm⟩
end Go.Proofs.Ytlmdmpjfehpjeaa

/- Tracks: boxes without a common step, and how many steps they have. -/
set_option linter.unusedVariables false
set_option linter.unusedSimpArgs false
namespace Go.Proofs.Ytlmdmpjfehpjeaa

theorem nodup_len {α : Type} [DecidableEq α] : ∀ (l m : List α), l.Nodup → (∀ x ∈ l, x ∈ m) → l.length ≤ m.length := by
  intro l
  induction l with
  | nil => intro m _ _; exact Nat.zero_le _
  | cons x l ih =>
    intro m hn hs
    obtain ⟨h1, h2⟩ := List.nodup_cons.1 hn
    have hx : x ∈ m := hs x (by simp)
    have h3 := ih (m.erase x) h2 (fun y hy => by
      have hy2 := hs y (by simp [hy])
      have hne : y ≠ x := fun e => h1 (e ▸ hy)
      exact (List.mem_erase_of_ne hne).2 hy2)
    rw [List.length_erase_of_mem hx] at h3
    have : 0 < m.length := List.length_pos_of_mem hx
    rw [List.length_cons]; omega
instance : DecidableEq V3 := fun a b => decidable_of_iff (a.x = b.x ∧ a.y = b.y ∧ a.z = b.z) (by
  obtain ⟨a1, a2, a3⟩ := a; obtain ⟨b1, b2, b3⟩ := b; simp [V3.mk.injEq])
theorem all_nodup (b : TBox) : b.all.Nodup := (all_sorted b).imp (fun h e => by subst e; exact lexB_irr _ h)
theorem apart_has {a b : TBox} (h : a.apart b) (s : V3) : ¬ (a.has s ∧ b.has s) := by
  unfold TBox.apart TBox.has TBox.rx TBox.ry TBox.rz Rg.has at *; simp only at *; omega
/-- boxes without a common step have at most as many steps as the box that they are in. -/
theorem sum_le {b : TBox} (L : List TBox) (o : b.ok) (h : ∀ c ∈ L, c.ok ∧ c.sub b) (hp : L.Pairwise TBox.apart) : sumC L ≤ b.count := by
  have hlen : ∀ M : List TBox, (∀ c ∈ M, c.ok) → ((M.flatMap TBox.all).length : Int) = sumC M := by
    intro M
    induction M with
    | nil => intro _; simp [sumC]
    | cons c M ih => intro hM; rw [List.flatMap_cons, List.length_append, sumC_cons, ← len_all (hM c (by simp)), ← ih (fun d hd => hM d (by simp [hd]))]; push_cast; rfl
  have hnd : ∀ M : List TBox, M.Pairwise TBox.apart → (M.flatMap TBox.all).Nodup := by
    intro M
    induction M with
    | nil => intro _; simp
    | cons c M ih =>
      intro hM
      obtain ⟨h1, h2⟩ := List.pairwise_cons.1 hM
      rw [List.flatMap_cons]
      refine List.nodup_append.2 ⟨all_nodup c, ih h2, fun x hx y hy e => ?_⟩
      subst e
      obtain ⟨d, hd, hxd⟩ := List.mem_flatMap.1 hy
      exact apart_has (h1 d hd) x ⟨mem_all.1 hx, mem_all.1 hxd⟩
  rw [← hlen L (fun c hc => (h c hc).1), ← len_all o]
  have := nodup_len (L.flatMap TBox.all) b.all (hnd L hp) (fun x hx => by
    obtain ⟨c, hc, hxc⟩ := List.mem_flatMap.1 hx
    exact mem_all.2 (sub_has (h c hc).2 (mem_all.1 hxc)))
  omega
/-- boxes without a common step that have as many steps as the box have each of them. -/
theorem sum_full {b : TBox} (L : List TBox) (o : b.ok) (h : ∀ c ∈ L, c.ok ∧ c.sub b) (hp : L.Pairwise TBox.apart) (hc : sumC L = b.count) (s : V3) (hs : b.has s) : ∃ c ∈ L, c.has s := by
  refine Classical.byContradiction fun hn => ?_
  have hb : ∀ c ∈ L, c.apart ⟨s, s⟩ := fun c hcL => by
    have h1 : ¬ c.has s := fun hh => hn ⟨c, hcL, hh⟩
    unfold TBox.apart; simp only
    unfold TBox.has TBox.rx TBox.ry TBox.rz Rg.has at h1; simp only at h1; omega
  have ho : (⟨s, s⟩ : TBox).ok := ⟨Int.le_refl _, Int.le_refl _, Int.le_refl _⟩
  have := sum_le (b := b) (⟨s, s⟩ :: L) o (fun c hcL => by
    rcases List.mem_cons.1 hcL with rfl | hcL
    · exact ⟨ho, ⟨⟨hs.1.1, hs.1.2⟩, ⟨hs.2.1.1, hs.2.1.2⟩, ⟨hs.2.2.1, hs.2.2.2⟩⟩⟩
    · exact h c hcL) (List.pairwise_cons.2 ⟨fun c hcL => apart_symm (hb c hcL), hp⟩)
  rw [sumC_cons, hc] at this
  have := count_pos ho
  omega
theorem covers_ge {m : TMod} {l : List THit} {K : Int} {b : TBox} {L : List TBox} (h : m.covers l K b L) (o : b.ok) {s : V3} (hb : b.has s) (hp : m.permit s) (hs : 0 ≤ m.slow) (hsl : m.slow < m.lo) (he : 0 ≤ m.ea ∧ 0 ≤ m.la) (hw : 0 ≤ m.mi ∧ 0 ≤ m.no) (hl : ∀ h ∈ l, 0 ≤ h.w) : K ≤ m.score s l := by
  obtain ⟨c, hc, hcs⟩ := sum_full L o (fun c hc => ⟨(h.each c hc).1, (h.each c hc).2.1⟩) h.apart h.count s hb
  exact proved_ge (h.each c hc).2.2 hcs hp hs hsl he hw hl
/-- Lagrange: the square of a product is at most the product of squares. -/
theorem lagrange (a b : V3) : 0 ≤ a.dot a * b.dot b - a.dot b * a.dot b := by
  have e : a.dot a * b.dot b - a.dot b * a.dot b = (a.x * b.y - a.y * b.x) * (a.x * b.y - a.y * b.x) + (a.x * b.z - a.z * b.x) * (a.x * b.z - a.z * b.x) + (a.y * b.z - a.z * b.y) * (a.y * b.z - a.z * b.y) := by
    unfold V3.dot; grind
  have h1 := sq_nn (a.x * b.y - a.y * b.x)
  have h2 := sq_nn (a.x * b.z - a.z * b.x)
  have h3 := sq_nn (a.y * b.z - a.z * b.y)
  omega
end Go.Proofs.Ytlmdmpjfehpjeaa

