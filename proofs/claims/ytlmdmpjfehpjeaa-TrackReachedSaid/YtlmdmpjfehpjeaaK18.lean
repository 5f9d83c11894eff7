/- The quotient of wide numbers, rounded down. -/
import Derived.Test.YtlmdmpjfehpjeaaK16
set_option linter.unusedVariables false
set_option linter.unusedSimpArgs false
namespace Go.Proofs.Ytlmdmpjfehpjeaa
open Go.RowKit

theorem ints_oneCell' (zs : List Int) : ∀ u ∈ zs.map (Value.int .i64), u.oneCell' = true := by
  intro u hu
  obtain ⟨z, _, rfl⟩ := List.mem_map.1 hu
  rfl
theorem ownsRow_lit (w : World) (x : Value) (e : TypeId) : (w.alloc (.cells #[x] e)).ownsRow w.heap.size e 1 (.slice (some ⟨w.heap.size, 0, none⟩) 1 1) 1 [x] :=
  ⟨by simp, .inr ⟨w.heap.size, 1, #[x], rfl, Nat.le_refl _, heap_alloc_new w _, Nat.le_refl _, by simp [maxLen], by simp, by simp⟩⟩
theorem DigIn.nil {w : World} {b : Nat} {N : Nat → Prop} : DigIn w (.slice (some ⟨b, 0, none⟩) 0 0) (dig 0) N := by
  rw [dig_zero]
  exact ⟨some ⟨b, 0, none⟩, 0, rfl, Nat.le_refl _, by simp [maxLen], fun h => absurd h (by simp), fun h => by cases h⟩

set_option maxRecDepth 100000 in
set_option maxHeartbeats 4000000 in
theorem base_WideFloor (x y : Int) (u v : Value) (w : World) (N : Nat → Prop) (hN : ∀ b, w.heap.size ≤ b → N b) (hu : WideAt w u x N) (hv : WideAt w v y N) (hy0 : 0 < y) (hx : (dig x.natAbs).length ≤ 90000) (hy : (dig y.natAbs).length ≤ 90000) :
    Calls Try.prog 144 #[u, v] w (RetWide w (x / y) N) := by
  obtain ⟨i0, hi, hz0, hz1, hz2⟩ := info_parts infoInt
  obtain ⟨ao, cap, rfl, gu⟩ := hu
  obtain ⟨bo, cap2, rfl, gv⟩ := hv
  obtain ⟨ao', cap', ea, ha1, ha2, ha3⟩ := gu.ints.opn
  cases ea
  have hsy : sg y = 1 := by unfold sg; rw [if_neg (by omega), if_neg (by omega)]
  rw [hsy]
  obtain ⟨yn, rfl⟩ : ∃ yn : Nat, y = yn := ⟨y.toNat, by omega⟩
  rw [Int.natAbs_natCast] at hy gv ⊢
  have hrx := sg_range x
  obtain ⟨sx, hsx⟩ : ∃ sx, sx = sg x := ⟨_, rfl⟩
  obtain ⟨la, hla⟩ : ∃ la, la = dig x.natAbs := ⟨_, rfl⟩
  obtain ⟨LB, hLB⟩ : ∃ LB, LB = (dig yn).length := ⟨_, rfl⟩
  have HSX := hid hsx
  have HLA := hid hla
  have HDA : Hid (isD la) := hid (by rw [hla]; exact isD_dig _)
  have HLZ : Hid (x ≠ 0 → 0 < la.length) := hid (fun h => Nat.pos_of_ne_zero (fun h0 => by rw [hla] at h0; have := dig_nil.1 h0; omega))
  rw [← hsx] at hrx ⊢
  rw [← hla] at ha1 ha3 hx ⊢
  rw [← hLB] at gv ⊢
  have HY : Hid (0 < yn ∧ (dig yn).length ≤ 90000) := hid ⟨by omega, hy⟩
  have HBO : Hid (∀ W', Below w.heap.size w W' → Calls Try.prog 140 #[.int .i64 1, .slice bo LB cap2] W' fun e w' => e = .returned (.agg #[.int .i64 1, .slice bo LB cap2]) ∧ Below W'.heap.size W' w') := hid (fun W' h => by
    obtain ⟨e1, e2⟩ := wide_of (xs := dig yn) (z := (yn : Int)) (s := 1) (by rw [dval_dig]; rfl) (fun _ => by rw [hsy])
    have h1 := base_wideOf 1 (dig yn) bo cap2 W' (by rw [← hLB]; exact gv.ints.below h) (isD_dig _)
    rw [e1, e2, hsy] at h1
    rw [hLB]
    exact h1)
  have HMU : Hid (∀ (W' : World) (r : Value) (m : Nat), Below w.heap.size w W' → WideAt W' r m (fun _ => True) → m < 1000000000 → Calls Try.prog 137 #[.agg #[.int .i64 1, .slice bo LB cap2], r] W' (RetWide W' ((yn : Int) * m) (fun _ => True))) := hid (fun W' r m h hr hm => by
    refine base_WideMul (yn : Int) m _ r W' _ (fun _ _ => trivial) ?_ hr (by rw [Int.natAbs_natCast]; omega) (by rw [Int.natAbs_natCast]; have := dig_small hm; omega)
    refine ⟨bo, cap2, by rw [hsy, Int.natAbs_natCast, hLB], ?_⟩
    rw [Int.natAbs_natCast, ← hLB]
    exact gv.mono h (fun _ _ _ => trivial))
  have HNN := hid hN
  have hx1 := hx
  unfold maxLen at ha2
  clear gu gv hN hsx hla hLB hy hsy hy0
  obtain ⟨W, hW⟩ : ∃ W, W = ((w.alloc (.cells #[.int .i64 sx, .slice ao la.length cap] 51)).alloc (.cells #[.int .i64 1, .slice bo LB cap2] 51)).alloc (.cells #[.int .i64 0, .slice none 0 0] 51) := ⟨_, rfl⟩
  have hzW : W.heap.size = w.heap.size + 1 + 1 + 1 := by rw [hW]; simp
  have hBW : Below w.heap.size w W := by rw [hW]; (repeat (with_reducible first | exact Below.refl _ _ | assumption | refine Below.drewN _ ?_ | refine Below.drew ?_ | refine Below_alloc ?_ _ | refine Below.alloc ?_ (by first | (simp; done) | (simp; omega) | omega) _ | refine Below.setCell ?_ (by first | (simp; done) | (simp; omega) | omega) _ | refine Below_call ?_ (by assumption) | refine Below.trans ?_ (by assumption)))
  obtain ⟨q0, q1, q2⟩ := alloc3 w _ _ _ _ _ _ W hW
  have HWC := hid q2
  obtain ⟨a0, a1, fa0, fa1, hl0⟩ := two_cells q0
  obtain ⟨b0, b1, fb0, fb1, hl1⟩ := two_cells q1
  obtain ⟨c0, c1, f0, f1, hl2⟩ := two_cells q2
  have HA0 := hid (And.intro a0 (And.intro a1 (And.intro b0 b1)))
  clear q0 q1 q2
  by_cases hx0 : sx = 0
  · have HE : Hid (x / (yn : Int) = 0) := hid (by rw [sg_zero.1 (HSX.out.symm.trans hx0)]; exact Int.zero_ediv _)
    subst hx0
    go_enter Try.func144, Try.ntmps144
    go_wp2_with fail
    ((try simp only [Exit.inBlock, Exit.then]); refine bodyPost_ret (v := .agg #[.int .i64 0, .slice none 0 0]) ?_ rfl ?_; (next => simp [results, Try.results144, go_sem]))
    rw [HE.out]
    refine ⟨_, rfl, ⟨none, 0, by simp [sg, dig_zero], ?_⟩, by (repeat (with_reducible first | exact Below.refl _ _ | assumption | refine Below.drewN _ ?_ | refine Below.drew ?_ | refine Below_alloc ?_ _ | refine Below.alloc ?_ (by first | (simp; done) | (simp; omega) | omega) _ | refine Below.setCell ?_ (by first | (simp; done) | (simp; omega) | omega) _ | refine Below_call ?_ (by assumption) | refine Below.trans ?_ (by assumption)))⟩
    exact ⟨none, 0, by simp [dig_zero], by simp [dig_zero], by simp, fun h => by simp [dig_zero] at h, fun _ => rfl⟩
  have hxl := HLZ.out (fun h => hx0 (HSX.out.trans (sg_zero.2 h)))
  have HA3 := hid ha3
  clear ha3 b0 b1 c0 c1 f0 f1 fb0 fb1 fa0 fa1 hl1
  go_enter Try.func144, Try.ntmps144
  go_wp2_with (at_make; go_loud (rw [← hW]; refine wpList_make_full W rfl _ _ _ rfl W.heap.size 3 i0 _ 1 Try.underlying49 hi hz0 hz1 _ _ _ _ la.length rfl rfl (by omega) (by omega) (by rw [hz2]; omega) (by unfold maxLen; omega) (Nat.le_refl _) ?_; intro w1 hmade hgrow; have hb0 : Below W.heap.size W w1 := (Below.refl _ _).grown hgrow (Nat.le_refl _) (fun k hk => by cases hk); obtain ⟨a0, a1, b0, b1⟩ := HA0.out; obtain ⟨hcc, _⟩ := bcell hb0; rw [← hcc w.heap.size _ (by omega)] at a0 a1; clear hcc; have hzb := hb0.size; have hl0w : w.heap.size < w1.heap.size := by omega))
  have hmade' : w1.ownsRow W.heap.size 3 1 (.slice (some ⟨W.heap.size, 0, none⟩) la.length la.length) la.length ((List.replicate la.length (0 : Int)).map (Value.int .i64)) := by
    rw [List.map_replicate]
    have e := toList_madeCells_one (.int .i64 0) la.length
    simpa [Value.cells, e] using hmade
  clear hmade hgrow hW
  rw [hzW] at hmade'
  have hrep : isD (List.replicate la.length (0 : Int)) := fun d hd => by rw [List.eq_of_mem_replicate hd]; omega
  have HREP := hid hrep
  have HMADE := hid hmade'
  have hl2w := Nat.lt_of_lt_of_le hl2 hb0.size
  clear hrep hmade'
  have hfd : ∀ (s : Int) (ao : Option Addr) (n cap : Nat) (w : World), (Instr.field 51 (.agg #[.int .i64 s, .slice ao n cap]) 1).run Try.prog w = .ok (.slice ao n cap) w := fun _ _ _ _ _ => by kernel_rfl
  go_loopw [6, 7] (fun left ii wr => ∃ (n L : Nat) (qs : List Int), n ≤ la.length ∧ ii = .int .i64 ((n : Int) - 1) ∧ qs.length = la.length ∧ Hid (isD qs ∧ dval (qs.drop n) * yn + L = dval (la.drop n) ∧ L < yn) ∧ DigIn wr left (dig L) (fun b => w.heap.size + 1 + 1 + 1 < b) ∧ wr.ownsRow (w.heap.size + 1 + 1 + 1) 3 1 (.slice (some ⟨w.heap.size + 1 + 1 + 1, 0, none⟩) la.length la.length) la.length (qs.map (Value.int .i64)) ∧ Below W.heap.size W wr) (fun _ ii _ => (intOf ii + 1).toNat)
  case atStart => exact ⟨la.length, 0, List.replicate la.length 0, Nat.le_refl _, rfl, by simp, hid ⟨HREP.out, by simp [dval], HY.out.1⟩, DigIn.nil, HMADE.out.alloc _, by (repeat (with_reducible first | exact Below.refl _ _ | assumption | refine Below.drewN _ ?_ | refine Below.drew ?_ | refine Below_alloc ?_ _ | refine Below.alloc ?_ (by first | (simp; done) | (simp; omega) | omega) _ | refine Below.setCell ?_ (by first | (simp; done) | (simp; omega) | omega) _ | refine Below_call ?_ (by assumption) | refine Below.trans ?_ (by assumption)))⟩
  case round =>
    obtain ⟨wo, rfl⟩ : ∃ wo : World, wo = wr := ⟨_, rfl⟩
    obtain ⟨n, L, qs, hn, rfl, hql, HX, hleft, hown, hbel⟩ := hrel
    have hzw := hbel.size
    have hbx : Below w.heap.size w wo := by (repeat (with_reducible first | exact Below.refl _ _ | assumption | refine Below.drewN _ ?_ | refine Below.drew ?_ | refine Below_alloc ?_ _ | refine Below.alloc ?_ (by first | (simp; done) | (simp; omega) | omega) _ | refine Below.setCell ?_ (by first | (simp; done) | (simp; omega) | omega) _ | refine Below_call ?_ (by assumption) | refine Below.trans ?_ (by assumption)))
    obtain ⟨a0, a1, b0, b1⟩ := HA0.out
    obtain ⟨hcc, _⟩ := bcell hbel
    rw [← hcc w.heap.size _ (by omega)] at a0 a1
    rw [← hcc (w.heap.size + 1) _ (by omega)] at b0 b1
    clear hcc
    have hlw0 : w.heap.size < wo.heap.size := by omega
    have hlw1 : w.heap.size + 1 < wo.heap.size := by omega
    have hLl : (dig L).length ≤ 90000 := by
      have h1 := HX.out.2.2
      have h2 := dig_len_mono (Nat.le_of_lt h1)
      have h3 := HY.out.2
      omega
    by_cases h0 : n = 0
    · subst h0
      have HQ : Hid (isD qs ∧ dval qs * yn + L = (x.natAbs : Int)) := hid (by
        obtain ⟨x1, x2, x3⟩ := HX.out
        rw [List.drop_zero, List.drop_zero, HLA.out, dval_dig] at x2
        exact ⟨x1, x2⟩)
      have hq0 := dval_range HQ.out.1
      have HDO : Hid (DigIn wo (.slice (some ⟨w.heap.size + 1 + 1 + 1, 0, none⟩) qs.length la.length) qs (fun b => w.heap.size + 1 + 1 + 1 ≤ b)) := hid (ownsRow_dig (l := qs) (by rw [hql]; exact hown))
      obtain ⟨S, hS⟩ : ∃ S, S = sg0 (dval qs) sx := ⟨_, rfl⟩
      obtain ⟨T, hT⟩ : ∃ T, T = (tri qs).length := ⟨_, rfl⟩
      have HWO : Hid (∀ W', Below wo.heap.size wo W' → Calls Try.prog 140 #[.int .i64 sx, .slice (some ⟨w.heap.size + 1 + 1 + 1, 0, none⟩) la.length la.length] W' fun e w' => e = .returned (.agg #[.int .i64 S, .slice (some ⟨w.heap.size + 1 + 1 + 1, 0, none⟩) T la.length]) ∧ Below W'.heap.size W' w') := hid (fun W' h => by
        have h1 := base_wideOf sx qs _ la.length W' (HDO.out.ints.below h) HQ.out.1
        rw [hS, hT]; rwa [hql] at h1)
      have HST := hid (And.intro hS hT)
      have HZZ := hid (show wo.heap[w.heap.size + 1 + 1]? = _ from (hbel.block (w.heap.size + 1 + 1) (by omega)).trans HWC.out)
      have hyp : 0 < yn := HY.out.1
      have HFL : Hid ((sx = 1 → x / (yn : Int) = dval qs) ∧ (sx = -1 → x / (yn : Int) = if (L : Int) = 0 then -dval qs else -dval qs - 1)) := hid (by
        have hr : (0 : Int) ≤ (L : Int) ∧ (L : Int) < (yn : Int) := ⟨by omega, by have := HX.out.2.2; omega⟩
        constructor
        · intro h
          have h1 := HSX.out
          have h2 : 0 < x := by unfold sg at h1; split at h1; omega; split at h1 <;> omega
          rw [show x = (x.natAbs : Int) by omega]
          exact floor_pos (by omega) HQ.out.2 hr
        · intro h
          have h1 := HSX.out
          have h2 : x < 0 := by unfold sg at h1; split at h1; assumption; split at h1 <;> omega
          rw [show x = -(x.natAbs : Int) by omega]
          exact floor_neg (by omega) HQ.out.2 hr)
      have hq1 : (dval qs).natAbs ≤ x.natAbs := by
        have h1 := HQ.out.2
        have h2 := Int.mul_le_mul_of_nonneg_left (show (1 : Int) ≤ yn by omega) hq0.1
        omega
      have HQL : Hid ((dig (-dval qs).natAbs).length ≤ 100000) := hid (by
        have h1 := dig_len_mono (show (-dval qs).natAbs ≤ x.natAbs by omega)
        have h2 := congrArg List.length HLA.out
        omega)
      have HQ0 := hid hq0.1
      obtain ⟨lo0, lc0, rfl⟩ := hleft.shape
      obtain ⟨KL, hKL⟩ : ∃ KL, KL = (dig L).length := ⟨_, rfl⟩
      have hkl0 : KL = 0 ↔ L = 0 := by rw [hKL]; exact dig_nil
      rw [← hKL]
      clear hS hT hq0 hq1 hown hleft hKL
      by_cases hpos : sx = 1
      · subst hpos
        clear hkl0
        go_wp2_with (go_at_call 140; refine (HWO.out _ (by (repeat (with_reducible first | exact Below.refl _ _ | assumption | refine Below.drewN _ ?_ | refine Below.drew ?_ | refine Below_alloc ?_ _ | refine Below.alloc ?_ (by first | (simp; done) | (simp; omega) | omega) _ | refine Below.setCell ?_ (by first | (simp; done) | (simp; omega) | omega) _ | refine Below_call ?_ (by assumption) | refine Below.trans ?_ (by assumption))))).mono ?_; rintro _ w3 ⟨rfl, hb3⟩; have HB3 := hid hb3; have hz3 := hb3.size; have u0 := (hb3.cell (p := ⟨w.heap.size, 0, none⟩) (by omega)).trans a0; have hlw3 : w.heap.size < w3.heap.size := (by omega); obtain ⟨e0, e1, p0, p1, hlt1⟩ := two_cells ((hb3.block (w.heap.size + 1 + 1) (by omega)).trans HZZ.out))
        ((try simp only [Exit.inBlock, Exit.then]); refine bodyPost_ret (v := .agg #[.int .i64 S, .slice (some ⟨w.heap.size + 1 + 1 + 1, 0, none⟩) T la.length]) ?_ rfl ?_; (next => simp [results, Try.results144, go_sem, hlt1, e0, e1]))
        rw [HST.out.1, HST.out.2]
        rw [HFL.out.1 (by first | rfl | trivial)]
        have hfin := fun X Y => wide_fin (w2 := w3) (B := w.heap.size + 1 + 1) (z := dval qs) (s := 1) (N := N) HQ.out.1 (by have := HQ0.out; omega) (fun h => by unfold sg; have := HQ0.out; rw [if_neg (by omega), if_neg h]) HDO.out HB3.out (fun b h => ⟨by have : w.heap.size + 1 + 1 + 1 ≤ b := h; omega, HNN.out b (by have : w.heap.size + 1 + 1 + 1 ≤ b := h; omega)⟩) X Y
        exact ⟨_, rfl, (hfin _ _).mono ((Below.refl _ _).alloc (Nat.le_refl _) _) (fun _ _ h => h), by (repeat (with_reducible first | exact Below.refl _ _ | assumption | refine Below.drewN _ ?_ | refine Below.drew ?_ | refine Below_alloc ?_ _ | refine Below.alloc ?_ (by first | (simp; done) | (simp; omega) | omega) _ | refine Below.setCell ?_ (by first | (simp; done) | (simp; omega) | omega) _ | refine Below_call ?_ (by assumption) | refine Below.trans ?_ (by assumption)))⟩
      · obtain rfl : sx = -1 := by omega
        clear hpos
        by_cases hL0 : KL = 0
        · subst hL0
          have HL0 := hid (hkl0.1 rfl)
          clear hkl0
          go_wp2_with (go_at_call 140; refine (HWO.out _ (by (repeat (with_reducible first | exact Below.refl _ _ | assumption | refine Below.drewN _ ?_ | refine Below.drew ?_ | refine Below_alloc ?_ _ | refine Below.alloc ?_ (by first | (simp; done) | (simp; omega) | omega) _ | refine Below.setCell ?_ (by first | (simp; done) | (simp; omega) | omega) _ | refine Below_call ?_ (by assumption) | refine Below.trans ?_ (by assumption))))).mono ?_; rintro _ w3 ⟨rfl, hb3⟩; have HB3 := hid hb3; have hz3 := hb3.size; have u0 := (hb3.cell (p := ⟨w.heap.size, 0, none⟩) (by omega)).trans a0; have hlw3 : w.heap.size < w3.heap.size := (by omega); obtain ⟨e0, e1, p0, p1, hlt1⟩ := two_cells ((hb3.block (w.heap.size + 1 + 1) (by omega)).trans HZZ.out))
          ((try simp only [Exit.inBlock, Exit.then]); refine bodyPost_ret (v := .agg #[.int .i64 S, .slice (some ⟨w.heap.size + 1 + 1 + 1, 0, none⟩) T la.length]) ?_ rfl ?_; (next => simp [results, Try.results144, go_sem, hlt1, e0, e1]))
          rw [HST.out.1, HST.out.2]
          rw [HFL.out.2 (by first | rfl | trivial), if_pos (by rw [HL0.out]; rfl)]
          have hfin := fun X Y => wide_fin (w2 := w3) (B := w.heap.size + 1 + 1) (z := -dval qs) (s := -1) (N := N) HQ.out.1 (by have := HQ0.out; omega) (fun h => by unfold sg; have := HQ0.out; rw [if_pos (by omega)]) HDO.out HB3.out (fun b h => ⟨by have : w.heap.size + 1 + 1 + 1 ≤ b := h; omega, HNN.out b (by have : w.heap.size + 1 + 1 + 1 ≤ b := h; omega)⟩) X Y
          exact ⟨_, rfl, (hfin _ _).mono ((Below.refl _ _).alloc (Nat.le_refl _) _) (fun _ _ h => h), by (repeat (with_reducible first | exact Below.refl _ _ | assumption | refine Below.drewN _ ?_ | refine Below.drew ?_ | refine Below_alloc ?_ _ | refine Below.alloc ?_ (by first | (simp; done) | (simp; omega) | omega) _ | refine Below.setCell ?_ (by first | (simp; done) | (simp; omega) | omega) _ | refine Below_call ?_ (by assumption) | refine Below.trans ?_ (by assumption)))⟩
        · have HL0 : Hid (L ≠ 0) := hid (fun h => hL0 (hkl0.2 h))
          have hK0 : 0 < KL := Nat.pos_of_ne_zero hL0
          clear hkl0 hL0
          go_wp2_with (go_at_call 140; refine (HWO.out _ (by (repeat (with_reducible first | exact Below.refl _ _ | assumption | refine Below.drewN _ ?_ | refine Below.drew ?_ | refine Below_alloc ?_ _ | refine Below.alloc ?_ (by first | (simp; done) | (simp; omega) | omega) _ | refine Below.setCell ?_ (by first | (simp; done) | (simp; omega) | omega) _ | refine Below_call ?_ (by assumption) | refine Below.trans ?_ (by assumption))))).mono ?_; rintro _ w3 ⟨rfl, hb3⟩; have HB3 := hid hb3; have hz3 := hb3.size; have u0 := (hb3.cell (p := ⟨w.heap.size, 0, none⟩) (by omega)).trans a0; have hlw3 : w.heap.size < w3.heap.size := (by omega); obtain ⟨e0, e1, p0, p1, hlt1⟩ := two_cells ((hb3.block (w.heap.size + 1 + 1) (by omega)).trans HZZ.out))
          obtain ⟨W5, hW5⟩ : ∃ W5, W5 = w3.alloc (.cells #[.int .i64 S, .slice (some ⟨w.heap.size + 1 + 1 + 1, 0, none⟩) T la.length] 51) := ⟨_, rfl⟩
          have q3 : W5.heap[w3.heap.size]? = some (.cells #[.int .i64 S, .slice (some ⟨w.heap.size + 1 + 1 + 1, 0, none⟩) T la.length] 51 (0, 0)) := by rw [hW5]; exact heap_alloc_new w3 _
          have hz5 : W5.heap.size = w3.heap.size + 1 := by rw [hW5]; simp
          have hb5 : Below w3.heap.size w3 W5 := by rw [hW5]; exact (Below.refl _ _).alloc (Nat.le_refl _) _
          have HQ5 := hid (And.intro q3 ((hb5.block (w.heap.size + 1 + 1) (by omega)).trans ((HB3.out.block (w.heap.size + 1 + 1) (by omega)).trans HZZ.out)))
          have HOUT : Hid (∀ W', Below W5.heap.size W5 W' → WideAt W' (.agg #[.int .i64 S, .slice (some ⟨w.heap.size + 1 + 1 + 1, 0, none⟩) T la.length]) (-dval qs) (fun b => b ≠ w3.heap.size ∧ b ≠ w.heap.size + 1 + 1 ∧ w.heap.size ≤ b)) := hid (fun W' h => by
            obtain ⟨e1, e2⟩ := wide_of (xs := qs) (z := -dval qs) (s := -1) (by have := HQ0.out; omega) (fun h => by unfold sg; have := HQ0.out; rw [if_pos (by omega)])
            rw [HST.out.1, HST.out.2, e1, e2]
            refine ⟨_, la.length, rfl, ?_⟩
            rw [← e2]
            exact (HDO.out.trim HQ.out.1).mono ((HB3.out.trans (hb5.mono (by omega))).trans (h.mono (by omega))) (fun b hb hN => ⟨by omega, by omega, by omega⟩))
          have hN5 : Hid (∀ W' : World, W5.heap.size ≤ W'.heap.size → ∀ b, W'.heap.size ≤ b → b ≠ w3.heap.size ∧ b ≠ w.heap.size + 1 + 1 ∧ w.heap.size ≤ b) := hid (fun W' h b hb => ⟨by omega, by omega, by omega⟩)
          obtain ⟨x0, x1, fx0, fx1, hl3⟩ := two_cells q3
          have hBW5 : Below w.heap.size w W5 := (hbx.trans (HB3.out.mono (by omega))).trans (hb5.mono (by omega))
          rw [← hW5]
          clear hW5 q3 e0 e1 p0 p1 hb5
          have hz35 : w3.heap.size < W5.heap.size := by omega
          have hlr5 : w.heap.size + 1 + 1 < W5.heap.size := by omega
          refine wp_mixC (fun wc => Below (W5.heap.size) W5 wc) 2 [.q [0], .f [1]] [.f [2, 3]] (by kernel_rfl) (by kernel_rfl) ((Below.refl _ _).drew) ?_
          intro Q' hQ'
          (rw [wpMixC]; simp only [pick, List.drop_succ_cons, List.drop_zero, List.head?_cons, Option.toList_some, List.cons_append, List.nil_append])
          (repeat (first | go_big_quiet_skip | (go_big_quiet_want; refine quiet_simple rfl ?_; go_big_quiet_op; go_big_quiet_on) | (go_big_quiet_want; refine quiet_agg2B (ty := 51) rfl rfl (by kernel_rfl) (by assumption) (by assumption) (by first | omega | (simp; omega)) ?_; simp only [Act.put, List.setIfInBounds_toArray, List.set_cons_succ, List.set_cons_zero]; go_big_quiet_on)))
          (try refine wpQuiet_nil ?_)
          (rw [wpMixC]; simp only [pick, List.drop_succ_cons, List.drop_zero, List.head?_cons, Option.toList_some, List.cons_append, List.nil_append])
          (rw [wpSteps]; go_wp2_with ((first | (go_at_call 126; refine (base_WideOf 1 _ _ (hN5.out _ (by first | exact Nat.le_refl _ | simp)) (by omega) (by omega)).mono ?_; rintro _ w6 ⟨r, rfl, hwr, hb6⟩; obtain ⟨ro, rn, rc, rfl⟩ := hwr.shape; have HWR := hid hwr; clear hwr; have HB6 := hid hb6; have hz6 : W5.heap.size ≤ w6.heap.size := hb6.size) | (go_at_call 154; refine (base_WideSub (-dval qs) 1 _ _ _ _ (hN5.out _ (by first | exact hz6 | omega)) (HOUT.out _ (by (repeat (with_reducible first | exact Below.refl _ _ | assumption | refine Below.drewN _ ?_ | refine Below.drew ?_ | refine Below_alloc ?_ _ | refine Below.alloc ?_ (by first | (simp; done) | (simp; omega) | omega) _ | refine Below.setCell ?_ (by first | (simp; done) | (simp; omega) | omega) _ | refine Below_call ?_ (by assumption) | refine Below.trans ?_ (by assumption))))) HWR.out HQL.out (by rw [show (1 : Int).natAbs = 1 from rfl]; have := dig_small (n := 1) (by omega); omega)).mono ?_; rintro _ w7 ⟨r7, rfl, hwr, hb7⟩; obtain ⟨ro7, rn7, rc7, rfl⟩ := hwr.shape; have HW7 := hid hwr; clear hwr; have HB7 := hid hb7; have hz7 : w6.heap.size ≤ w7.heap.size := hb7.size; obtain ⟨y0, y1, fy0, fy1, hly⟩ := two_cells ((hb7.block w3.heap.size (by omega)).trans ((HB6.out.block w3.heap.size (by first | exact hz35 | omega)).trans HQ5.out.1)); obtain ⟨e0, e1, p0, p1, hlt1⟩ := two_cells ((hb7.block (w.heap.size + 1 + 1) (by omega)).trans ((HB6.out.block (w.heap.size + 1 + 1) (by first | exact hlr5 | omega)).trans HQ5.out.2))))); rw [contF]; refine ⟨?_, ?_⟩; (next => (repeat (with_reducible first | exact Below.refl _ _ | assumption | refine Below.drewN _ ?_ | refine Below.drew ?_ | refine Below_alloc ?_ _ | refine Below.alloc ?_ (by first | (simp; done) | (simp; omega) | omega) _ | refine Below.setCell ?_ (by first | (simp; done) | (simp; omega) | omega) _ | refine Below_call ?_ (by assumption) | refine Below.trans ?_ (by assumption)))))
          (rw [wpSteps])
          (rw [wpMixC])
          (rw [wpMix]; simp only [pick, List.drop_succ_cons, List.drop_zero, List.head?_cons, Option.toList_some, List.cons_append, List.nil_append])
          (go_wp2_with ((first | (go_at_call 126; refine (base_WideOf 1 _ _ (hN5.out _ (by first | exact Nat.le_refl _ | simp)) (by omega) (by omega)).mono ?_; rintro _ w6 ⟨r, rfl, hwr, hb6⟩; obtain ⟨ro, rn, rc, rfl⟩ := hwr.shape; have HWR := hid hwr; clear hwr; have HB6 := hid hb6; have hz6 : W5.heap.size ≤ w6.heap.size := hb6.size) | (go_at_call 154; refine (base_WideSub (-dval qs) 1 _ _ _ _ (hN5.out _ (by first | exact hz6 | omega)) (HOUT.out _ (by (repeat (with_reducible first | exact Below.refl _ _ | assumption | refine Below.drewN _ ?_ | refine Below.drew ?_ | refine Below_alloc ?_ _ | refine Below.alloc ?_ (by first | (simp; done) | (simp; omega) | omega) _ | refine Below.setCell ?_ (by first | (simp; done) | (simp; omega) | omega) _ | refine Below_call ?_ (by assumption) | refine Below.trans ?_ (by assumption))))) HWR.out HQL.out (by rw [show (1 : Int).natAbs = 1 from rfl]; have := dig_small (n := 1) (by omega); omega)).mono ?_; rintro _ w7 ⟨r7, rfl, hwr, hb7⟩; obtain ⟨ro7, rn7, rc7, rfl⟩ := hwr.shape; have HW7 := hid hwr; clear hwr; have HB7 := hid hb7; have hz7 : w6.heap.size ≤ w7.heap.size := hb7.size; obtain ⟨y0, y1, fy0, fy1, hly⟩ := two_cells ((hb7.block w3.heap.size (by omega)).trans ((HB6.out.block w3.heap.size (by first | exact hz35 | omega)).trans HQ5.out.1)); obtain ⟨e0, e1, p0, p1, hlt1⟩ := two_cells ((hb7.block (w.heap.size + 1 + 1) (by omega)).trans ((HB6.out.block (w.heap.size + 1 + 1) (by first | exact hlr5 | omega)).trans HQ5.out.2))))); rw [contF])
          (rw [wpMix])
          (refine hQ' _ _ ?_)
          go_wp2_with fail
          ((try simp only [Exit.inBlock, Exit.then]); refine bodyPost_ret (v := .agg #[.int .i64 (sg (-dval qs - 1)), .slice ro7 rn7 rc7]) ?_ rfl ?_; (next => simp [results, Try.results144, go_sem, hlt1, e0, e1]))
          rw [HFL.out.2 (by first | rfl | trivial), if_neg (by have := HL0.out; omega)]
          exact ⟨_, rfl, ((HW7.out.store2 (Below.refl _ _) (N := fun b => b ≠ w.heap.size + 1 + 1 ∧ w.heap.size ≤ b) (fun b h => ⟨h.1, h.2⟩) _ _).store2 (Below.refl _ _) (fun b h => ⟨h.1, HNN.out b h.2⟩) _ _), by (repeat (with_reducible first | exact Below.refl _ _ | assumption | refine Below.drewN _ ?_ | refine Below.drew ?_ | refine Below_alloc ?_ _ | refine Below.alloc ?_ (by first | (simp; done) | (simp; omega) | omega) _ | refine Below.setCell ?_ (by first | (simp; done) | (simp; omega) | omega) _ | refine Below_call ?_ (by assumption) | refine Below.trans ?_ (by assumption)))⟩
    · obtain ⟨m, rfl⟩ : ∃ m, n = m + 1 := ⟨n - 1, by omega⟩
      rw [show ((m + 1 : Nat) : Int) - 1 = m from by omega]
      obtain ⟨d, hdd⟩ : ∃ d, d = nth la m := ⟨_, rfl⟩
      have hdb := isD_nth HDA.out m
      rw [← hdd] at hdb
      obtain ⟨b1', off1, rfl, hbb1, hcl1⟩ := HA3.out m (by omega)
      have z1 := (hbx.cell (p := ⟨b1', off1 + m, none⟩) hbb1).trans (hcl1 m (by omega))
      rw [← hdd] at z1
      have HD := hid hdd
      obtain ⟨lo0, lc0, rfl⟩ := hleft.shape
      obtain ⟨dl, hdl⟩ : ∃ dl, dl = d :: dig L := ⟨_, rfl⟩
      obtain ⟨X, hX⟩ : ∃ X : Nat, X = (d + 1000000000 * (L : Int)).toNat := ⟨_, rfl⟩
      have hXX : (X : Int) = d + 1000000000 * (L : Int) := by omega
      have HDL : Hid (isD dl ∧ tri dl = dig X ∧ dl.length = 1 + (dig L).length ∧ dl.map (Value.int .i64) = [.int .i64 d] ++ (dig L).map (Value.int .i64)) := hid (by
        have e : dval dl = X := by rw [hdl, dval, dval_dig, hXX]
        refine ⟨by rw [hdl]; exact isD_cons.2 ⟨hdb, isD_dig L⟩, ?_, by rw [hdl, List.length_cons, Nat.add_comm], by rw [hdl]; rfl⟩
        unfold tri; rw [e, Int.toNat_natCast])
      have HXX := hid hXX
      have hbw1 : b1' < wo.heap.size := by omega
      have HXB : Hid (X < 1000000000 * yn) := hid (by have := HX.out.2.2; omega)
      obtain ⟨ao', cap', es, hs1, hs2, hs3⟩ := hleft.ints.src
      cases es
      have HSRC := hs3 (wo.alloc (.cells #[.int .i64 d] 3)) ((Below.refl _ _).alloc (Nat.le_refl _) _)
      have HS := hid HSRC
      have HLEFT0 := hid hleft
      have HOWN := hid hown
      have HBEL := hid hbel
      have hlm : m < la.length := by omega
      clear hs3 HSRC hleft hown hbel hdd hdl hX hXX hcl1
      go_wp2_with (first | (at_builtin; go_must (refine wpList_append_list rfl (.tmp 34) (.tmp 35) _ rfl elemInt wo.heap.size (.slice (some ⟨wo.heap.size, 0, none⟩) 1 1) 1 [.int .i64 d] rfl (ownsRow_lit wo _ _) lo0 (dig L).length lc0 ((dig L).map (Value.int .i64)) rfl (by simp) (ints_oneCell' _) HS.out (by omega) (by unfold maxLen; omega) (by simp) ?_); intro v1 w2 hown1 hp1 _; rw [← HDL.out.2.2.1, ← HDL.out.2.2.2] at hown1; have hd1 := ownsRow_dig hown1; obtain ⟨ao1, c1, rfl⟩ := hd1.shape; have HD1 := hid hd1; have hb2 : Below wo.heap.size wo w2 := ((Below.refl _ _).alloc (Nat.le_refl _) _).trans hp1.below; clear hd1 hown1 hp1) | (go_at_call 152; refine (base_trimmed dl ao1 c1 _ HD1.out.ints HDL.out.1).mono ?_; rintro _ _ ⟨rfl, rfl⟩))
      have HBW2 := hid hb2
      have hz2 := hb2.size
      clear hb2
      rw [HDL.out.2.1]
      have HLEFT : Hid (DigIn w2 (.slice ao1 (dig X).length c1) (dig X) (fun b => wo.heap.size ≤ b)) := hid (by have := HD1.out.trim HDL.out.1; rwa [HDL.out.2.1] at this)
      go_loopw [8, 9] (fun a c w3 => ∃ lo hi : Nat, a = .int .i64 lo ∧ c = .int .i64 hi ∧ lo ≤ hi ∧ hi ≤ 999999999 ∧ Hid (lo * yn ≤ X ∧ X < (hi + 1) * yn) ∧ Below w2.heap.size w2 w3) (fun a c _ => (intOf c - intOf a).toNat)
      case atStart => exact ⟨0, 999999999, rfl, rfl, by omega, by omega, hid ⟨by omega, by have := HXB.out; omega⟩, Below.refl _ _⟩
      case round =>
        obtain ⟨lo, hi, rfl, rfl, hlh, hh9, HLH, hbel3⟩ := hrel
        have hz3 := hbel3.size
        have hbx3 : Below w.heap.size w wr := (hbx.trans (HBW2.out.mono (by omega))).trans (hbel3.mono (by omega))
        have hbx4 : Below wo.heap.size wo wr := HBW2.out.trans (hbel3.mono (by omega))
        obtain ⟨hcc, hff⟩ := bcell hbx4
        rw [← hcc w.heap.size _ (by omega)] at a0 a1
        rw [← hcc (w.heap.size + 1) _ (by omega)] at b0 b1
        clear hcc hff
        have hlw0' : w.heap.size < wr.heap.size := by omega
        have hlw1' : w.heap.size + 1 < wr.heap.size := by omega
        by_cases hlt : lo < hi
        · obtain ⟨md, hmd⟩ : ∃ md : Nat, md = (lo + hi + 1) / 2 := ⟨_, rfl⟩
          have hmm : lo < md ∧ md ≤ hi := by omega
          have hdiv : ((lo : Int) + (hi : Int) + 1) / 2 = (md : Int) := by omega
          obtain ⟨C, hC⟩ : ∃ C, C = cmpN ((yn : Int) * (md : Int)).natAbs X := ⟨_, rfl⟩
          have hCC : (C ≤ 0) ↔ yn * md ≤ X := by rw [hC, cmpN_le, ← Int.natCast_mul, Int.natAbs_natCast]
          have HCM : Hid (∀ (W' : World) (u : Value), IntsAt W' u (dig ((yn : Int) * (md : Int)).natAbs) → Below w2.heap.size w2 W' → Calls Try.prog 150 #[u, .slice ao1 (dig X).length c1] W' fun e w' => e = .returned (.int .i64 C) ∧ Below W'.heap.size W' w') := hid (fun W' u h1 h2 => by rw [hC]; exact base_cmpDigits _ X _ _ W' h1 (HLEFT.out.ints.below h2))
          have hm9 : md < 1000000000 := by omega
          by_cases hc : yn * md ≤ X
          · have hC0 : C ≤ 0 := hCC.2 hc
            have HC := hid hc
            clear hC hCC hmd hc
            go_wp2_with (first | (go_at_call 140; refine (HBO.out _ (by (repeat (with_reducible first | exact Below.refl _ _ | assumption | refine Below.drewN _ ?_ | refine Below.drew ?_ | refine Below_alloc ?_ _ | refine Below.alloc ?_ (by first | (simp; done) | (simp; omega) | omega) _ | refine Below.setCell ?_ (by first | (simp; done) | (simp; omega) | omega) _ | refine Below_call ?_ (by assumption) | refine Below.trans ?_ (by assumption))))).mono ?_; rintro _ w3 ⟨rfl, hb3⟩) | (go_at_call 126; refine (base_WideOf md _ (fun _ => True) (fun _ _ => trivial) (by omega) (by omega)).mono ?_; rintro _ w4 ⟨r, rfl, hwr, hb4⟩; obtain ⟨ro, rn, rc, rfl⟩ := hwr.shape; have HWR := hid hwr; clear hwr) | (go_at_call 137; refine (HMU.out _ _ md (by (repeat (with_reducible first | exact Below.refl _ _ | assumption | refine Below.drewN _ ?_ | refine Below.drew ?_ | refine Below_alloc ?_ _ | refine Below.alloc ?_ (by first | (simp; done) | (simp; omega) | omega) _ | refine Below.setCell ?_ (by first | (simp; done) | (simp; omega) | omega) _ | refine Below_call ?_ (by assumption) | refine Below.trans ?_ (by assumption)))) HWR.out hm9).mono ?_; rintro _ w5 ⟨r2, rfl, ⟨po, pc, rfl, hdp⟩, hb5⟩; have HDP := hid hdp; clear hdp) | (go_at_call 150; refine (HCM.out _ _ HDP.out.ints (by (repeat (with_reducible first | exact Below.refl _ _ | assumption | refine Below.drewN _ ?_ | refine Below.drew ?_ | refine Below_alloc ?_ _ | refine Below.alloc ?_ (by first | (simp; done) | (simp; omega) | omega) _ | refine Below.setCell ?_ (by first | (simp; done) | (simp; omega) | omega) _ | refine Below_call ?_ (by assumption) | refine Below.trans ?_ (by assumption))))).mono ?_; rintro _ w6 ⟨rfl, hb6⟩))
            go_roundw
            case rel => exact ⟨md, hi, rfl, rfl, by omega, by omega, hid ⟨by have := HC.out; rw [Nat.mul_comm]; exact this, HLH.out.2⟩, by (repeat (with_reducible first | exact Below.refl _ _ | assumption | refine Below.drewN _ ?_ | refine Below.drew ?_ | refine Below_alloc ?_ _ | refine Below.alloc ?_ (by first | (simp; done) | (simp; omega) | omega) _ | refine Below.setCell ?_ (by first | (simp; done) | (simp; omega) | omega) _ | refine Below_call ?_ (by assumption) | refine Below.trans ?_ (by assumption)))⟩
            case measure => simp [intOf]; omega
          · have hC0 : ¬ C ≤ 0 := fun h => hc (hCC.1 h)
            have HC := hid hc
            clear hC hCC hmd hc
            go_wp2_with (first | (go_at_call 140; refine (HBO.out _ (by (repeat (with_reducible first | exact Below.refl _ _ | assumption | refine Below.drewN _ ?_ | refine Below.drew ?_ | refine Below_alloc ?_ _ | refine Below.alloc ?_ (by first | (simp; done) | (simp; omega) | omega) _ | refine Below.setCell ?_ (by first | (simp; done) | (simp; omega) | omega) _ | refine Below_call ?_ (by assumption) | refine Below.trans ?_ (by assumption))))).mono ?_; rintro _ w3 ⟨rfl, hb3⟩) | (go_at_call 126; refine (base_WideOf md _ (fun _ => True) (fun _ _ => trivial) (by omega) (by omega)).mono ?_; rintro _ w4 ⟨r, rfl, hwr, hb4⟩; obtain ⟨ro, rn, rc, rfl⟩ := hwr.shape; have HWR := hid hwr; clear hwr) | (go_at_call 137; refine (HMU.out _ _ md (by (repeat (with_reducible first | exact Below.refl _ _ | assumption | refine Below.drewN _ ?_ | refine Below.drew ?_ | refine Below_alloc ?_ _ | refine Below.alloc ?_ (by first | (simp; done) | (simp; omega) | omega) _ | refine Below.setCell ?_ (by first | (simp; done) | (simp; omega) | omega) _ | refine Below_call ?_ (by assumption) | refine Below.trans ?_ (by assumption)))) HWR.out hm9).mono ?_; rintro _ w5 ⟨r2, rfl, ⟨po, pc, rfl, hdp⟩, hb5⟩; have HDP := hid hdp; clear hdp) | (go_at_call 150; refine (HCM.out _ _ HDP.out.ints (by (repeat (with_reducible first | exact Below.refl _ _ | assumption | refine Below.drewN _ ?_ | refine Below.drew ?_ | refine Below_alloc ?_ _ | refine Below.alloc ?_ (by first | (simp; done) | (simp; omega) | omega) _ | refine Below.setCell ?_ (by first | (simp; done) | (simp; omega) | omega) _ | refine Below_call ?_ (by assumption) | refine Below.trans ?_ (by assumption))))).mono ?_; rintro _ w6 ⟨rfl, hb6⟩))
            go_roundw
            case rel => exact ⟨lo, md - 1, rfl, by congr 1; omega, by omega, by omega, hid ⟨HLH.out.1, by have := HC.out; rw [Nat.sub_add_cancel (by omega), Nat.mul_comm]; omega⟩, by (repeat (with_reducible first | exact Below.refl _ _ | assumption | refine Below.drewN _ ?_ | refine Below.drew ?_ | refine Below_alloc ?_ _ | refine Below.alloc ?_ (by first | (simp; done) | (simp; omega) | omega) _ | refine Below.setCell ?_ (by first | (simp; done) | (simp; omega) | omega) _ | refine Below_call ?_ (by assumption) | refine Below.trans ?_ (by assumption)))⟩
            case measure => simp [intOf]; omega
        · obtain rfl : lo = hi := by omega
          have hgl : w.heap.size + 1 + 1 + 1 < wo.heap.size := by
            rcases HOWN.out.2 with ⟨h, _⟩ | ⟨g, cap, cur, h, _, hg, _⟩
            · cases h
            · cases h; exact (Array.getElem?_eq_some_iff.1 hg).1
          have hown3 := ownsRow_keep HOWN.out (fun g hg => by cases hg; exact hgl) hbx4
          have z0 := (hown3.cellAt m (by omega)).trans (map_nth (by omega))
          have p0 := hown3.frozenAt m
          have hgl3 : w.heap.size + 1 + 1 + 1 < wr.heap.size := by omega
          obtain ⟨o, hoo⟩ : ∃ o, o = nth qs m := ⟨_, rfl⟩
          rw [← hoo] at z0
          have HOWN3 := hid hown3
          obtain ⟨W4, hW4⟩ : ∃ W4, W4 = wr.setCell ⟨w.heap.size + 1 + 1 + 1, m, none⟩ (.int .i64 lo) := ⟨_, rfl⟩
          have HLEFT4 : Hid (DigIn W4 (.slice ao1 (dig X).length c1) (dig X) (fun b => wo.heap.size ≤ b)) := hid (by
            refine (HLEFT.out.mono hbel3 (fun b _ h => h)).keep (by rw [hW4, World.size_setCell]; exact Nat.le_refl _) (fun b hb hN => ⟨?_, hN⟩)
            have hne : b ≠ w.heap.size + 1 + 1 + 1 := by have : wo.heap.size ≤ b := hN; omega
            rw [hW4, heap_setCell_other _ _ _ _ hne])
          have hb4 : Below w.heap.size w W4 := by rw [hW4]; (repeat (with_reducible first | exact Below.refl _ _ | assumption | refine Below.drewN _ ?_ | refine Below.drew ?_ | refine Below_alloc ?_ _ | refine Below.alloc ?_ (by first | (simp; done) | (simp; omega) | omega) _ | refine Below.setCell ?_ (by first | (simp; done) | (simp; omega) | omega) _ | refine Below_call ?_ (by assumption) | refine Below.trans ?_ (by assumption)))
          have hb4' : Below W.heap.size W W4 := by rw [hW4]; refine Below.setCell ((HBEL.out.trans (hbx4.mono (by omega)))) (by simp; omega) _
          have hz4 : W4.heap.size = wr.heap.size := by rw [hW4, World.size_setCell]
          have HOW4 : Hid (W4.ownsRow (w.heap.size + 1 + 1 + 1) 3 1 (.slice (some ⟨w.heap.size + 1 + 1 + 1, 0, none⟩) la.length la.length) la.length ((qs.set m (lo : Int)).map (Value.int .i64))) := hid (by rw [hW4, List.map_set]; exact (hown3.stored m _).1)
          have hlen : (dig X).length ≤ 100000 := by
            have h1 := HXB.out
            have h2 : (dig X).length ≤ (dig yn).length + 1 := dlen (by simp only [dpw]; have := dig_high yn; omega)
            have := HY.out.2
            omega
          have HSUB : Hid (∀ (W' : World) (u : Value), IntsAt W' u (dig ((yn : Int) * (lo : Int)).natAbs) → Below W4.heap.size W4 W' → Calls Try.prog 151 #[.slice ao1 (dig X).length c1, u] W' fun e w' => ∃ r, e = .returned r ∧ DigIn w' r (dig (X - yn * lo)) (fun b => W'.heap.size ≤ b) ∧ Below W'.heap.size W' w') := hid (fun W' u h1 h2 => by
            have e : ((yn : Int) * (lo : Int)).natAbs = yn * lo := by rw [← Int.natCast_mul, Int.natAbs_natCast]
            rw [e] at h1
            exact base_subDigits X (yn * lo) _ _ W' (HLEFT4.out.ints.below h2) h1 (by have := HLH.out.1; rw [Nat.mul_comm]; exact this) (by omega))
          have HNEW : Hid (isD (qs.set m (lo : Int)) ∧ dval ((qs.set m (lo : Int)).drop m) * yn + ((X - yn * lo : Nat) : Int) = dval (la.drop m) ∧ X - yn * lo < yn) := hid (by
            obtain ⟨x1, x2, x3⟩ := HX.out
            obtain ⟨l1, l2⟩ := HLH.out
            have f := floor_step (b := yn) (L := L) (d := d) (D := dval (la.drop (m + 1))) (Q := dval (qs.drop (m + 1))) (by have := HY.out.1; omega) ⟨by omega, by omega⟩ hdb x2 (lo := lo) (by rw [← HXX.out]; exact_mod_cast l1) (by rw [← HXX.out]; exact_mod_cast l2)
            have hcom : yn * lo = lo * yn := Nat.mul_comm _ _
            have hcast : ((X - yn * lo : Nat) : Int) = d + 1000000000 * (L : Int) - (lo : Int) * (yn : Int) := by rw [hcom, Int.ofNat_sub l1, ← HXX.out]; push_cast; rfl
            refine ⟨isD_set x1 _ ⟨by omega, by omega⟩, ?_, ?_⟩
            · rw [dval_drop_set (by omega), dval_drop hlm, ← HD.out, hcast]; exact f.1
            · have := f.2.2; omega)
          have hl9 : lo < 1000000000 := by omega
          have hgW4 : w.heap.size + 1 + 1 + 1 < W4.heap.size := by omega
          clear hown3 hoo
          go_wp2_with (first | (go_at_call 140; rw [← hW4]; refine (HBO.out _ (by (repeat (with_reducible first | exact Below.refl _ _ | assumption | refine Below.drewN _ ?_ | refine Below.drew ?_ | refine Below_alloc ?_ _ | refine Below.alloc ?_ (by first | (simp; done) | (simp; omega) | omega) _ | refine Below.setCell ?_ (by first | (simp; done) | (simp; omega) | omega) _ | refine Below_call ?_ (by assumption) | refine Below.trans ?_ (by assumption))))).mono ?_; rintro _ w3 ⟨rfl, hb3⟩) | (go_at_call 126; refine (base_WideOf lo _ (fun _ => True) (fun _ _ => trivial) (by omega) (by omega)).mono ?_; rintro _ w4 ⟨r, rfl, hwr, hb4⟩; obtain ⟨ro, rn, rc, rfl⟩ := hwr.shape; have HWR := hid hwr; clear hwr) | (go_at_call 137; refine (HMU.out _ _ lo (by (repeat (with_reducible first | exact Below.refl _ _ | assumption | refine Below.drewN _ ?_ | refine Below.drew ?_ | refine Below_alloc ?_ _ | refine Below.alloc ?_ (by first | (simp; done) | (simp; omega) | omega) _ | refine Below.setCell ?_ (by first | (simp; done) | (simp; omega) | omega) _ | refine Below_call ?_ (by assumption) | refine Below.trans ?_ (by assumption)))) HWR.out hl9).mono ?_; rintro _ w5 ⟨r2, rfl, ⟨po, pc, rfl, hdp⟩, hb5⟩; have HDP := hid hdp; clear hdp) | (go_at_call 151; refine (HSUB.out _ _ HDP.out.ints (by (repeat (with_reducible first | exact Below.refl _ _ | assumption | refine Below.drewN _ ?_ | refine Below.drew ?_ | refine Below_alloc ?_ _ | refine Below.alloc ?_ (by first | (simp; done) | (simp; omega) | omega) _ | refine Below.setCell ?_ (by first | (simp; done) | (simp; omega) | omega) _ | refine Below_call ?_ (by assumption) | refine Below.trans ?_ (by assumption))))).mono ?_; rintro _ w6 ⟨r3, rfl, hd6, hb6⟩; obtain ⟨ro3, rc3, rfl⟩ := hd6.shape; have HD6 := hid hd6; clear hd6))
          have s3 := hb3.size
          have s4 := hb4.size
          have s5 := hb5.size
          go_roundw
          case rel => exact ⟨m, X - yn * lo, qs.set m lo, by omega, rfl, by simp [hql], HNEW, HD6.out.mono (Below.refl _ _) (fun b _ h => Nat.lt_of_lt_of_le (show w.heap.size + 1 + 1 + 1 < w5.heap.size by omega) h), ownsRow_keep (B := W4.heap.size) HOW4.out (fun g hg => by cases hg; exact hgW4) (by (repeat (with_reducible first | exact Below.refl _ _ | assumption | refine Below.drewN _ ?_ | refine Below.drew ?_ | refine Below_alloc ?_ _ | refine Below.alloc ?_ (by first | (simp; done) | (simp; omega) | omega) _ | refine Below.setCell ?_ (by first | (simp; done) | (simp; omega) | omega) _ | refine Below_call ?_ (by assumption) | refine Below.trans ?_ (by assumption)))), by (repeat (with_reducible first | exact Below.refl _ _ | assumption | refine Below.drewN _ ?_ | refine Below.drew ?_ | refine Below_alloc ?_ _ | refine Below.alloc ?_ (by first | (simp; done) | (simp; omega) | omega) _ | refine Below.setCell ?_ (by first | (simp; done) | (simp; omega) | omega) _ | refine Below_call ?_ (by assumption) | refine Below.trans ?_ (by assumption)))⟩
          case measure => simp [intOf]
end Go.Proofs.Ytlmdmpjfehpjeaa

