/- Texts of this claim, together. -/
import Derived.Test.YtkifmfmenobhnaaCR7

set_option linter.unusedVariables false
set_option linter.unusedSimpArgs false
namespace Go.Proofs.Ytkifmfmenobhnaa
open Go.RowKit Ev
def rcV (c : Cab) (l : List Png) : List Int := if badI c l ≥ 0 then [badI c l] else prL c l
def rtV (c : Cab) (l : List Png) : List Rg := if badI c l < 0 then allT c l else []
def rnB (c : Cab) (l : List Png) (t : Int) : Bool := decide ((cnR c l t).lo ≤ (cnR c l t).hi)
def rnR (c : Cab) (l : List Png) (t : Int) : Rg := if rnB c l t = true then cnR c l t else ⟨0, 0⟩
theorem bad_at {c : Cab} {l : List Png} {k : Nat} (hk : k < l.length) (h : ∀ j, j < k → canB c (pngAt l j) = true) (g : canB c (pngAt l k) = false) : badI c l = k :=
 idxP_at (d := Png.zero) hk (fun j hj => by have := h j hj; simpa [pngAt] using this) (by simpa [pngAt] using g)
theorem bad_end {c : Cab} {l : List Png} (h : ∀ j, j < l.length → canB c (pngAt l j) = true) : badI c l = -1 :=
 idxP_none (d := Png.zero) fun j hj => by have := h j hj; simpa [pngAt] using this
theorem ap_eq {c : Cab} {p q : Png} (h : c.ok) (hp : c.can p) (hq : c.can q) : (decide ((tmR c q).hi < (byR c p q.arr).lo) || decide ((byR c p q.arr).hi < (tmR c q).lo)) = apB c p q := by
 have d1 := delay_ok h hp
 have d2 := delay_ok h hq
 have s := slack_nn (n := q.arr - p.arr) h.1
 have b : c.blo p q.arr ≤ c.bhi p q.arr := by unfold Cab.blo Cab.bhi; omega
 unfold apB tmR byR
 rw [Bool.eq_iff_iff, Bool.or_eq_true, decide_eq_true_eq, decide_eq_true_eq, decide_eq_true_eq]
 simp only
 omega
def mk_ref01_CheckTrack_0 (c0 : Int) (c1 : Int) (l : List Png) (v0_0 : Int) : DS := ⟨[none, some (.t (.c (.p 1 0))), none, none, none, some (.t (.c (.v (.int .i64 v0_0)))), none, none, none, none, none, none, none, none, none, none, none, none, none, none, none, none, none, none, none, none, none, none, none, none, none, none, none, none, none, none, none, none, none, none, none, none, none, none, none, none, none, none, none, none, none, none, none, none, none, none, none, none, none, none, none, none, none, none, none, none, none, none, none, none, none, none, none], [none, some (.box 74 [.v (.int .i64 c0), .v (.int .i64 c1), .sl 4 l.length (pngsC l)]), none, none, none, none, none, none, none, none, none, none, none, none, none, none, none, none, none, none, none, none, none, none, none, none, none, none, none, none, none, none, none, none, none, none, none, none, none, none, none, none, none, none, none, none, none, none, none, none, none, none, none, none, none, none, none, none, none, none, none, none, none, none, none, none, none, none, none, none, none, none, none]⟩
def vc_ref01_CheckTrack (J : Inv) (c0 : Int) (c1 : Int) (l : List Png) (post : DV → Prop) : Prop := cond ((cabE (⟨c0, c1⟩ : Cab)) != (0 : Int)) (post (.tu [.c (.v (.int .i64 0)), .c (.v (.int .i64 (cabE (⟨c0, c1⟩ : Cab))))])) (cond (((l.length : Nat) : Int) == (0 : Int)) (post (.tu [.c (.v (.int .i64 0)), .c (.v (.int .i64 10))])) (cond (decide (((l.length : Nat) : Int) > (12 : Int))) (post (.tu [.c (.v (.int .i64 0)), .c (.v (.int .i64 8))])) (∃ n, J 0 (n :: []) (mk_ref01_CheckTrack_0 c0 c1 l 0))))
def ann_ref01_CheckTrack : Ann := ⟨fun r => lookA r [(14, ([[], [0], [0, 1], [0, 1, 2], [0, 1, 2, 3], [0, 1, 2], [0, 1, 2, 3, 4, 5], [0, 1, 2, 3, 4, 5, 6], [0, 1, 2, 3, 4, 5, 6, 7], [0, 1, 2], [0, 1, 2, 9], [0, 1, 2], [0, 1, 2, 11], [0, 1, 2, 9, 10, 11, 12], [0, 1, 2, 9, 10, 11, 12, 13], [0, 1, 2, 9, 10, 11, 12, 13, 14], [0, 1, 2, 3, 4, 5, 6, 7, 8, 9, 10, 11, 12, 13, 14, 15], [0, 1, 2, 3, 4, 5, 6, 7, 8, 9, 10, 11, 12, 13, 14, 15, 16], [0, 1, 2, 3, 4, 5, 6, 7, 8, 9, 10, 11, 12, 13, 14, 15, 16, 17], [0, 1, 2, 3, 4, 5, 6, 7, 8, 9, 10, 11, 12, 13, 14, 15, 16, 17, 18], [0, 1, 2, 3, 4, 5, 6, 7, 8, 9, 10, 11, 12, 13, 14, 15, 16, 17], [0, 1, 2, 3, 4, 5, 6, 7, 8, 9, 10, 11, 12, 13, 14, 15, 16, 17, 18, 19, 20], [0, 1, 2, 3, 4, 5, 6, 7, 8, 9, 10, 11, 12, 13, 14, 15, 16, 17, 18, 19, 20, 21], [0, 1, 2, 3, 4, 5, 6, 7, 8, 9, 10, 11, 12, 13, 14, 15, 16, 17, 18, 19, 20, 21, 22], [0, 1, 2, 3, 4, 5, 6, 7, 8, 9, 10, 11, 12, 13, 14, 15, 16, 17], [0, 1, 2, 3, 4, 5, 6, 7, 8, 9, 10, 11, 12, 13, 14, 15, 16, 17, 24], [0, 1, 2, 3, 4, 5, 6, 7, 8, 9, 10, 11, 12, 13, 14, 15, 16, 17], [0, 1, 2, 3, 4, 5, 6, 7, 8, 9, 10, 11, 12, 13, 14, 15, 16, 17, 26], [0, 1, 2, 3, 4, 5, 6, 7, 8, 9, 10, 11, 12, 13, 14, 15, 16, 17, 24, 25, 26, 27], [0, 1, 2, 3, 4, 5, 6, 7, 8, 9, 10, 11, 12, 13, 14, 15, 16, 17, 24, 25, 26, 27, 28], [0, 1, 2, 3, 4, 5, 6, 7, 8, 9, 10, 11, 12, 13, 14, 15, 16, 17, 24, 25, 26, 27, 28, 29], [0, 1, 2, 3, 4, 5, 6, 7, 8, 9, 10, 11, 12, 13, 14, 15, 16, 17, 18, 19, 20, 21, 22, 23, 24, 25, 26, 27, 28, 29, 30], [0, 1, 2, 3, 4, 5, 6, 7, 8, 9, 10, 11, 12, 13, 14, 15, 16, 17, 18, 19, 20, 21, 22, 23, 24, 25, 26, 27, 28, 29, 30, 31], [0, 1, 2, 3, 4, 5, 6, 7, 8, 9, 10, 11, 12, 13, 14, 15, 16, 17, 18, 19, 20, 21, 22, 23, 24, 25, 26, 27, 28, 29, 30, 31, 32]], [[], [], [], [], [], [], [], [], [], [], [], [], [], [], [], [], [], [], [], [], [], [], [], [], [], [], [], [], [], [], [], [], [], []]))], fun b => lookA b [(0, (none, some ⟨[1, 5], [1], []⟩))], fun _ => [], noIt, false, fun r => lookA r [(14, (3, [71]))], fun _ => none⟩
theorem ev_ref01_CheckTrack (J : Inv) (c0 : Int) (c1 : Int) (l : List Png) (post : DV → Prop) : evFn Try.prog tab Sb39 ann_ref01_CheckTrack J Try.f50 [.t (.a [.v (.int .i64 c0), .v (.int .i64 c1), .sl 4 l.length (pngsC l)])] post = vc_ref01_CheckTrack J c0 c1 l post := by kernel_rfl
theorem fit_ref01_CheckTrack : okFn ann_ref01_CheckTrack Try.f50 = true := by kernel_rfl
def rd_ref01_CheckTrack_0 (J : Inv) (c0 : Int) (c1 : Int) (l : List Png) (v0_0 : Int) (nn0 : Nat) (post : DV → Prop) : Prop := cond (decide (v0_0 < ((l.length : Nat) : Int))) ((0 ≤ v0_0 ∧ v0_0 < ((l.length : Nat) : Int)) ∧ (cond ((pngE (pngAt l v0_0.toNat)) != (0 : Int)) (post (.tu [.c (.v (.int .i64 v0_0)), .c (.v (.int .i64 (pngE (pngAt l v0_0.toNat))))])) ((cond (decide (v0_0 > (0 : Int))) ((0 ≤ v0_0 ∧ v0_0 < ((l.length : Nat) : Int)) ∧ (lt (IntKind.i64.wrap (v0_0 - (1 : Int))) fun x3 => (0 ≤ x3 ∧ x3 < ((l.length : Nat) : Int)) ∧ (cond (decide (((pngAt l v0_0.toNat).sent) < ((pngAt l x3.toNat).back))) ((true = true) ∧ (True)) ((0 ≤ v0_0 ∧ v0_0 < ((l.length : Nat) : Int)) ∧ (lt (IntKind.i64.wrap (v0_0 - (1 : Int))) fun x4 => (0 ≤ x4 ∧ x4 < ((l.length : Nat) : Int)) ∧ (True)))))) ((false = false) ∧ (True))) ∧ (lt ((bif decide (v0_0 > (0 : Int)) then (bif decide (((pngAt l v0_0.toNat).sent) < ((pngAt l ((IntKind.i64.wrap (v0_0 - (1 : Int))).toNat)).back)) then true else decide (((pngAt l v0_0.toNat).arr) < ((pngAt l ((IntKind.i64.wrap (v0_0 - (1 : Int))).toNat)).ans))) else false)) fun x5 => cond x5 (post (.tu [.c (.v (.int .i64 v0_0)), .c (.v (.int .i64 9))])) (lt (IntKind.i64.wrap (v0_0 + (1 : Int))) fun x6 => J 0 (nn0 :: []) (mk_ref01_CheckTrack_0 c0 c1 l x6)))))) (post (.tu [.c (.v (.int .i64 0)), .c (.v (.int .i64 0))]))
theorem er_ref01_CheckTrack_0 (J : Inv) (c0 : Int) (c1 : Int) (l : List Png) (v0_0 : Int) (nn0 : Nat) (post : DV → Prop) : round Try.prog tab Sb39 ann_ref01_CheckTrack J Try.f50 post 0 (nn0 :: []) (mk_ref01_CheckTrack_0 c0 c1 l v0_0) = rd_ref01_CheckTrack_0 J c0 c1 l v0_0 nn0 post := by kernel_rfl
theorem lp_ref01_CheckTrack (J : Inv) (post : DV → Prop) : AllG J (loopsFn Try.prog tab Sb39 ann_ref01_CheckTrack J Try.f50 post) = (((∀ F s, ¬ J 0 (0 :: F) s) ∧ ∀ n F s, J 0 ((n + 1) :: F) s → round Try.prog tab Sb39 ann_ref01_CheckTrack J Try.f50 post 0 (n :: F) s) ∧ True) := by kernel_rfl
def J_ref01_CheckTrack (c0 : Int) (c1 : Int) (l : List Png) : Inv := fun b F s => match b, F with
 | 0, [nn0] => ∃ (v0_0 : Int), s = mk_ref01_CheckTrack_0 c0 c1 l v0_0 ∧ (hdE (⟨c0, c1⟩ : Cab) l = 0 ∧ 0 ≤ v0_0 ∧ v0_0 ≤ l.length ∧ (nn0 : Int) + v0_0 = l.length + 1 ∧ ∀ j : Nat, (j : Int) < v0_0 → stpE l j = 0)
 | _, _ => False
theorem rnd_ref01_CheckTrack_0 (c0 : Int) (c1 : Int) (l : List Png) (v0_0 : Int) (nn0 : Nat) (hi : hdE (⟨c0, c1⟩ : Cab) l = 0 ∧ 0 ≤ v0_0 ∧ v0_0 ≤ l.length ∧ ((nn0 + 1) : Int) + v0_0 = l.length + 1 ∧ ∀ j : Nat, (j : Int) < v0_0 → stpE l j = 0) : rd_ref01_CheckTrack_0 (J_ref01_CheckTrack c0 c1 l) c0 c1 l v0_0 nn0 (fun r => LeD r (.tu [.c (.v (.int .i64 (trI (⟨c0, c1⟩ : Cab) l))), .c (.v (.int .i64 (trE (⟨c0, c1⟩ : Cab) l)))])) := by
 obtain ⟨q, i1, i2, i3, i4⟩ := hi
 obtain ⟨k, rfl⟩ : ∃ k : Nat, v0_0 = k := ⟨v0_0.toNat, by omega⟩
 have hk : (k : Int).toNat = k := rfl
 have z := hdE_0.1 q
 have hw : (IntKind.i64.wrap ((k : Int) - 1)).toNat = k - 1 := by rw [wi (by omega)]; omega
 unfold rd_ref01_CheckTrack_0
 rw [hk, hw]
 refine cond_i (fun h => ?_) (fun h => ?_)
 ·have hlt : k < l.length := by have := of_decide_eq_true h; omega
  refine ⟨by omega, cond_i (fun g => ?_) (fun g => ⟨?_, lt_i fun x5 h5 => ?_⟩)⟩
  ·have g : pngE (pngAt l k) ≠ 0 := by simpa using g
   have e : stpE l k = pngE (pngAt l k) := by simp [stpE, firstNZ, g]
   have e2 : stpE l k ≠ 0 := by rw [e]; exact g
   exact le2 ((if_pos q).trans (scanI_at (fun j hj => i4 j (by omega)) hlt e2)).symm (e.symm.trans ((if_pos q).trans (scan_at (fun j hj => i4 j (by omega)) hlt e2)).symm)
  ·refine cond_i (fun g2 => ⟨by omega, lt_i fun x3 h3 => ?_⟩) (fun _ => ⟨rfl, trivial⟩)
   have g2 := of_decide_eq_true g2
   rw [wi (by omega)] at h3
   subst h3
   refine ⟨by omega, cond_i (fun _ => ⟨rfl, trivial⟩) (fun _ => ⟨by omega, lt_i fun x4 h4 => ⟨?_, trivial⟩⟩)⟩
   rw [wi (by omega)] at h4
   omega
  ·have g : pngE (pngAt l k) = 0 := by simpa using g
   have e : stpE l k = unl (!x5) 9 := by
    have e0 : stpE l k = unl (decide ((k : Int) = 0) || (decide ((pngAt l k).sent ≥ (pngAt l (k - 1)).back) && decide ((pngAt l k).arr ≥ (pngAt l (k - 1)).ans))) 9 := by
     unfold stpE
     rw [g]
     simp only [firstNZ]
     split <;> rename_i q2 <;> first | exact q2.symm | rfl | simp_all
    rw [e0, ← h5]
    congr 1
    rcases Nat.eq_zero_or_pos k with c | c
    ·subst c; rfl
    ·rw [decide_eq_true (show (k : Int) > 0 by omega), decide_eq_false (show ¬ (k : Int) = 0 by omega)]
     by_cases a : (pngAt l k).sent < (pngAt l (k - 1)).back
     ·rw [decide_eq_true a, decide_eq_false (by omega)]; rfl
     ·rw [decide_eq_false a, decide_eq_true (show (pngAt l k).sent ≥ (pngAt l (k - 1)).back by omega)]
      by_cases b : (pngAt l k).arr < (pngAt l (k - 1)).ans
      ·rw [decide_eq_true b, decide_eq_false (by omega)]; rfl
      ·rw [decide_eq_false b, decide_eq_true (show (pngAt l k).arr ≥ (pngAt l (k - 1)).ans by omega)]; rfl
   refine cond_i (fun c => ?_) (fun c => lt_i fun x hx => ?_)
   ·rw [c] at e
    have e2 : stpE l k ≠ 0 := by rw [e]; decide
    exact le2 ((if_pos q).trans (scanI_at (fun j hj => i4 j (by omega)) hlt e2)).symm (e.symm.trans ((if_pos q).trans (scan_at (fun j hj => i4 j (by omega)) hlt e2)).symm)
   ·rw [c] at e
    rw [wi (by omega)] at hx
    subst hx
    refine ⟨_, rfl, q, by omega, by omega, by omega, fun j hj => ?_⟩
    by_cases c : j = k
    ·rw [c]; exact e
    ·exact i4 j (by omega)
 ·have h := of_decide_eq_false h
  exact le2 ((if_pos q).trans (scanI_end fun j hj => i4 j (by omega))).symm ((if_pos q).trans (scan_end fun j hj => i4 j (by omega))).symm
theorem zero_ref01_CheckTrack_0 (c0 : Int) (c1 : Int) (l : List Png) (v0_0 : Int)  (hi : hdE (⟨c0, c1⟩ : Cab) l = 0 ∧ 0 ≤ v0_0 ∧ v0_0 ≤ l.length ∧ (0 : Int) + v0_0 = l.length + 1 ∧ ∀ j : Nat, (j : Int) < v0_0 → stpE l j = 0) : False := by
 omega
theorem spec_ref01_CheckTrack (c0 : Int) (c1 : Int) (l : List Png) : vc_ref01_CheckTrack (J_ref01_CheckTrack c0 c1 l) c0 c1 l (fun r => LeD r (.tu [.c (.v (.int .i64 (trI (⟨c0, c1⟩ : Cab) l))), .c (.v (.int .i64 (trE (⟨c0, c1⟩ : Cab) l)))])) := by
  unfold vc_ref01_CheckTrack
  refine cond_i (fun h => ?_) (fun h => cond_i (fun g => ?_) (fun g => cond_i (fun f => ?_) (fun f => ?_)))
  · have h : cabE (⟨c0, c1⟩ : Cab) ≠ 0 := by simpa using h
    have e : hdE (⟨c0, c1⟩ : Cab) l = cabE (⟨c0, c1⟩ : Cab) := by simp [hdE, firstNZ, h]
    have h2 : hdE (⟨c0, c1⟩ : Cab) l ≠ 0 := by rw [e]; exact h
    exact le2 (if_neg h2).symm (e.symm.trans (if_neg h2).symm)
  all_goals have h : cabE (⟨c0, c1⟩ : Cab) = 0 := by simpa using h
  · have g : l.length = 0 := by have : (l.length : Int) = 0 := by simpa using g
                                omega
    have e : hdE (⟨c0, c1⟩ : Cab) l = 10 := by simp [hdE, firstNZ, h, g, unl]
    have h2 : hdE (⟨c0, c1⟩ : Cab) l ≠ 0 := by rw [e]; decide
    exact le2 (if_neg h2).symm (e.symm.trans (if_neg h2).symm)
  all_goals
    have g : l.length ≠ 0 := by have : ¬ (l.length : Int) = 0 := by simpa using g
                                omega
  · have f := of_decide_eq_true f
    have e : hdE (⟨c0, c1⟩ : Cab) l = 8 := by
      unfold hdE
      rw [h, decide_eq_true (by omega), decide_eq_false (by omega)]
      rfl
    have h2 : hdE (⟨c0, c1⟩ : Cab) l ≠ 0 := by rw [e]; decide
    exact le2 (if_neg h2).symm (e.symm.trans (if_neg h2).symm)
  · have f := of_decide_eq_false f
    exact ⟨l.length + 1, 0, rfl, hdE_0.2 ⟨cabE_0.1 h, by omega, by omega⟩, by omega, by omega, by omega, fun j hj => by omega⟩
theorem all_ref01_CheckTrack (c0 : Int) (c1 : Int) (l : List Png) : AllG (J_ref01_CheckTrack c0 c1 l) (loopsFn Try.prog tab Sb39 ann_ref01_CheckTrack (J_ref01_CheckTrack c0 c1 l) Try.f50 (fun r => LeD r (.tu [.c (.v (.int .i64 (trI (⟨c0, c1⟩ : Cab) l))), .c (.v (.int .i64 (trE (⟨c0, c1⟩ : Cab) l)))]))) := by
 rw [lp_ref01_CheckTrack]
 refine ⟨⟨?_, ?_⟩, trivial⟩
 ·intro F s h
  obtain _ | ⟨g, F⟩ := F
  case cons => exact h.elim
  obtain ⟨w0, rfl, hi⟩ := h
  exact zero_ref01_CheckTrack_0 c0 c1 l w0 hi
 ·intro n F s h
  obtain _ | ⟨g, F⟩ := F
  case cons => exact h.elim
  obtain ⟨w0, rfl, hi⟩ := h
  rw [er_ref01_CheckTrack_0]
  exact rnd_ref01_CheckTrack_0 c0 c1 l _ _ hi
def con_ref01_CheckTrack : Con := fun args => match args with
 | [.t (.a [.v (.int .i64 c0), .v (.int .i64 c1), .sl 4 n_l c_l])] => some (.tu [.c (.v (.int .i64 (trI (⟨c0, c1⟩ : Cab) (listC n_l mkPng c_l)))), .c (.v (.int .i64 (trE (⟨c0, c1⟩ : Cab) (listC n_l mkPng c_l))))], some (numsP 4 n_l c_l), false)
 | _ => none
theorem ok_ref01_CheckTrack : Ok Try.prog 50 con_ref01_CheckTrack := by
 refine Ok.fn (ann := ann_ref01_CheckTrack) mixed tabOK VSb39 ValidIt.no (fn := Try.f50) (by kernel_rfl) (by kernel_rfl) fit_ref01_CheckTrack fun args r pre fresh h hp => ?_
 unfold con_ref01_CheckTrack at h
 split at h
 ·rename_i c0 c1 n_l c_l
  cases h
  have hp0 := hp
  refine ⟨rfl, J_ref01_CheckTrack c0 c1 (listC n_l mkPng c_l), [.t (.a [.v (.int .i64 c0), .v (.int .i64 c1), .sl 4 ((listC n_l mkPng c_l).length) (pngsC (listC n_l mkPng c_l))])], ?_, Nat.le_of_ble_eq_true (by kernel_rfl), ?_, ?_⟩
  ·exact (LeA_cons (leT_a (LeCs.cons (LeC1.refl _) (LeCs.cons (LeC1.refl _) (LeCs.cons ((leL_Png hp0)) LeCs.nil)))) LeA_nil)
  ·rw [ev_ref01_CheckTrack]; exact spec_ref01_CheckTrack c0 c1 (listC n_l mkPng c_l)
  ·exact all_ref01_CheckTrack c0 c1 (listC n_l mkPng c_l)
 ·cases h
def Sc40 : Sum := addS Sb39 50 con_ref01_CheckTrack
theorem VSc40 : Valid Try.prog Sc40 := Valid.add VSb39 ok_ref01_CheckTrack
def vc_ref01_TrackErr (c0 : Int) (c1 : Int) (l : List Png) (post : DV → Prop) : Prop := (numsP 4 l.length (pngsC l)) ∧ (post (.t (.c (.v (.int .i64 (trE (⟨c0, c1⟩ : Cab) (listC l.length mkPng (pngsC l))))))))
def ann_ref01_TrackErr : Ann := ⟨fun _ => none, fun _ => none, fun _ => [], noIt, false, fun _ => none, fun _ => none⟩
theorem ev_ref01_TrackErr (J : Inv) (c0 : Int) (c1 : Int) (l : List Png) (post : DV → Prop) : evFn Try.prog tab Sc40 ann_ref01_TrackErr J Try.f62 [.t (.a [.v (.int .i64 c0), .v (.int .i64 c1), .sl 4 l.length (pngsC l)])] post = vc_ref01_TrackErr c0 c1 l post := by kernel_rfl
theorem fit_ref01_TrackErr : okFn ann_ref01_TrackErr Try.f62 = true := by kernel_rfl
theorem lp_ref01_TrackErr (J : Inv) (post : DV → Prop) : AllG J (loopsFn Try.prog tab Sc40 ann_ref01_TrackErr J Try.f62 post) = (True) := by kernel_rfl
theorem spec_ref01_TrackErr (c0 : Int) (c1 : Int) (l : List Png) : vc_ref01_TrackErr c0 c1 l (fun r => LeD r (.t (.c (.v (.int .i64 (trE (⟨c0, c1⟩ : Cab) l)))))) := by
 unfold vc_ref01_TrackErr
 simp only [pngs_listC, rgs_listC, ints_listC]
 exact ⟨numsP_pngs l, LeD.refl _⟩
def con_ref01_TrackErr : Con := fun args => match args with
 | [.t (.a [.v (.int .i64 c0), .v (.int .i64 c1), .sl 4 n_l c_l])] => some (.t (.c (.v (.int .i64 (trE (⟨c0, c1⟩ : Cab) (listC n_l mkPng c_l))))), some (numsP 4 n_l c_l), false)
 | _ => none
theorem ok_ref01_TrackErr : Ok Try.prog 62 con_ref01_TrackErr := by
 refine Ok.fn (ann := ann_ref01_TrackErr) mixed tabOK VSc40 ValidIt.no (fn := Try.f62) (by kernel_rfl) (by kernel_rfl) fit_ref01_TrackErr fun args r pre fresh h hp => ?_
 unfold con_ref01_TrackErr at h
 split at h
 ·rename_i c0 c1 n_l c_l
  cases h
  have hp0 := hp
  refine ⟨rfl, fun _ _ _ => False, [.t (.a [.v (.int .i64 c0), .v (.int .i64 c1), .sl 4 ((listC n_l mkPng c_l).length) (pngsC (listC n_l mkPng c_l))])], ?_, Nat.le_of_ble_eq_true (by kernel_rfl), ?_, ?_⟩
  ·exact (LeA_cons (leT_a (LeCs.cons (LeC1.refl _) (LeCs.cons (LeC1.refl _) (LeCs.cons ((leL_Png hp0)) LeCs.nil)))) LeA_nil)
  ·rw [ev_ref01_TrackErr]; exact spec_ref01_TrackErr c0 c1 (listC n_l mkPng c_l)
  ·rw [lp_ref01_TrackErr]; trivial
 ·cases h
def Sc41 : Sum := addS Sc40 62 con_ref01_TrackErr
theorem VSc41 : Valid Try.prog Sc41 := Valid.add VSc40 ok_ref01_TrackErr
def mk_ref01_Times_0 (c0 : Int) (c1 : Int) (l : List Png) (v0_0 : List (List CV)) (v0_1 : Int) : DS := ⟨[none, some (.t (.c (.p 1 0))), none, none, some (.t (.c (.os 4))), some (.t (.c (.v (.int .i64 v0_1)))), none, none, none, none, none, none, none, none, none, none, none, none, none, none, none, none, none, none, none, none, none, none, none, none, none, none, none], [none, some (.box 74 [.v (.int .i64 c0), .v (.int .i64 c1), .sl 4 l.length (pngsC l)]), none, none, some (.gen 90 2 v0_0), none, none, none, none, none, none, none, none, none, none, none, none, none, none, none, none, none, none, none, none, none, none, none, none, none, none, none, none]⟩
def vc_ref01_Times (J : Inv) (c0 : Int) (c1 : Int) (l : List Png) (post : DV → Prop) : Prop := ∃ n, J 0 (n :: []) (mk_ref01_Times_0 c0 c1 l ([]) 0)
def ann_ref01_Times : Ann := ⟨fun r => lookA r [(5, ([[], [0], [], [2], [], [2, 3, 4], [2, 3, 4, 5], [0, 1, 2, 3, 4, 5, 6], [0, 1, 2, 3, 4, 5, 6, 7], [0, 1, 2, 3, 4, 5, 6, 7, 8], [0, 1, 2, 3, 4, 5, 6, 7, 8], [], [0, 1, 2, 3, 4, 5, 6, 7, 8, 9, 11], [0, 1, 2, 3, 4, 5, 6, 7, 8, 9, 10, 11, 12]], [[23, 6], [23, 6], [23, 6], [23, 6], [23, 6], [23, 6], [23, 6], [6], [6], [6], [6], [23], [], []]))], fun b => lookA b [(0, (none, some ⟨[1, 5], [1], [(4, .gen 90 2 [])]⟩))], fun _ => [], noIt, false, fun _ => none, fun _ => none⟩
theorem ev_ref01_Times (J : Inv) (c0 : Int) (c1 : Int) (l : List Png) (post : DV → Prop) : evFn Try.prog tab Sc41 ann_ref01_Times J Try.f51 [.t (.a [.v (.int .i64 c0), .v (.int .i64 c1), .sl 4 l.length (pngsC l)])] post = vc_ref01_Times J c0 c1 l post := by kernel_rfl
theorem fit_ref01_Times : okFn ann_ref01_Times Try.f51 = true := by kernel_rfl
def rd_ref01_Times_0 (J : Inv) (c0 : Int) (c1 : Int) (l : List Png) (v0_0 : List (List CV)) (v0_1 : Int) (nn0 : Nat) (post : DV → Prop) : Prop := cond (decide (v0_1 < ((l.length : Nat) : Int))) ((0 ≤ v0_1 ∧ v0_1 < ((l.length : Nat) : Int)) ∧ ((delOk (⟨c0, c1⟩ : Cab) (pngAt l v0_1.toNat)) ∧ (cond (!(canB (⟨c0, c1⟩ : Cab) (pngAt l v0_1.toNat))) (post (.tu [.c (.v (.slice none 0 0)), .c (.v (.bool false))])) ((roomP 16 (v0_0.length + ([[.v (.int .i64 ((tmK (⟨c0, c1⟩ : Cab) (pngAt l v0_1.toNat)).lo)), .v (.int .i64 ((tmK (⟨c0, c1⟩ : Cab) (pngAt l v0_1.toNat)).hi))]] : List (List CV)).length)) ∧ (lt (IntKind.i64.wrap (v0_1 + (1 : Int))) fun x1 => J 0 (nn0 :: []) (mk_ref01_Times_0 c0 c1 l (v0_0 ++ ([[.v (.int .i64 ((tmK (⟨c0, c1⟩ : Cab) (pngAt l v0_1.toNat)).lo)), .v (.int .i64 ((tmK (⟨c0, c1⟩ : Cab) (pngAt l v0_1.toNat)).hi))]] : List (List CV))) x1)))))) (post (.tu [.c (.sl 2 v0_0.length (genC v0_0)), .c (.v (.bool true))]))
theorem er_ref01_Times_0 (J : Inv) (c0 : Int) (c1 : Int) (l : List Png) (v0_0 : List (List CV)) (v0_1 : Int) (nn0 : Nat) (post : DV → Prop) : round Try.prog tab Sc41 ann_ref01_Times J Try.f51 post 0 (nn0 :: []) (mk_ref01_Times_0 c0 c1 l v0_0 v0_1) = rd_ref01_Times_0 J c0 c1 l v0_0 v0_1 nn0 post := by kernel_rfl
theorem lp_ref01_Times (J : Inv) (post : DV → Prop) : AllG J (loopsFn Try.prog tab Sc41 ann_ref01_Times J Try.f51 post) = (((∀ F s, ¬ J 0 (0 :: F) s) ∧ ∀ n F s, J 0 ((n + 1) :: F) s → round Try.prog tab Sc41 ann_ref01_Times J Try.f51 post 0 (n :: F) s) ∧ True) := by kernel_rfl
def J_ref01_Times (c0 : Int) (c1 : Int) (l : List Png) : Inv := fun b F s => match b, F with
 | 0, [nn0] => ∃ (v0_0 : List (List CV)) (v0_1 : Int), s = mk_ref01_Times_0 c0 c1 l v0_0 v0_1 ∧ (trOk (⟨c0, c1⟩ : Cab) l ∧ 0 ≤ v0_1 ∧ v0_1 ≤ l.length ∧ (nn0 : Int) + v0_1 = l.length + 1 ∧ (∀ j : Nat, (j : Int) < v0_1 → canB (⟨c0, c1⟩ : Cab) (pngAt l j) = true) ∧ v0_0 = ((l.take v0_1.toNat).map (tmR (⟨c0, c1⟩ : Cab))).map rgCv)
 | _, _ => False
theorem rnd_ref01_Times_0 (c0 : Int) (c1 : Int) (l : List Png) (v0_0 : List (List CV)) (v0_1 : Int) (nn0 : Nat) (hp : trOk (⟨c0, c1⟩ : Cab) l) (hi : trOk (⟨c0, c1⟩ : Cab) l ∧ 0 ≤ v0_1 ∧ v0_1 ≤ l.length ∧ ((nn0 + 1) : Int) + v0_1 = l.length + 1 ∧ (∀ j : Nat, (j : Int) < v0_1 → canB (⟨c0, c1⟩ : Cab) (pngAt l j) = true) ∧ v0_0 = ((l.take v0_1.toNat).map (tmR (⟨c0, c1⟩ : Cab))).map rgCv) : rd_ref01_Times_0 (J_ref01_Times c0 c1 l) c0 c1 l v0_0 v0_1 nn0 (fun r => LeD r (.tu [.c (.sl 2 ((rtV (⟨c0, c1⟩ : Cab) l).length) (rgsC (rtV (⟨c0, c1⟩ : Cab) l))), .c (.v (.bool (decide (badI (⟨c0, c1⟩ : Cab) l < 0))))])) := by
 obtain ⟨z, i1, i2, i3, i4, i5⟩ := hi
 obtain ⟨k, rfl⟩ : ∃ k : Nat, v0_1 = k := ⟨v0_1.toNat, by omega⟩
 have hk : (k : Int).toNat = k := rfl
 have z2 := z.2.1
 rw [hk] at i5
 unfold rd_ref01_Times_0
 rw [hk]
 refine cond_i (fun h => ?_) (fun h => ?_)
 ·have hlt : k < l.length := by have := of_decide_eq_true h; omega
  have hd := z.del hlt
  refine ⟨by omega, hd, cond_i (fun g => ?_) (fun g => ⟨?_, lt_i fun x hx => ?_⟩)⟩
  ·have g : canB (⟨c0, c1⟩ : Cab) (pngAt l k) = false := by simpa using g
   have e1 := bad_at hlt (fun j hj => i4 j (by omega)) g
   rw [show rtV (⟨c0, c1⟩ : Cab) l = [] from if_neg (by omega), decide_eq_false (show ¬ badI (⟨c0, c1⟩ : Cab) l < 0 by omega)]
   exact le_tu le_nil (LeD.refl _)
  ·rw [i5]; unfold roomP maxLen; simp; omega
  ·have g : canB (⟨c0, c1⟩ : Cab) (pngAt l k) = true := by simpa using g
   rw [wi (by omega)] at hx
   subst hx
   refine ⟨_, _, rfl, z, by omega, by omega, by omega, fun j hj => ?_, ?_⟩
   ·by_cases c : j = k
    ·rw [c]; exact g
    ·exact i4 j (by omega)
   ·rw [show ((k : Int) + 1).toNat = k + 1 by omega, pngAt_take hlt, List.map_append, List.map_append, i5, show tmK (⟨c0, c1⟩ : Cab) (pngAt l k) = tmR (⟨c0, c1⟩ : Cab) (pngAt l k) by unfold tmK; rw [g]; rfl]
    rfl
 ·have h := of_decide_eq_false h
  have e : k = l.length := by omega
  have e1 := bad_end (c := (⟨c0, c1⟩ : Cab)) (l := l) fun j hj => i4 j (by omega)
  rw [show rtV (⟨c0, c1⟩ : Cab) l = allT (⟨c0, c1⟩ : Cab) l from if_pos (by omega), decide_eq_true (show badI (⟨c0, c1⟩ : Cab) l < 0 by omega), i5, e, List.take_length]
  exact le_tu (le_rgs _) (LeD.refl _)
theorem zero_ref01_Times_0 (c0 : Int) (c1 : Int) (l : List Png) (v0_0 : List (List CV)) (v0_1 : Int)  (hi : trOk (⟨c0, c1⟩ : Cab) l ∧ 0 ≤ v0_1 ∧ v0_1 ≤ l.length ∧ (0 : Int) + v0_1 = l.length + 1 ∧ (∀ j : Nat, (j : Int) < v0_1 → canB (⟨c0, c1⟩ : Cab) (pngAt l j) = true) ∧ v0_0 = ((l.take v0_1.toNat).map (tmR (⟨c0, c1⟩ : Cab))).map rgCv) : False := by
 omega
theorem spec_ref01_Times (c0 : Int) (c1 : Int) (l : List Png) (hp : trOk (⟨c0, c1⟩ : Cab) l) : vc_ref01_Times (J_ref01_Times c0 c1 l) c0 c1 l (fun r => LeD r (.tu [.c (.sl 2 ((rtV (⟨c0, c1⟩ : Cab) l).length) (rgsC (rtV (⟨c0, c1⟩ : Cab) l))), .c (.v (.bool (decide (badI (⟨c0, c1⟩ : Cab) l < 0))))])) := by
 unfold vc_ref01_Times
 exact ⟨l.length + 1, [], 0, rfl, hp, by omega, by omega, by omega, fun j hj => by omega, rfl⟩
theorem all_ref01_Times (c0 : Int) (c1 : Int) (l : List Png) (hp : trOk (⟨c0, c1⟩ : Cab) l) : AllG (J_ref01_Times c0 c1 l) (loopsFn Try.prog tab Sc41 ann_ref01_Times (J_ref01_Times c0 c1 l) Try.f51 (fun r => LeD r (.tu [.c (.sl 2 ((rtV (⟨c0, c1⟩ : Cab) l).length) (rgsC (rtV (⟨c0, c1⟩ : Cab) l))), .c (.v (.bool (decide (badI (⟨c0, c1⟩ : Cab) l < 0))))]))) := by
 rw [lp_ref01_Times]
 refine ⟨⟨?_, ?_⟩, trivial⟩
 ·intro F s h
  obtain _ | ⟨g, F⟩ := F
  case cons => exact h.elim
  obtain ⟨w0, w1, rfl, hi⟩ := h
  exact zero_ref01_Times_0 c0 c1 l w0 w1 hi
 ·intro n F s h
  obtain _ | ⟨g, F⟩ := F
  case cons => exact h.elim
  obtain ⟨w0, w1, rfl, hi⟩ := h
  rw [er_ref01_Times_0]
  exact rnd_ref01_Times_0 c0 c1 l _ _ _ hp hi
def con_ref01_Times : Con := fun args => match args with
 | [.t (.a [.v (.int .i64 c0), .v (.int .i64 c1), .sl 4 n_l c_l])] => some (.tu [.c (.sl 2 ((rtV (⟨c0, c1⟩ : Cab) (listC n_l mkPng c_l)).length) (rgsC (rtV (⟨c0, c1⟩ : Cab) (listC n_l mkPng c_l)))), .c (.v (.bool (decide (badI (⟨c0, c1⟩ : Cab) (listC n_l mkPng c_l) < 0))))], some (numsP 4 n_l c_l ∧ trOk (⟨c0, c1⟩ : Cab) (listC n_l mkPng c_l)), false)
 | _ => none
theorem ok_ref01_Times : Ok Try.prog 51 con_ref01_Times := by
 refine Ok.fn (ann := ann_ref01_Times) mixed tabOK VSc41 ValidIt.no (fn := Try.f51) (by kernel_rfl) (by kernel_rfl) fit_ref01_Times fun args r pre fresh h hp => ?_
 unfold con_ref01_Times at h
 split at h
 ·rename_i c0 c1 n_l c_l
  cases h
  obtain ⟨hp0, hp⟩ := hp
  refine ⟨rfl, J_ref01_Times c0 c1 (listC n_l mkPng c_l), [.t (.a [.v (.int .i64 c0), .v (.int .i64 c1), .sl 4 ((listC n_l mkPng c_l).length) (pngsC (listC n_l mkPng c_l))])], ?_, Nat.le_of_ble_eq_true (by kernel_rfl), ?_, ?_⟩
  ·exact (LeA_cons (leT_a (LeCs.cons (LeC1.refl _) (LeCs.cons (LeC1.refl _) (LeCs.cons ((leL_Png hp0)) LeCs.nil)))) LeA_nil)
  ·rw [ev_ref01_Times]; exact spec_ref01_Times c0 c1 (listC n_l mkPng c_l) hp
  ·exact all_ref01_Times c0 c1 (listC n_l mkPng c_l) hp
 ·cases h
def Sc42 : Sum := addS Sc41 51 con_ref01_Times
theorem VSc42 : Valid Try.prog Sc42 := Valid.add VSc41 ok_ref01_Times
def vc_ref01_By (c0 : Int) (c1 : Int) (l : List Png) (i : Int) (ct : Int) (post : DV → Prop) : Prop := (0 ≤ i ∧ i < ((l.length : Nat) : Int)) ∧ ((delOk (⟨c0, c1⟩ : Cab) (pngAt l i.toNat)) ∧ ((0 ≤ i ∧ i < ((l.length : Nat) : Int)) ∧ (lt (IntKind.i64.wrap (ct - ((pngAt l i.toNat).arr))) fun x1 => (0 ≤ c0 ∧ c0 ≤ 1000 ∧ -4000000000000 ≤ x1 ∧ x1 ≤ 4000000000000) ∧ (lt (IntKind.i64.wrap (((tmK (⟨c0, c1⟩ : Cab) (pngAt l i.toNat)).lo) + x1)) fun x2 => lt (IntKind.i64.wrap (x2 - (slackI c0 x1))) fun x3 => lt (IntKind.i64.wrap (((tmK (⟨c0, c1⟩ : Cab) (pngAt l i.toNat)).hi) + x1)) fun x4 => lt (IntKind.i64.wrap (x4 + (slackI c0 x1))) fun x5 => post (.t (.a [.v (.int .i64 x3), .v (.int .i64 x5)]))))))
def ann_ref01_By : Ann := ⟨fun r => lookA r [(1, ([[], [0], [], [2], [], [2, 3, 4], [2, 3, 4, 5], [0, 1, 2, 3, 4, 5, 6], [0, 1, 2, 3, 4, 5, 6, 7], [0, 1, 2, 3, 4, 5, 6, 7, 8], [0, 1, 2, 3, 4, 5, 6, 7, 8], [], [0, 1, 2, 3, 4, 5, 6, 7, 8, 9, 11], [0, 1, 2, 3, 4, 5, 6, 7, 8, 9, 10, 11, 12]], [[19, 7], [19, 7], [19, 7], [19, 7], [19, 7], [19, 7], [19, 7], [7], [7], [7], [7], [19], [], []]))], fun _ => none, fun _ => [], noIt, false, fun _ => none, fun _ => none⟩
theorem ev_ref01_By (J : Inv) (c0 : Int) (c1 : Int) (l : List Png) (i : Int) (ct : Int) (post : DV → Prop) : evFn Try.prog tab Sc42 ann_ref01_By J Try.f103 [.t (.a [.v (.int .i64 c0), .v (.int .i64 c1), .sl 4 l.length (pngsC l)]), .t (.c (.v (.int .i64 i))), .t (.c (.v (.int .i64 ct)))] post = vc_ref01_By c0 c1 l i ct post := by kernel_rfl
theorem fit_ref01_By : okFn ann_ref01_By Try.f103 = true := by kernel_rfl
theorem lp_ref01_By (J : Inv) (post : DV → Prop) : AllG J (loopsFn Try.prog tab Sc42 ann_ref01_By J Try.f103 post) = (True) := by kernel_rfl
theorem spec_ref01_By (c0 : Int) (c1 : Int) (l : List Png) (i : Int) (ct : Int) (hp : (trOk (⟨c0, c1⟩ : Cab) l ∧ (∀ i, i < (l).length → canB (⟨c0, c1⟩ : Cab) (pngAt l i) = true)) ∧ (0 ≤ i ∧ i < (l).length) ∧ 0 ≤ ct ∧ ct ≤ 1000000000000) : vc_ref01_By c0 c1 l i ct (fun r => LeD r (.t (.a [.v (.int .i64 ((byR (⟨c0, c1⟩ : Cab) (pngAt l i.toNat) ct).lo)), .v (.int .i64 ((byR (⟨c0, c1⟩ : Cab) (pngAt l i.toNat) ct).hi))]))) := by
 obtain ⟨⟨z, z1⟩, ⟨i1, i2⟩, n1, n2⟩ := hp
 obtain ⟨k, rfl⟩ : ∃ k : Nat, i = k := ⟨i.toNat, by omega⟩
 have hk : (k : Int).toNat = k := rfl
 have hlt : k < l.length := by omega
 have hd := z.del hlt
 have r := del_rg hd
 have b := by_rg hd ⟨n1, by omega⟩
 have hq := hd.2
 have hc := hd.1
 unfold pngOk at hq
 unfold cabOk at hc
 simp only at hc
 have b2 := b.2.1
 simp only at b2
 unfold vc_ref01_By
 rw [hk, show tmK (⟨c0, c1⟩ : Cab) (pngAt l k) = tmR (⟨c0, c1⟩ : Cab) (pngAt l k) by unfold tmK; rw [z1 k hlt]; rfl]
 have t1 : (tmR (⟨c0, c1⟩ : Cab) (pngAt l k)).lo = (pngAt l k).sent + ((⟨c0, c1⟩ : Cab)).dlo (pngAt l k) := rfl
 have t2 : (tmR (⟨c0, c1⟩ : Cab) (pngAt l k)).hi = (pngAt l k).sent + ((⟨c0, c1⟩ : Cab)).dhi (pngAt l k) := rfl
 refine ⟨by omega, hd, by omega, lt_i fun x1 h1 => ⟨?_, lt_i fun x2 h2 => lt_i fun x3 h3 => lt_i fun x4 h4 => lt_i fun x5 h5 => ?_⟩⟩
 all_goals
  rw [wi (by omega)] at h1
  subst h1
 ·omega
 ·rw [wi (by omega)] at h2 h4
  subst h2 h4
  rw [wi (by omega)] at h3 h5
  subst h3 h5
  unfold byR Cab.blo Cab.bhi tmR
  exact LeD.refl _
def con_ref01_By : Con := fun args => match args with
 | [.t (.a [.v (.int .i64 c0), .v (.int .i64 c1), .sl 4 n_l c_l]), .t (.c (.v (.int .i64 i))), .t (.c (.v (.int .i64 ct)))] => some (.t (.a [.v (.int .i64 ((byR (⟨c0, c1⟩ : Cab) (pngAt (listC n_l mkPng c_l) i.toNat) ct).lo)), .v (.int .i64 ((byR (⟨c0, c1⟩ : Cab) (pngAt (listC n_l mkPng c_l) i.toNat) ct).hi))]), some (numsP 4 n_l c_l ∧ (trOk (⟨c0, c1⟩ : Cab) (listC n_l mkPng c_l) ∧ (∀ i, i < ((listC n_l mkPng c_l)).length → canB (⟨c0, c1⟩ : Cab) (pngAt (listC n_l mkPng c_l) i) = true)) ∧ (0 ≤ i ∧ i < ((listC n_l mkPng c_l)).length) ∧ 0 ≤ ct ∧ ct ≤ 1000000000000), false)
 | _ => none
theorem ok_ref01_By : Ok Try.prog 103 con_ref01_By := by
 refine Ok.fn (ann := ann_ref01_By) mixed tabOK VSc42 ValidIt.no (fn := Try.f103) (by kernel_rfl) (by kernel_rfl) fit_ref01_By fun args r pre fresh h hp => ?_
 unfold con_ref01_By at h
 split at h
 ·rename_i c0 c1 n_l c_l i ct
  cases h
  obtain ⟨hp0, hp⟩ := hp
  refine ⟨rfl, fun _ _ _ => False, [.t (.a [.v (.int .i64 c0), .v (.int .i64 c1), .sl 4 ((listC n_l mkPng c_l).length) (pngsC (listC n_l mkPng c_l))]), .t (.c (.v (.int .i64 i))), .t (.c (.v (.int .i64 ct)))], ?_, Nat.le_of_ble_eq_true (by kernel_rfl), ?_, ?_⟩
  ·exact (LeA_cons (leT_a (LeCs.cons (LeC1.refl _) (LeCs.cons (LeC1.refl _) (LeCs.cons ((leL_Png hp0)) LeCs.nil)))) (LeA_cons (LeD.refl _) (LeA_cons (LeD.refl _) LeA_nil)))
  ·rw [ev_ref01_By]; exact spec_ref01_By c0 c1 (listC n_l mkPng c_l) i ct hp
  ·rw [lp_ref01_By]; trivial
 ·cases h
def Sc43 : Sum := addS Sc42 103 con_ref01_By
theorem VSc43 : Valid Try.prog Sc43 := Valid.add VSc42 ok_ref01_By
def mk_ref01_At_0 (c0 : Int) (c1 : Int) (l : List Png) (ct : Int) (v0_0 : Int) (v0_1 : Int) (v0_2 : Int) : DS := ⟨[none, some (.t (.c (.v (.int .i64 ct)))), some (.t (.c (.p 2 0))), none, some (.t (.c (.p 4 0))), some (.t (.c (.p 5 0))), some (.t (.c (.v (.int .i64 v0_2)))), none, none, none, none, none, none, none, none, none, none, none, none, none, none, none, none, none, none, none, none, none, none, none, none, none, none, none], [none, none, some (.box 74 [.v (.int .i64 c0), .v (.int .i64 c1), .sl 4 l.length (pngsC l)]), none, some (.box 90 [.v (.int .i64 0), .v (.int .i64 0)]), some (.box 90 [.v (.int .i64 v0_0), .v (.int .i64 v0_1)]), none, none, none, none, none, none, none, none, none, none, none, none, none, none, none, none, none, none, none, none, none, none, none, none, none, none, none, none]⟩
def vc_ref01_At (J : Inv) (c0 : Int) (c1 : Int) (l : List Png) (ct : Int) (post : DV → Prop) : Prop := (numsP 4 l.length (pngsC l) ∧ (trOk (⟨c0, c1⟩ : Cab) (listC l.length mkPng (pngsC l)) ∧ (∀ i, i < ((listC l.length mkPng (pngsC l))).length → canB (⟨c0, c1⟩ : Cab) (pngAt (listC l.length mkPng (pngsC l)) i) = true)) ∧ (0 ≤ (0 : Int) ∧ (0 : Int) < ((listC l.length mkPng (pngsC l))).length) ∧ 0 ≤ ct ∧ ct ≤ 1000000000000) ∧ (∃ n, J 0 (n :: []) (mk_ref01_At_0 c0 c1 l ct ((byR (⟨c0, c1⟩ : Cab) (pngAt (listC l.length mkPng (pngsC l)) (0 : Int).toNat) ct).lo) ((byR (⟨c0, c1⟩ : Cab) (pngAt (listC l.length mkPng (pngsC l)) (0 : Int).toNat) ct).hi) 1))
def ann_ref01_At : Ann := ⟨fun _ => none, fun b => lookA b [(0, (none, some ⟨[1, 2, 4, 5, 6], [2, 4, 5], []⟩))], fun _ => [], noIt, false, fun _ => none, fun _ => none⟩
theorem ev_ref01_At (J : Inv) (c0 : Int) (c1 : Int) (l : List Png) (ct : Int) (post : DV → Prop) : evFn Try.prog tab Sc43 ann_ref01_At J Try.f66 [.t (.a [.v (.int .i64 c0), .v (.int .i64 c1), .sl 4 l.length (pngsC l)]), .t (.c (.v (.int .i64 ct)))] post = vc_ref01_At J c0 c1 l ct post := by kernel_rfl
theorem fit_ref01_At : okFn ann_ref01_At Try.f66 = true := by kernel_rfl
def rd_ref01_At_0 (J : Inv) (c0 : Int) (c1 : Int) (l : List Png) (ct : Int) (v0_0 : Int) (v0_1 : Int) (v0_2 : Int) (nn0 : Nat) (post : DV → Prop) : Prop := cond (decide (v0_2 < ((l.length : Nat) : Int))) ((numsP 4 l.length (pngsC l) ∧ (trOk (⟨c0, c1⟩ : Cab) (listC l.length mkPng (pngsC l)) ∧ (∀ i, i < ((listC l.length mkPng (pngsC l))).length → canB (⟨c0, c1⟩ : Cab) (pngAt (listC l.length mkPng (pngsC l)) i) = true)) ∧ (0 ≤ v0_2 ∧ v0_2 < ((listC l.length mkPng (pngsC l))).length) ∧ 0 ≤ ct ∧ ct ≤ 1000000000000) ∧ (lt ((if ((byR (⟨c0, c1⟩ : Cab) (pngAt (listC l.length mkPng (pngsC l)) v0_2.toNat) ct).lo) > v0_0 then ((byR (⟨c0, c1⟩ : Cab) (pngAt (listC l.length mkPng (pngsC l)) v0_2.toNat) ct).lo) else v0_0)) fun x1 => lt ((if ((byR (⟨c0, c1⟩ : Cab) (pngAt (listC l.length mkPng (pngsC l)) v0_2.toNat) ct).hi) < v0_1 then ((byR (⟨c0, c1⟩ : Cab) (pngAt (listC l.length mkPng (pngsC l)) v0_2.toNat) ct).hi) else v0_1)) fun x2 => lt (IntKind.i64.wrap (v0_2 + (1 : Int))) fun x3 => J 0 (nn0 :: []) (mk_ref01_At_0 c0 c1 l ct x1 x2 x3))) (post (.t (.a [.v (.int .i64 v0_0), .v (.int .i64 v0_1)])))
theorem er_ref01_At_0 (J : Inv) (c0 : Int) (c1 : Int) (l : List Png) (ct : Int) (v0_0 : Int) (v0_1 : Int) (v0_2 : Int) (nn0 : Nat) (post : DV → Prop) : round Try.prog tab Sc43 ann_ref01_At J Try.f66 post 0 (nn0 :: []) (mk_ref01_At_0 c0 c1 l ct v0_0 v0_1 v0_2) = rd_ref01_At_0 J c0 c1 l ct v0_0 v0_1 v0_2 nn0 post := by kernel_rfl
theorem lp_ref01_At (J : Inv) (post : DV → Prop) : AllG J (loopsFn Try.prog tab Sc43 ann_ref01_At J Try.f66 post) = (((∀ F s, ¬ J 0 (0 :: F) s) ∧ ∀ n F s, J 0 ((n + 1) :: F) s → round Try.prog tab Sc43 ann_ref01_At J Try.f66 post 0 (n :: F) s) ∧ True) := by kernel_rfl
def J_ref01_At (c0 : Int) (c1 : Int) (l : List Png) (ct : Int) : Inv := fun b F s => match b, F with
 | 0, [nn0] => ∃ (v0_0 : Int) (v0_1 : Int) (v0_2 : Int), s = mk_ref01_At_0 c0 c1 l ct v0_0 v0_1 v0_2 ∧ (((trOk (⟨c0, c1⟩ : Cab) l ∧ ∀ i, i < l.length → canB (⟨c0, c1⟩ : Cab) (pngAt l i) = true) ∧ 0 ≤ ct ∧ ct ≤ 1000000000000) ∧ 1 ≤ v0_2 ∧ v0_2 ≤ l.length ∧ (nn0 : Int) + v0_2 = l.length + 1 ∧ (⟨v0_0, v0_1⟩ : Rg) = atK (⟨c0, c1⟩ : Cab) l ct (v0_2.toNat - 1))
 | _, _ => False
theorem rnd_ref01_At_0 (c0 : Int) (c1 : Int) (l : List Png) (ct : Int) (v0_0 : Int) (v0_1 : Int) (v0_2 : Int) (nn0 : Nat) (hp : (trOk (⟨c0, c1⟩ : Cab) l ∧ (∀ i, i < (l).length → canB (⟨c0, c1⟩ : Cab) (pngAt l i) = true)) ∧ 0 ≤ ct ∧ ct ≤ 1000000000000) (hi : ((trOk (⟨c0, c1⟩ : Cab) l ∧ ∀ i, i < l.length → canB (⟨c0, c1⟩ : Cab) (pngAt l i) = true) ∧ 0 ≤ ct ∧ ct ≤ 1000000000000) ∧ 1 ≤ v0_2 ∧ v0_2 ≤ l.length ∧ ((nn0 + 1) : Int) + v0_2 = l.length + 1 ∧ (⟨v0_0, v0_1⟩ : Rg) = atK (⟨c0, c1⟩ : Cab) l ct (v0_2.toNat - 1)) : rd_ref01_At_0 (J_ref01_At c0 c1 l ct) c0 c1 l ct v0_0 v0_1 v0_2 nn0 (fun r => LeD r (.t (.a [.v (.int .i64 ((atR (⟨c0, c1⟩ : Cab) l ct).lo)), .v (.int .i64 ((atR (⟨c0, c1⟩ : Cab) l ct).hi))]))) := by
 obtain ⟨q, i1, i2, i3, i4⟩ := hi
 obtain ⟨k, rfl⟩ : ∃ k : Nat, v0_2 = k := ⟨v0_2.toNat, by omega⟩
 have hk : (k : Int).toNat = k := rfl
 have z := q.1.1.2.1
 rw [hk] at i4
 unfold rd_ref01_At_0
 simp only [pngs_listC, rgs_listC, ints_listC]
 rw [hk]
 refine cond_i (fun h => ?_) (fun h => ?_)
 ·have hlt : k < l.length := by have := of_decide_eq_true h; omega
  refine ⟨⟨numsP_pngs l, q.1, by omega, q.2⟩, lt_i fun x1 h1 => lt_i fun x2 h2 => lt_i fun x hx => ?_⟩
  rw [wi (by omega)] at hx
  subst hx
  rw [mx_if] at h1
  rw [mn_if] at h2
  refine ⟨_, _, _, rfl, q, by omega, by omega, by omega, ?_⟩
  have e := atK_succ (c := (⟨c0, c1⟩ : Cab)) (l := l) (n := ct) (k := k - 1) (by omega)
  rw [show k - 1 + 1 = k by omega, ← i4] at e
  rw [show ((k : Int) + 1).toNat - 1 = k by omega, e, ← h1, ← h2]
  rfl
 ·have h := of_decide_eq_false h
  have e : k = l.length := by omega
  rw [e] at i4
  unfold atR
  rw [← i4]
  exact LeD.refl _
theorem zero_ref01_At_0 (c0 : Int) (c1 : Int) (l : List Png) (ct : Int) (v0_0 : Int) (v0_1 : Int) (v0_2 : Int)  (hi : ((trOk (⟨c0, c1⟩ : Cab) l ∧ ∀ i, i < l.length → canB (⟨c0, c1⟩ : Cab) (pngAt l i) = true) ∧ 0 ≤ ct ∧ ct ≤ 1000000000000) ∧ 1 ≤ v0_2 ∧ v0_2 ≤ l.length ∧ (0 : Int) + v0_2 = l.length + 1 ∧ (⟨v0_0, v0_1⟩ : Rg) = atK (⟨c0, c1⟩ : Cab) l ct (v0_2.toNat - 1)) : False := by
 omega
theorem spec_ref01_At (c0 : Int) (c1 : Int) (l : List Png) (ct : Int) (hp : (trOk (⟨c0, c1⟩ : Cab) l ∧ (∀ i, i < (l).length → canB (⟨c0, c1⟩ : Cab) (pngAt l i) = true)) ∧ 0 ≤ ct ∧ ct ≤ 1000000000000) : vc_ref01_At (J_ref01_At c0 c1 l ct) c0 c1 l ct (fun r => LeD r (.t (.a [.v (.int .i64 ((atR (⟨c0, c1⟩ : Cab) l ct).lo)), .v (.int .i64 ((atR (⟨c0, c1⟩ : Cab) l ct).hi))]))) := by
 unfold vc_ref01_At
 simp only [pngs_listC, rgs_listC, ints_listC]
 have z := hp.1.1.2.1
 exact ⟨⟨numsP_pngs l, hp.1, by omega, hp.2⟩, l.length, _, _, 1, rfl, hp, by omega, by omega, by omega, rfl⟩
theorem all_ref01_At (c0 : Int) (c1 : Int) (l : List Png) (ct : Int) (hp : (trOk (⟨c0, c1⟩ : Cab) l ∧ (∀ i, i < (l).length → canB (⟨c0, c1⟩ : Cab) (pngAt l i) = true)) ∧ 0 ≤ ct ∧ ct ≤ 1000000000000) : AllG (J_ref01_At c0 c1 l ct) (loopsFn Try.prog tab Sc43 ann_ref01_At (J_ref01_At c0 c1 l ct) Try.f66 (fun r => LeD r (.t (.a [.v (.int .i64 ((atR (⟨c0, c1⟩ : Cab) l ct).lo)), .v (.int .i64 ((atR (⟨c0, c1⟩ : Cab) l ct).hi))])))) := by
 rw [lp_ref01_At]
 refine ⟨⟨?_, ?_⟩, trivial⟩
 ·intro F s h
  obtain _ | ⟨g, F⟩ := F
  case cons => exact h.elim
  obtain ⟨w0, w1, w2, rfl, hi⟩ := h
  exact zero_ref01_At_0 c0 c1 l ct w0 w1 w2 hi
 ·intro n F s h
  obtain _ | ⟨g, F⟩ := F
  case cons => exact h.elim
  obtain ⟨w0, w1, w2, rfl, hi⟩ := h
  rw [er_ref01_At_0]
  exact rnd_ref01_At_0 c0 c1 l ct _ _ _ _ hp hi
def con_ref01_At : Con := fun args => match args with
 | [.t (.a [.v (.int .i64 c0), .v (.int .i64 c1), .sl 4 n_l c_l]), .t (.c (.v (.int .i64 ct)))] => some (.t (.a [.v (.int .i64 ((atR (⟨c0, c1⟩ : Cab) (listC n_l mkPng c_l) ct).lo)), .v (.int .i64 ((atR (⟨c0, c1⟩ : Cab) (listC n_l mkPng c_l) ct).hi))]), some (numsP 4 n_l c_l ∧ (trOk (⟨c0, c1⟩ : Cab) (listC n_l mkPng c_l) ∧ (∀ i, i < ((listC n_l mkPng c_l)).length → canB (⟨c0, c1⟩ : Cab) (pngAt (listC n_l mkPng c_l) i) = true)) ∧ 0 ≤ ct ∧ ct ≤ 1000000000000), false)
 | _ => none
theorem ok_ref01_At : Ok Try.prog 66 con_ref01_At := by
 refine Ok.fn (ann := ann_ref01_At) mixed tabOK VSc43 ValidIt.no (fn := Try.f66) (by kernel_rfl) (by kernel_rfl) fit_ref01_At fun args r pre fresh h hp => ?_
 unfold con_ref01_At at h
 split at h
 ·rename_i c0 c1 n_l c_l ct
  cases h
  obtain ⟨hp0, hp⟩ := hp
  refine ⟨rfl, J_ref01_At c0 c1 (listC n_l mkPng c_l) ct, [.t (.a [.v (.int .i64 c0), .v (.int .i64 c1), .sl 4 ((listC n_l mkPng c_l).length) (pngsC (listC n_l mkPng c_l))]), .t (.c (.v (.int .i64 ct)))], ?_, Nat.le_of_ble_eq_true (by kernel_rfl), ?_, ?_⟩
  ·exact (LeA_cons (leT_a (LeCs.cons (LeC1.refl _) (LeCs.cons (LeC1.refl _) (LeCs.cons ((leL_Png hp0)) LeCs.nil)))) (LeA_cons (LeD.refl _) LeA_nil))
  ·rw [ev_ref01_At]; exact spec_ref01_At c0 c1 (listC n_l mkPng c_l) ct hp
  ·exact all_ref01_At c0 c1 (listC n_l mkPng c_l) ct hp
 ·cases h
def Sc44 : Sum := addS Sc43 66 con_ref01_At
theorem VSc44 : Valid Try.prog Sc44 := Valid.add VSc43 ok_ref01_At
def mk_ref01_Contradicting_0 (c0 : Int) (c1 : Int) (l : List Png) (v0_0 : Int) : DS := ⟨[none, some (.t (.c (.p 1 0))), none, none, some (.t (.c (.v (.int .i64 v0_0)))), none, none, none, none, none, none, none, none, none, none, none, none, none, none, none, none, none, none, none, none, none, none, none, none, none, none, none, none, none, none, none, none, none, none, none, none, none, none, none, none, none, none, none, none, none, none, none, none, none, none, none, none, none, none, none, none, none, none, none, none, none, none, none, none, none, none, none, none, none], [none, some (.box 74 [.v (.int .i64 c0), .v (.int .i64 c1), .sl 4 l.length (pngsC l)]), none, none, none, none, none, none, none, none, none, none, none, none, none, none, none, none, none, none, none, none, none, none, none, none, none, none, none, none, none, none, none, none, none, none, none, none, none, none, none, none, none, none, none, none, none, none, none, none, none, none, none, none, none, none, none, none, none, none, none, none, none, none, none, none, none, none, none, none, none, none, none, none]⟩
def mk_ref01_Contradicting_2 (c0 : Int) (c1 : Int) (l : List Png) (v2_0 : Int) : DS := ⟨[none, some (.t (.c (.p 1 0))), none, none, none, none, none, some (.t (.c (.v (.int .i64 v2_0)))), none, none, none, none, none, none, none, none, none, none, none, none, none, none, none, none, none, none, none, none, none, none, none, none, none, none, none, none, none, none, none, none, none, none, none, none, none, none, none, none, none, none, none, none, none, none, none, none, none, none, none, none, none, none, none, none, none, none, none, none, none, none, none, none, none, none], [none, some (.box 74 [.v (.int .i64 c0), .v (.int .i64 c1), .sl 4 l.length (pngsC l)]), none, none, none, none, none, none, none, none, none, none, none, none, none, none, none, none, none, none, none, none, none, none, none, none, none, none, none, none, none, none, none, none, none, none, none, none, none, none, none, none, none, none, none, none, none, none, none, none, none, none, none, none, none, none, none, none, none, none, none, none, none, none, none, none, none, none, none, none, none, none, none, none]⟩
def mk_ref01_Contradicting_4 (c0 : Int) (c1 : Int) (l : List Png) (v4_0 : Int) (v4_1 : Int) : DS := ⟨[none, some (.t (.c (.p 1 0))), none, none, none, none, none, some (.t (.c (.v (.int .i64 v4_0)))), some (.t (.c (.v (.int .i64 v4_1)))), none, none, none, none, none, none, none, none, none, none, none, none, none, none, none, none, none, none, none, none, none, none, none, none, none, none, none, none, none, none, none, none, none, none, none, none, none, none, none, none, none, none, none, none, none, none, none, none, none, none, none, none, none, none, none, none, none, none, none, none, none, none, none, none, none], [none, some (.box 74 [.v (.int .i64 c0), .v (.int .i64 c1), .sl 4 l.length (pngsC l)]), none, none, none, none, none, none, none, none, none, none, none, none, none, none, none, none, none, none, none, none, none, none, none, none, none, none, none, none, none, none, none, none, none, none, none, none, none, none, none, none, none, none, none, none, none, none, none, none, none, none, none, none, none, none, none, none, none, none, none, none, none, none, none, none, none, none, none, none, none, none, none, none]⟩
def vc_ref01_Contradicting (J : Inv) (c0 : Int) (c1 : Int) (l : List Png) (post : DV → Prop) : Prop := ∃ n, J 0 (n :: []) (mk_ref01_Contradicting_0 c0 c1 l 0)
def ann_ref01_Contradicting : Ann := ⟨fun r => lookA r [(4, ([[], [0], [], [2], [], [2, 3, 4], [2, 3, 4, 5], [0, 1, 2, 3, 4, 5, 6], [0, 1, 2, 3, 4, 5, 6, 7], [0, 1, 2, 3, 4, 5, 6, 7, 8], [0, 1, 2, 3, 4, 5, 6, 7, 8], [], [0, 1, 2, 3, 4, 5, 6, 7, 8, 9, 11], [0, 1, 2, 3, 4, 5, 6, 7, 8, 9, 10, 11, 12]], [[26, 5], [26, 5], [26, 5], [26, 5], [26, 5], [26, 5], [26, 5], [5], [5], [5], [5], [26], [], []])), (13, ([[], [0], [], [2], [], [2, 3, 4], [2, 3, 4, 5], [0, 1, 2, 3, 4, 5, 6], [0, 1, 2, 3, 4, 5, 6, 7], [0, 1, 2, 3, 4, 5, 6, 7, 8], [0, 1, 2, 3, 4, 5, 6, 7, 8], [], [0, 1, 2, 3, 4, 5, 6, 7, 8, 9, 11], [0, 1, 2, 3, 4, 5, 6, 7, 8, 9, 10, 11, 12]], [[57, 9], [57, 9], [57, 9], [57, 9], [57, 9], [57, 9], [57, 9], [9], [9], [9], [9], [57], [], []])), (14, ([[], [], [], [], [3], [], [3, 4, 5], [3, 4, 5, 6], [3, 4, 5, 6, 7], [1, 2, 3, 4, 5, 6, 7, 8], [0, 1, 2, 3, 4, 5, 6, 7, 8, 9]], [[69, 70], [69, 70], [69, 70], [69, 70], [69, 70], [69, 70], [69, 70], [69, 70], [69, 70], [70], []]))], fun b => lookA b [(0, (none, some ⟨[1, 4], [1], []⟩)), (2, (none, some ⟨[1, 7], [1], []⟩)), (4, (none, some ⟨[1, 7, 8], [1], []⟩))], fun _ => [], noIt, false, fun _ => none, fun _ => none⟩
theorem ev_ref01_Contradicting (J : Inv) (c0 : Int) (c1 : Int) (l : List Png) (post : DV → Prop) : evFn Try.prog tab Sc44 ann_ref01_Contradicting J Try.f52 [.t (.a [.v (.int .i64 c0), .v (.int .i64 c1), .sl 4 l.length (pngsC l)])] post = vc_ref01_Contradicting J c0 c1 l post := by kernel_rfl
theorem fit_ref01_Contradicting : okFn ann_ref01_Contradicting Try.f52 = true := by kernel_rfl
def rd_ref01_Contradicting_0 (J : Inv) (c0 : Int) (c1 : Int) (l : List Png) (v0_0 : Int) (nn0 : Nat) (post : DV → Prop) : Prop := cond (decide (v0_0 < ((l.length : Nat) : Int))) ((0 ≤ v0_0 ∧ v0_0 < ((l.length : Nat) : Int)) ∧ ((delOk (⟨c0, c1⟩ : Cab) (pngAt l v0_0.toNat)) ∧ (cond (!(canB (⟨c0, c1⟩ : Cab) (pngAt l v0_0.toNat))) (post (.tu [.c (.sl 1 1 (genC [[.v (.int .i64 v0_0)]])), .c (.v (.bool true))])) (lt (IntKind.i64.wrap (v0_0 + (1 : Int))) fun x1 => J 0 (nn0 :: []) (mk_ref01_Contradicting_0 c0 c1 l x1))))) (∃ n, J 2 (n :: []) (mk_ref01_Contradicting_2 c0 c1 l 0))
theorem er_ref01_Contradicting_0 (J : Inv) (c0 : Int) (c1 : Int) (l : List Png) (v0_0 : Int) (nn0 : Nat) (post : DV → Prop) : round Try.prog tab Sc44 ann_ref01_Contradicting J Try.f52 post 0 (nn0 :: []) (mk_ref01_Contradicting_0 c0 c1 l v0_0) = rd_ref01_Contradicting_0 J c0 c1 l v0_0 nn0 post := by kernel_rfl
def rd_ref01_Contradicting_2 (J : Inv) (c0 : Int) (c1 : Int) (l : List Png) (v2_0 : Int) (nn2 : Nat) (post : DV → Prop) : Prop := cond (decide (v2_0 < ((l.length : Nat) : Int))) (lt (IntKind.i64.wrap (v2_0 + (1 : Int))) fun x1 => ∃ n, J 4 (n :: nn2 :: []) (mk_ref01_Contradicting_4 c0 c1 l v2_0 x1)) (post (.tu [.c (.v (.slice none 0 0)), .c (.v (.bool false))]))
theorem er_ref01_Contradicting_2 (J : Inv) (c0 : Int) (c1 : Int) (l : List Png) (v2_0 : Int) (nn2 : Nat) (post : DV → Prop) : round Try.prog tab Sc44 ann_ref01_Contradicting J Try.f52 post 1 (nn2 :: []) (mk_ref01_Contradicting_2 c0 c1 l v2_0) = rd_ref01_Contradicting_2 J c0 c1 l v2_0 nn2 post := by kernel_rfl
def rd_ref01_Contradicting_4 (J : Inv) (c0 : Int) (c1 : Int) (l : List Png) (v4_0 : Int) (v4_1 : Int) (nn4 nn2 : Nat) (post : DV → Prop) : Prop := cond (decide (v4_1 < ((l.length : Nat) : Int))) ((0 ≤ v4_1 ∧ v4_1 < ((l.length : Nat) : Int)) ∧ ((delOk (⟨c0, c1⟩ : Cab) (pngAt l v4_1.toNat)) ∧ ((0 ≤ v4_1 ∧ v4_1 < ((l.length : Nat) : Int)) ∧ ((numsP 4 l.length (pngsC l) ∧ (trOk (⟨c0, c1⟩ : Cab) (listC l.length mkPng (pngsC l)) ∧ (∀ i, i < ((listC l.length mkPng (pngsC l))).length → canB (⟨c0, c1⟩ : Cab) (pngAt (listC l.length mkPng (pngsC l)) i) = true)) ∧ (0 ≤ v4_0 ∧ v4_0 < ((listC l.length mkPng (pngsC l))).length) ∧ 0 ≤ ((pngAt l v4_1.toNat).arr) ∧ ((pngAt l v4_1.toNat).arr) ≤ 1000000000000) ∧ (cond (decide (((tmK (⟨c0, c1⟩ : Cab) (pngAt l v4_1.toNat)).hi) < ((byR (⟨c0, c1⟩ : Cab) (pngAt (listC l.length mkPng (pngsC l)) v4_0.toNat) ((pngAt l v4_1.toNat).arr)).lo)) || decide (((byR (⟨c0, c1⟩ : Cab) (pngAt (listC l.length mkPng (pngsC l)) v4_0.toNat) ((pngAt l v4_1.toNat).arr)).hi) < ((tmK (⟨c0, c1⟩ : Cab) (pngAt l v4_1.toNat)).lo))) (post (.tu [.c (.sl 1 2 (genC [[.v (.int .i64 v4_0)], [.v (.int .i64 v4_1)]])), .c (.v (.bool true))])) (lt (IntKind.i64.wrap (v4_1 + (1 : Int))) fun x1 => J 4 (nn4 :: nn2 :: []) (mk_ref01_Contradicting_4 c0 c1 l v4_0 x1))))))) (lt (IntKind.i64.wrap (v4_0 + (1 : Int))) fun x2 => J 2 (nn2 :: []) (mk_ref01_Contradicting_2 c0 c1 l x2))
theorem er_ref01_Contradicting_4 (J : Inv) (c0 : Int) (c1 : Int) (l : List Png) (v4_0 : Int) (v4_1 : Int) (nn4 nn2 : Nat) (post : DV → Prop) : round Try.prog tab Sc44 ann_ref01_Contradicting J Try.f52 post 2 (nn4 :: nn2 :: []) (mk_ref01_Contradicting_4 c0 c1 l v4_0 v4_1) = rd_ref01_Contradicting_4 J c0 c1 l v4_0 v4_1 nn4 nn2 post := by kernel_rfl
theorem lp_ref01_Contradicting (J : Inv) (post : DV → Prop) : AllG J (loopsFn Try.prog tab Sc44 ann_ref01_Contradicting J Try.f52 post) = (((∀ F s, ¬ J 0 (0 :: F) s) ∧ ∀ n F s, J 0 ((n + 1) :: F) s → round Try.prog tab Sc44 ann_ref01_Contradicting J Try.f52 post 0 (n :: F) s) ∧ ((∀ F s, ¬ J 2 (0 :: F) s) ∧ ∀ n F s, J 2 ((n + 1) :: F) s → round Try.prog tab Sc44 ann_ref01_Contradicting J Try.f52 post 1 (n :: F) s) ∧ ((∀ F s, ¬ J 4 (0 :: F) s) ∧ ∀ n F s, J 4 ((n + 1) :: F) s → round Try.prog tab Sc44 ann_ref01_Contradicting J Try.f52 post 2 (n :: F) s) ∧ True) := by kernel_rfl
def J_ref01_Contradicting (c0 : Int) (c1 : Int) (l : List Png) : Inv := fun b F s => match b, F with
 | 0, [nn0] => ∃ (v0_0 : Int), s = mk_ref01_Contradicting_0 c0 c1 l v0_0 ∧ (trOk (⟨c0, c1⟩ : Cab) l ∧ 0 ≤ v0_0 ∧ v0_0 ≤ l.length ∧ (nn0 : Int) + v0_0 = l.length + 1 ∧ ∀ j : Nat, (j : Int) < v0_0 → canB (⟨c0, c1⟩ : Cab) (pngAt l j) = true)
 | 2, [nn2] => ∃ (v2_0 : Int), s = mk_ref01_Contradicting_2 c0 c1 l v2_0 ∧ ((trOk (⟨c0, c1⟩ : Cab) l ∧ ∀ i, i < l.length → canB (⟨c0, c1⟩ : Cab) (pngAt l i) = true) ∧ 0 ≤ v2_0 ∧ v2_0 ≤ l.length ∧ (nn2 : Int) + v2_0 = l.length + 1 ∧ apN (⟨c0, c1⟩ : Cab) l v2_0.toNat 0)
 | 4, [nn4, nn2] => ∃ (v4_0 : Int) (v4_1 : Int), s = mk_ref01_Contradicting_4 c0 c1 l v4_0 v4_1 ∧ ((trOk (⟨c0, c1⟩ : Cab) l ∧ ∀ i, i < l.length → canB (⟨c0, c1⟩ : Cab) (pngAt l i) = true) ∧ (0 ≤ v4_0 ∧ v4_0 < l.length ∧ (nn2 : Int) + v4_0 = l.length) ∧ (v4_0 < v4_1 ∧ v4_1 ≤ l.length ∧ (nn4 : Int) + v4_1 = l.length + 1) ∧ apN (⟨c0, c1⟩ : Cab) l v4_0.toNat v4_1.toNat)
 | _, _ => False
set_option maxHeartbeats 8000000 in
set_option maxRecDepth 100000 in
theorem rnd_ref01_Contradicting_0 (c0 : Int) (c1 : Int) (l : List Png) (v0_0 : Int) (nn0 : Nat) (hp : trOk (⟨c0, c1⟩ : Cab) l) (hi : trOk (⟨c0, c1⟩ : Cab) l ∧ 0 ≤ v0_0 ∧ v0_0 ≤ l.length ∧ ((nn0 + 1) : Int) + v0_0 = l.length + 1 ∧ ∀ j : Nat, (j : Int) < v0_0 → canB (⟨c0, c1⟩ : Cab) (pngAt l j) = true) : rd_ref01_Contradicting_0 (J_ref01_Contradicting c0 c1 l) c0 c1 l v0_0 nn0 (fun r => LeD r (.tu [.c (.sl 1 ((rcV (⟨c0, c1⟩ : Cab) l).length) (intsC (rcV (⟨c0, c1⟩ : Cab) l))), .c (.v (.bool (decide ((rcV (⟨c0, c1⟩ : Cab) l).length > 0))))])) := by
 obtain ⟨z, i1, i2, i3, i4⟩ := hi
 obtain ⟨k, rfl⟩ : ∃ k : Nat, v0_0 = k := ⟨v0_0.toNat, by omega⟩
 have hk : (k : Int).toNat = k := rfl
 have z2 := z.2.1
 unfold rd_ref01_Contradicting_0
 rw [hk]
 refine cond_i (fun h => ?_) (fun h => ?_)
 ·have hlt : k < l.length := by have := of_decide_eq_true h; omega
  refine ⟨by omega, z.del hlt, cond_i (fun g => ?_) (fun g => lt_i fun x hx => ?_)⟩
  ·have g : canB (⟨c0, c1⟩ : Cab) (pngAt l k) = false := by simpa using g
   have e1 := bad_at hlt (fun j hj => i4 j (by omega)) g
   have e2 : rcV (⟨c0, c1⟩ : Cab) l = [(k : Int)] := by unfold rcV; rw [if_pos (by omega), e1]
   rw [e2]
   refine le_tu (leSl fun i j hi hj => ?_) (LeD.refl _)
   obtain rfl : j = 0 := by omega
   obtain rfl : i = 0 := by first | omega | (simp at hi; omega)
   rfl
  ·have g : canB (⟨c0, c1⟩ : Cab) (pngAt l k) = true := by simpa using g
   rw [wi (by omega)] at hx
   subst hx
   refine ⟨_, rfl, z, by omega, by omega, by omega, fun j hj => ?_⟩
   by_cases c : j = k
   ·rw [c]; exact g
   ·exact i4 j (by omega)
 ·have h := of_decide_eq_false h
  exact ⟨l.length + 1, 0, rfl, ⟨z, fun i hi => i4 i (by omega)⟩, by omega, by omega, by omega, fun a b h1 h2 h3 => by omega⟩
theorem zero_ref01_Contradicting_0 (c0 : Int) (c1 : Int) (l : List Png) (v0_0 : Int)  (hi : trOk (⟨c0, c1⟩ : Cab) l ∧ 0 ≤ v0_0 ∧ v0_0 ≤ l.length ∧ (0 : Int) + v0_0 = l.length + 1 ∧ ∀ j : Nat, (j : Int) < v0_0 → canB (⟨c0, c1⟩ : Cab) (pngAt l j) = true) : False := by
 omega
set_option maxHeartbeats 8000000 in
set_option maxRecDepth 100000 in
theorem rnd_ref01_Contradicting_2 (c0 : Int) (c1 : Int) (l : List Png) (v2_0 : Int) (nn2 : Nat) (hp : trOk (⟨c0, c1⟩ : Cab) l) (hi : (trOk (⟨c0, c1⟩ : Cab) l ∧ ∀ i, i < l.length → canB (⟨c0, c1⟩ : Cab) (pngAt l i) = true) ∧ 0 ≤ v2_0 ∧ v2_0 ≤ l.length ∧ ((nn2 + 1) : Int) + v2_0 = l.length + 1 ∧ apN (⟨c0, c1⟩ : Cab) l v2_0.toNat 0) : rd_ref01_Contradicting_2 (J_ref01_Contradicting c0 c1 l) c0 c1 l v2_0 nn2 (fun r => LeD r (.tu [.c (.sl 1 ((rcV (⟨c0, c1⟩ : Cab) l).length) (intsC (rcV (⟨c0, c1⟩ : Cab) l))), .c (.v (.bool (decide ((rcV (⟨c0, c1⟩ : Cab) l).length > 0))))])) := by
 obtain ⟨z, i1, i2, i3, i4⟩ := hi
 obtain ⟨k, rfl⟩ : ∃ k : Nat, v2_0 = k := ⟨v2_0.toNat, by omega⟩
 have hk : (k : Int).toNat = k := rfl
 have z2 := z.1.2.1
 rw [hk] at i4
 unfold rd_ref01_Contradicting_2
 refine cond_i (fun h => lt_i fun x hx => ?_) (fun h => ?_)
 ·have hlt : k < l.length := by have := of_decide_eq_true h; omega
  rw [wi (by omega)] at hx
  subst hx
  refine ⟨l.length - k, _, _, rfl, z, ⟨by omega, by omega, by omega⟩, by omega, ?_⟩
  rw [show ((k : Int) + 1).toNat = k + 1 by omega, hk]
  exact apN_next i4
 ·have h := of_decide_eq_false h
  have e1 := bad_end (c := (⟨c0, c1⟩ : Cab)) (l := l) z.2
  have e2 : rcV (⟨c0, c1⟩ : Cab) l = [] := by
   unfold rcV
   rw [if_neg (by omega)]
   exact apN_none (by rw [show l.length = k by omega]; exact i4)
  rw [e2]
  exact le_tu le_nil (LeD.refl _)
theorem zero_ref01_Contradicting_2 (c0 : Int) (c1 : Int) (l : List Png) (v2_0 : Int)  (hi : (trOk (⟨c0, c1⟩ : Cab) l ∧ ∀ i, i < l.length → canB (⟨c0, c1⟩ : Cab) (pngAt l i) = true) ∧ 0 ≤ v2_0 ∧ v2_0 ≤ l.length ∧ (0 : Int) + v2_0 = l.length + 1 ∧ apN (⟨c0, c1⟩ : Cab) l v2_0.toNat 0) : False := by
 omega
set_option maxHeartbeats 8000000 in
set_option maxRecDepth 100000 in
theorem rnd_ref01_Contradicting_4 (c0 : Int) (c1 : Int) (l : List Png) (v4_0 : Int) (v4_1 : Int) (nn4 nn2 : Nat) (hp : trOk (⟨c0, c1⟩ : Cab) l) (hi : (trOk (⟨c0, c1⟩ : Cab) l ∧ ∀ i, i < l.length → canB (⟨c0, c1⟩ : Cab) (pngAt l i) = true) ∧ (0 ≤ v4_0 ∧ v4_0 < l.length ∧ (nn2 : Int) + v4_0 = l.length) ∧ (v4_0 < v4_1 ∧ v4_1 ≤ l.length ∧ ((nn4 + 1) : Int) + v4_1 = l.length + 1) ∧ apN (⟨c0, c1⟩ : Cab) l v4_0.toNat v4_1.toNat) : rd_ref01_Contradicting_4 (J_ref01_Contradicting c0 c1 l) c0 c1 l v4_0 v4_1 nn4 nn2 (fun r => LeD r (.tu [.c (.sl 1 ((rcV (⟨c0, c1⟩ : Cab) l).length) (intsC (rcV (⟨c0, c1⟩ : Cab) l))), .c (.v (.bool (decide ((rcV (⟨c0, c1⟩ : Cab) l).length > 0))))])) := by
 obtain ⟨z, i1, i2, i4⟩ := hi
 obtain ⟨k, rfl⟩ : ∃ k : Nat, v4_0 = k := ⟨v4_0.toNat, by omega⟩
 have hk : (k : Int).toNat = k := rfl
 have z2 := z.1.2.1
 obtain ⟨m, rfl⟩ : ∃ m : Nat, v4_1 = m := ⟨v4_1.toNat, by omega⟩
 have hm : (m : Int).toNat = m := rfl
 rw [hk, hm] at i4
 unfold rd_ref01_Contradicting_4
 simp only [pngs_listC, rgs_listC, ints_listC]
 rw [hk, hm]
 refine cond_i (fun h => ?_) (fun h => lt_i fun x hx => ?_)
 ·have hlt : m < l.length := by have := of_decide_eq_true h; omega
  have hd := z.1.del hlt
  have hq := hd.2
  unfold pngOk at hq
  have hkl : k < l.length := by omega
  have ea : (decide ((tmK (⟨c0, c1⟩ : Cab) (pngAt l m)).hi < (byR (⟨c0, c1⟩ : Cab) (pngAt l k) (pngAt l m).arr).lo) || decide ((byR (⟨c0, c1⟩ : Cab) (pngAt l k) (pngAt l m).arr).hi < (tmK (⟨c0, c1⟩ : Cab) (pngAt l m)).lo)) = apB (⟨c0, c1⟩ : Cab) (pngAt l k) (pngAt l m) := by
   rw [show tmK (⟨c0, c1⟩ : Cab) (pngAt l m) = tmR (⟨c0, c1⟩ : Cab) (pngAt l m) by unfold tmK; rw [z.2 m hlt]; rfl]
   exact ap_eq z.1.1.ok (canB_iff.1 (z.2 k hkl)) (canB_iff.1 (z.2 m hlt))
  rw [ea]
  refine ⟨by omega, hd, by omega, ⟨numsP_pngs l, z, by omega, by omega, by omega⟩, cond_i (fun g => ?_) (fun g => lt_i fun x hx => ?_)⟩
  ·have e1 := bad_end (c := (⟨c0, c1⟩ : Cab)) (l := l) z.2
   have e2 : rcV (⟨c0, c1⟩ : Cab) l = [(k : Int), (m : Int)] := by
    unfold rcV
    rw [if_neg (by omega)]
    exact apN_at (by omega) hlt g i4
   rw [e2]
   refine le_tu (leSl fun i j hi hj => ?_) (LeD.refl _)
   obtain rfl : j = 0 := by omega
   rcases (by first | omega | (simp at hi; omega) : i = 0 ∨ i = 1) with rfl | rfl <;> rfl
  ·rw [wi (by omega)] at hx
   subst hx
   refine ⟨_, _, rfl, z, i1, by omega, ?_⟩
   rw [show ((m : Int) + 1).toNat = m + 1 by omega, hk]
   exact apN_step i4 g
 ·have h := of_decide_eq_false h
  rw [wi (by omega)] at hx
  subst hx
  refine ⟨_, rfl, z, by omega, by omega, by omega, ?_⟩
  rw [show ((k : Int) + 1).toNat = k + 1 by omega]
  rw [show m = l.length by omega] at i4
  exact apN_row i4
theorem zero_ref01_Contradicting_4 (c0 : Int) (c1 : Int) (l : List Png) (v4_0 : Int) (v4_1 : Int) (nn2 : Nat) (hi : (trOk (⟨c0, c1⟩ : Cab) l ∧ ∀ i, i < l.length → canB (⟨c0, c1⟩ : Cab) (pngAt l i) = true) ∧ (0 ≤ v4_0 ∧ v4_0 < l.length ∧ (nn2 : Int) + v4_0 = l.length) ∧ (v4_0 < v4_1 ∧ v4_1 ≤ l.length ∧ (0 : Int) + v4_1 = l.length + 1) ∧ apN (⟨c0, c1⟩ : Cab) l v4_0.toNat v4_1.toNat) : False := by
 omega
set_option maxHeartbeats 8000000 in
set_option maxRecDepth 100000 in
theorem spec_ref01_Contradicting (c0 : Int) (c1 : Int) (l : List Png) (hp : trOk (⟨c0, c1⟩ : Cab) l) : vc_ref01_Contradicting (J_ref01_Contradicting c0 c1 l) c0 c1 l (fun r => LeD r (.tu [.c (.sl 1 ((rcV (⟨c0, c1⟩ : Cab) l).length) (intsC (rcV (⟨c0, c1⟩ : Cab) l))), .c (.v (.bool (decide ((rcV (⟨c0, c1⟩ : Cab) l).length > 0))))])) := by
 unfold vc_ref01_Contradicting
 exact ⟨l.length + 1, 0, rfl, hp, by omega, by omega, by omega, fun j hj => by omega⟩
theorem all_ref01_Contradicting (c0 : Int) (c1 : Int) (l : List Png) (hp : trOk (⟨c0, c1⟩ : Cab) l) : AllG (J_ref01_Contradicting c0 c1 l) (loopsFn Try.prog tab Sc44 ann_ref01_Contradicting (J_ref01_Contradicting c0 c1 l) Try.f52 (fun r => LeD r (.tu [.c (.sl 1 ((rcV (⟨c0, c1⟩ : Cab) l).length) (intsC (rcV (⟨c0, c1⟩ : Cab) l))), .c (.v (.bool (decide ((rcV (⟨c0, c1⟩ : Cab) l).length > 0))))]))) := by
 rw [lp_ref01_Contradicting]
 refine ⟨⟨?_, ?_⟩, ⟨?_, ?_⟩, ⟨?_, ?_⟩, trivial⟩
 ·intro F s h
  obtain _ | ⟨g, F⟩ := F
  case cons => exact h.elim
  obtain ⟨w0, rfl, hi⟩ := h
  exact zero_ref01_Contradicting_0 c0 c1 l w0 hi
 ·intro n F s h
  obtain _ | ⟨g, F⟩ := F
  case cons => exact h.elim
  obtain ⟨w0, rfl, hi⟩ := h
  rw [er_ref01_Contradicting_0]
  exact rnd_ref01_Contradicting_0 c0 c1 l _ _ hp hi
 ·intro F s h
  obtain _ | ⟨g, F⟩ := F
  case cons => exact h.elim
  obtain ⟨w0, rfl, hi⟩ := h
  exact zero_ref01_Contradicting_2 c0 c1 l w0 hi
 ·intro n F s h
  obtain _ | ⟨g, F⟩ := F
  case cons => exact h.elim
  obtain ⟨w0, rfl, hi⟩ := h
  rw [er_ref01_Contradicting_2]
  exact rnd_ref01_Contradicting_2 c0 c1 l _ _ hp hi
 ·intro F s h
  obtain _ | ⟨f0, F⟩ := F
  ·exact h.elim
  obtain _ | ⟨g, F⟩ := F
  case cons => exact h.elim
  obtain ⟨w0, w1, rfl, hi⟩ := h
  exact zero_ref01_Contradicting_4 c0 c1 l w0 w1 _ hi
 ·intro n F s h
  obtain _ | ⟨f0, F⟩ := F
  ·exact h.elim
  obtain _ | ⟨g, F⟩ := F
  case cons => exact h.elim
  obtain ⟨w0, w1, rfl, hi⟩ := h
  rw [er_ref01_Contradicting_4]
  exact rnd_ref01_Contradicting_4 c0 c1 l _ _ _ _ hp hi
def con_ref01_Contradicting : Con := fun args => match args with
 | [.t (.a [.v (.int .i64 c0), .v (.int .i64 c1), .sl 4 n_l c_l])] => some (.tu [.c (.sl 1 ((rcV (⟨c0, c1⟩ : Cab) (listC n_l mkPng c_l)).length) (intsC (rcV (⟨c0, c1⟩ : Cab) (listC n_l mkPng c_l)))), .c (.v (.bool (decide ((rcV (⟨c0, c1⟩ : Cab) (listC n_l mkPng c_l)).length > 0))))], some (numsP 4 n_l c_l ∧ trOk (⟨c0, c1⟩ : Cab) (listC n_l mkPng c_l)), false)
 | _ => none
theorem ok_ref01_Contradicting : Ok Try.prog 52 con_ref01_Contradicting := by
 refine Ok.fn (ann := ann_ref01_Contradicting) mixed tabOK VSc44 ValidIt.no (fn := Try.f52) (by kernel_rfl) (by kernel_rfl) fit_ref01_Contradicting fun args r pre fresh h hp => ?_
 unfold con_ref01_Contradicting at h
 split at h
 ·rename_i c0 c1 n_l c_l
  cases h
  obtain ⟨hp0, hp⟩ := hp
  refine ⟨rfl, J_ref01_Contradicting c0 c1 (listC n_l mkPng c_l), [.t (.a [.v (.int .i64 c0), .v (.int .i64 c1), .sl 4 ((listC n_l mkPng c_l).length) (pngsC (listC n_l mkPng c_l))])], ?_, Nat.le_of_ble_eq_true (by kernel_rfl), ?_, ?_⟩
  ·exact (LeA_cons (leT_a (LeCs.cons (LeC1.refl _) (LeCs.cons (LeC1.refl _) (LeCs.cons ((leL_Png hp0)) LeCs.nil)))) LeA_nil)
  ·rw [ev_ref01_Contradicting]; exact spec_ref01_Contradicting c0 c1 (listC n_l mkPng c_l) hp
  ·exact all_ref01_Contradicting c0 c1 (listC n_l mkPng c_l) hp
 ·cases h
def Sc45 : Sum := addS Sc44 52 con_ref01_Contradicting
theorem VSc45 : Valid Try.prog Sc45 := Valid.add VSc44 ok_ref01_Contradicting
def mk_ref01_Count_0 (c0 : Int) (c1 : Int) (l : List Png) (tk : Int) (v0_0 : Int) (v0_1 : Int) : DS := ⟨[none, some (.t (.c (.v (.int .i64 tk)))), some (.t (.c (.p 2 0))), none, some (.t (.c (.p 4 0))), none, some (.t (.c (.v (.int .i64 v0_0)))), some (.t (.c (.v (.int .i64 v0_1)))), none, none, none, none, none, none, none, none, none, none, none, none, none, none, none, none, none, none, none, none, none, none, none, none, none, none, none, none, none, none, none, none, none, none, none, none, none, none, none, none, none, none, none, none], [none, none, some (.box 74 [.v (.int .i64 c0), .v (.int .i64 c1), .sl 4 l.length (pngsC l)]), none, some (.box 90 [.v (.int .i64 0), .v (.int .i64 0)]), none, none, none, none, none, none, none, none, none, none, none, none, none, none, none, none, none, none, none, none, none, none, none, none, none, none, none, none, none, none, none, none, none, none, none, none, none, none, none, none, none, none, none, none, none, none, none]⟩
def mk_ref01_Count_2 (c0 : Int) (c1 : Int) (l : List Png) (tk : Int) (v2_0 : Int) (v2_1 : Int) (v2_2 : Int) : DS := ⟨[none, some (.t (.c (.v (.int .i64 tk)))), some (.t (.c (.p 2 0))), none, some (.t (.c (.p 4 0))), none, some (.t (.c (.v (.int .i64 v2_0)))), some (.t (.c (.v (.int .i64 v2_1)))), none, some (.t (.c (.v (.int .i64 v2_2)))), none, none, none, none, none, none, none, none, none, none, none, none, none, none, none, none, none, none, none, none, none, none, none, none, none, none, none, none, none, none, none, none, none, none, none, none, none, none, none, none, none, none], [none, none, some (.box 74 [.v (.int .i64 c0), .v (.int .i64 c1), .sl 4 l.length (pngsC l)]), none, some (.box 90 [.v (.int .i64 0), .v (.int .i64 0)]), none, none, none, none, none, none, none, none, none, none, none, none, none, none, none, none, none, none, none, none, none, none, none, none, none, none, none, none, none, none, none, none, none, none, none, none, none, none, none, none, none, none, none, none, none, none, none]⟩
def vc_ref01_Count (J : Inv) (c0 : Int) (c1 : Int) (l : List Png) (tk : Int) (post : DV → Prop) : Prop := ∃ n, J 0 (n :: []) (mk_ref01_Count_0 c0 c1 l tk 0 1000000000001)
def ann_ref01_Count : Ann := ⟨fun _ => none, fun b => lookA b [(0, (none, some ⟨[1, 2, 4, 6, 7], [2, 4], []⟩)), (2, (none, some ⟨[1, 2, 4, 6, 7, 9], [2, 4], []⟩))], fun _ => [], noIt, false, fun _ => none, fun r => lookA r [(5, [6, 7]), (12, [6, 7])]⟩
theorem ev_ref01_Count (J : Inv) (c0 : Int) (c1 : Int) (l : List Png) (tk : Int) (post : DV → Prop) : evFn Try.prog tab Sc45 ann_ref01_Count J Try.f68 [.t (.a [.v (.int .i64 c0), .v (.int .i64 c1), .sl 4 l.length (pngsC l)]), .t (.c (.v (.int .i64 tk)))] post = vc_ref01_Count J c0 c1 l tk post := by kernel_rfl
theorem fit_ref01_Count : okFn ann_ref01_Count Try.f68 = true := by kernel_rfl
def rd_ref01_Count_0 (J : Inv) (c0 : Int) (c1 : Int) (l : List Png) (tk : Int) (v0_0 : Int) (v0_1 : Int) (nn0 : Nat) (post : DV → Prop) : Prop := cond (decide (v0_0 < v0_1)) (lt (IntKind.i64.wrap (v0_0 + v0_1)) fun x1 => lt (IntKind.i64.wrap (Int.tdiv x1 (2 : Int))) fun x2 => (IntKind.i64 = IntKind.i64 ∧ (2 : Int) ≠ 0) ∧ ((numsP 4 l.length (pngsC l) ∧ (trOk (⟨c0, c1⟩ : Cab) (listC l.length mkPng (pngsC l)) ∧ (∀ i, i < ((listC l.length mkPng (pngsC l))).length → canB (⟨c0, c1⟩ : Cab) (pngAt (listC l.length mkPng (pngsC l)) i) = true)) ∧ 0 ≤ x2 ∧ x2 ≤ 1000000000000) ∧ ((cond (decide (((atR (⟨c0, c1⟩ : Cab) (listC l.length mkPng (pngsC l)) x2).hi) ≥ tk)) (True) (lt (IntKind.i64.wrap (x2 + (1 : Int))) fun x4 => True)) ∧ (lt ((bif decide (((atR (⟨c0, c1⟩ : Cab) (listC l.length mkPng (pngsC l)) x2).hi) ≥ tk) then v0_0 else (IntKind.i64.wrap (x2 + (1 : Int))))) fun x5 => lt ((bif decide (((atR (⟨c0, c1⟩ : Cab) (listC l.length mkPng (pngsC l)) x2).hi) ≥ tk) then x2 else v0_1)) fun x6 => J 0 (nn0 :: []) (mk_ref01_Count_0 c0 c1 l tk x5 x6))))) (∃ n, J 2 (n :: []) (mk_ref01_Count_2 c0 c1 l tk (-1) 1000000000000 v0_0))
theorem er_ref01_Count_0 (J : Inv) (c0 : Int) (c1 : Int) (l : List Png) (tk : Int) (v0_0 : Int) (v0_1 : Int) (nn0 : Nat) (post : DV → Prop) : round Try.prog tab Sc45 ann_ref01_Count J Try.f68 post 0 (nn0 :: []) (mk_ref01_Count_0 c0 c1 l tk v0_0 v0_1) = rd_ref01_Count_0 J c0 c1 l tk v0_0 v0_1 nn0 post := by kernel_rfl
def rd_ref01_Count_2 (J : Inv) (c0 : Int) (c1 : Int) (l : List Png) (tk : Int) (v2_0 : Int) (v2_1 : Int) (v2_2 : Int) (nn2 : Nat) (post : DV → Prop) : Prop := cond (decide (v2_0 < v2_1)) (lt (IntKind.i64.wrap (v2_0 + v2_1)) fun x1 => lt (IntKind.i64.wrap (x1 + (1 : Int))) fun x2 => lt (IntKind.i64.wrap (Int.tdiv x2 (2 : Int))) fun x3 => (IntKind.i64 = IntKind.i64 ∧ (2 : Int) ≠ 0) ∧ ((numsP 4 l.length (pngsC l) ∧ (trOk (⟨c0, c1⟩ : Cab) (listC l.length mkPng (pngsC l)) ∧ (∀ i, i < ((listC l.length mkPng (pngsC l))).length → canB (⟨c0, c1⟩ : Cab) (pngAt (listC l.length mkPng (pngsC l)) i) = true)) ∧ 0 ≤ x3 ∧ x3 ≤ 1000000000000) ∧ ((cond (decide (((atR (⟨c0, c1⟩ : Cab) (listC l.length mkPng (pngsC l)) x3).lo) ≤ tk)) (True) (lt (IntKind.i64.wrap (x3 - (1 : Int))) fun x5 => True)) ∧ (lt ((bif decide (((atR (⟨c0, c1⟩ : Cab) (listC l.length mkPng (pngsC l)) x3).lo) ≤ tk) then x3 else v2_0)) fun x6 => lt ((bif decide (((atR (⟨c0, c1⟩ : Cab) (listC l.length mkPng (pngsC l)) x3).lo) ≤ tk) then v2_1 else (IntKind.i64.wrap (x3 - (1 : Int))))) fun x7 => J 2 (nn2 :: []) (mk_ref01_Count_2 c0 c1 l tk x6 x7 v2_2))))) (cond (decide (v2_2 > v2_0)) (post (.tu [.a [.v (.int .i64 0), .v (.int .i64 0)], .c (.v (.bool false))])) (post (.tu [.a [.v (.int .i64 v2_2), .v (.int .i64 v2_0)], .c (.v (.bool true))])))
theorem er_ref01_Count_2 (J : Inv) (c0 : Int) (c1 : Int) (l : List Png) (tk : Int) (v2_0 : Int) (v2_1 : Int) (v2_2 : Int) (nn2 : Nat) (post : DV → Prop) : round Try.prog tab Sc45 ann_ref01_Count J Try.f68 post 1 (nn2 :: []) (mk_ref01_Count_2 c0 c1 l tk v2_0 v2_1 v2_2) = rd_ref01_Count_2 J c0 c1 l tk v2_0 v2_1 v2_2 nn2 post := by kernel_rfl
theorem lp_ref01_Count (J : Inv) (post : DV → Prop) : AllG J (loopsFn Try.prog tab Sc45 ann_ref01_Count J Try.f68 post) = (((∀ F s, ¬ J 0 (0 :: F) s) ∧ ∀ n F s, J 0 ((n + 1) :: F) s → round Try.prog tab Sc45 ann_ref01_Count J Try.f68 post 0 (n :: F) s) ∧ ((∀ F s, ¬ J 2 (0 :: F) s) ∧ ∀ n F s, J 2 ((n + 1) :: F) s → round Try.prog tab Sc45 ann_ref01_Count J Try.f68 post 1 (n :: F) s) ∧ True) := by kernel_rfl
def J_ref01_Count (c0 : Int) (c1 : Int) (l : List Png) (tk : Int) : Inv := fun b F s => match b, F with
 | 0, [nn0] => ∃ (v0_0 : Int) (v0_1 : Int), s = mk_ref01_Count_0 c0 c1 l tk v0_0 v0_1 ∧ ((trOk (⟨c0, c1⟩ : Cab) l ∧ ∀ i, i < l.length → canB (⟨c0, c1⟩ : Cab) (pngAt l i) = true) ∧ 0 ≤ v0_0 ∧ v0_0 ≤ v0_1 ∧ v0_1 ≤ 1000000000001 ∧ (∀ x, 0 ≤ x → x < v0_0 → reB (⟨c0, c1⟩ : Cab) l tk x = false) ∧ (∀ x, v0_1 ≤ x → x ≤ 1000000000000 → reB (⟨c0, c1⟩ : Cab) l tk x = true) ∧ v0_1 - v0_0 + 1 < nn0)
 | 2, [nn2] => ∃ (v2_0 : Int) (v2_1 : Int) (v2_2 : Int), s = mk_ref01_Count_2 c0 c1 l tk v2_0 v2_1 v2_2 ∧ ((trOk (⟨c0, c1⟩ : Cab) l ∧ ∀ i, i < l.length → canB (⟨c0, c1⟩ : Cab) (pngAt l i) = true) ∧ v2_2 = lowS (reB (⟨c0, c1⟩ : Cab) l tk) ∧ -1 ≤ v2_0 ∧ v2_0 ≤ v2_1 ∧ v2_1 ≤ 1000000000000 ∧ (∀ x, 0 ≤ x → x ≤ v2_0 → paB (⟨c0, c1⟩ : Cab) l tk x = false) ∧ (∀ x, v2_1 < x → x ≤ 1000000000000 → paB (⟨c0, c1⟩ : Cab) l tk x = true) ∧ v2_1 - v2_0 + 1 < nn2)
 | _, _ => False
theorem rnd_ref01_Count_0 (c0 : Int) (c1 : Int) (l : List Png) (tk : Int) (v0_0 : Int) (v0_1 : Int) (nn0 : Nat) (hp : (trOk (⟨c0, c1⟩ : Cab) l ∧ (∀ i, i < (l).length → canB (⟨c0, c1⟩ : Cab) (pngAt l i) = true))) (hi : (trOk (⟨c0, c1⟩ : Cab) l ∧ ∀ i, i < l.length → canB (⟨c0, c1⟩ : Cab) (pngAt l i) = true) ∧ 0 ≤ v0_0 ∧ v0_0 ≤ v0_1 ∧ v0_1 ≤ 1000000000001 ∧ (∀ x, 0 ≤ x → x < v0_0 → reB (⟨c0, c1⟩ : Cab) l tk x = false) ∧ (∀ x, v0_1 ≤ x → x ≤ 1000000000000 → reB (⟨c0, c1⟩ : Cab) l tk x = true) ∧ v0_1 - v0_0 + 1 < (nn0 + 1)) : rd_ref01_Count_0 (J_ref01_Count c0 c1 l tk) c0 c1 l tk v0_0 v0_1 nn0 (fun r => LeD r (.tu [.a [.v (.int .i64 ((rnR (⟨c0, c1⟩ : Cab) l tk).lo)), .v (.int .i64 ((rnR (⟨c0, c1⟩ : Cab) l tk).hi))], .c (.v (.bool (rnB (⟨c0, c1⟩ : Cab) l tk)))])) := by
 obtain ⟨z, i1, i2, i3, i4, i5, i6⟩ := hi
 unfold rd_ref01_Count_0
 simp only [pngs_listC, rgs_listC, ints_listC]
 refine cond_i (fun h => ?_) (fun h => ?_)
 ·have h := of_decide_eq_true h
  refine lt_i fun x1 h1 => lt_i fun x2 h2 => ⟨⟨by trivial, by decide⟩, ?_⟩
  rw [wi (by omega)] at h1
  subst h1
  rw [Int.tdiv_eq_ediv_of_nonneg (by omega), wi (by omega)] at h2
  refine ⟨⟨numsP_pngs l, z, by omega, by omega⟩, cond_i (fun _ => trivial) (fun _ => lt_i fun _ _ => trivial), lt_i fun x5 h5 => lt_i fun x6 h6 => ?_⟩
  rw [wi (by omega)] at h5
  cases e : decide ((atR (⟨c0, c1⟩ : Cab) l x2).hi ≥ tk) with
  | true =>
   rw [e] at h5 h6
   have h5 : v0_0 = x5 := h5
   have h6 : x2 = x6 := h6
   subst h5 h6
   refine ⟨_, _, rfl, z, by omega, by omega, by omega, i4, fun x a b => ?_, by omega⟩
   exact (reB_mono z.1 tk) x2 x (by omega) (by omega) b e
  | false =>
   rw [e] at h5 h6
   have h5 : x2 + 1 = x5 := h5
   have h6 : v0_1 = x6 := h6
   subst h5 h6
   refine ⟨_, _, rfl, z, by omega, by omega, by omega, fun x a b => ?_, i5, by omega⟩
   cases c : reB (⟨c0, c1⟩ : Cab) l tk x with
   | false => rfl
   | true =>
    have e2 : decide ((atR (⟨c0, c1⟩ : Cab) l x2).hi ≥ tk) = true := (reB_mono z.1 tk) x x2 a (by omega) (by omega) c
    rw [e2] at e
    cases e
 ·have h := of_decide_eq_false h
  have e := low_of (reB_mono z.1 tk) ⟨⟨i1, by omega⟩, i4, fun x a b => i5 x (by omega) b⟩
  exact ⟨1000000000003, _, _, _, rfl, z, e, by omega, by omega, by omega, fun x h1 h2 => by omega, fun x h1 h2 => by omega, by omega⟩
theorem zero_ref01_Count_0 (c0 : Int) (c1 : Int) (l : List Png) (tk : Int) (v0_0 : Int) (v0_1 : Int)  (hi : (trOk (⟨c0, c1⟩ : Cab) l ∧ ∀ i, i < l.length → canB (⟨c0, c1⟩ : Cab) (pngAt l i) = true) ∧ 0 ≤ v0_0 ∧ v0_0 ≤ v0_1 ∧ v0_1 ≤ 1000000000001 ∧ (∀ x, 0 ≤ x → x < v0_0 → reB (⟨c0, c1⟩ : Cab) l tk x = false) ∧ (∀ x, v0_1 ≤ x → x ≤ 1000000000000 → reB (⟨c0, c1⟩ : Cab) l tk x = true) ∧ v0_1 - v0_0 + 1 < 0) : False := by
 omega
theorem rnd_ref01_Count_2 (c0 : Int) (c1 : Int) (l : List Png) (tk : Int) (v2_0 : Int) (v2_1 : Int) (v2_2 : Int) (nn2 : Nat) (hp : (trOk (⟨c0, c1⟩ : Cab) l ∧ (∀ i, i < (l).length → canB (⟨c0, c1⟩ : Cab) (pngAt l i) = true))) (hi : (trOk (⟨c0, c1⟩ : Cab) l ∧ ∀ i, i < l.length → canB (⟨c0, c1⟩ : Cab) (pngAt l i) = true) ∧ v2_2 = lowS (reB (⟨c0, c1⟩ : Cab) l tk) ∧ -1 ≤ v2_0 ∧ v2_0 ≤ v2_1 ∧ v2_1 ≤ 1000000000000 ∧ (∀ x, 0 ≤ x → x ≤ v2_0 → paB (⟨c0, c1⟩ : Cab) l tk x = false) ∧ (∀ x, v2_1 < x → x ≤ 1000000000000 → paB (⟨c0, c1⟩ : Cab) l tk x = true) ∧ v2_1 - v2_0 + 1 < (nn2 + 1)) : rd_ref01_Count_2 (J_ref01_Count c0 c1 l tk) c0 c1 l tk v2_0 v2_1 v2_2 nn2 (fun r => LeD r (.tu [.a [.v (.int .i64 ((rnR (⟨c0, c1⟩ : Cab) l tk).lo)), .v (.int .i64 ((rnR (⟨c0, c1⟩ : Cab) l tk).hi))], .c (.v (.bool (rnB (⟨c0, c1⟩ : Cab) l tk)))])) := by
 obtain ⟨z, i0, i1, i2, i3, i4, i5, i6⟩ := hi
 unfold rd_ref01_Count_2
 simp only [pngs_listC, rgs_listC, ints_listC]
 refine cond_i (fun h => ?_) (fun h => ?_)
 ·have h := of_decide_eq_true h
  refine lt_i fun x1 h1 => lt_i fun x2 h2 => lt_i fun x3 h3 => ⟨⟨by trivial, by decide⟩, ?_⟩
  rw [wi (by omega)] at h1
  subst h1
  rw [wi (by omega)] at h2
  subst h2
  rw [Int.tdiv_eq_ediv_of_nonneg (by omega), wi (by omega)] at h3
  refine ⟨⟨numsP_pngs l, z, by omega, by omega⟩, cond_i (fun _ => trivial) (fun _ => lt_i fun _ _ => trivial), lt_i fun x6 h6 => lt_i fun x7 h7 => ?_⟩
  rw [wi (by omega)] at h7
  have ep : paB (⟨c0, c1⟩ : Cab) l tk x3 = !decide ((atR (⟨c0, c1⟩ : Cab) l x3).lo ≤ tk) := by
   unfold paB
   by_cases c : (atR (⟨c0, c1⟩ : Cab) l x3).lo ≤ tk
   ·rw [decide_eq_true c, decide_eq_false (by omega)]; rfl
   ·rw [decide_eq_false c, decide_eq_true (by omega)]; rfl
  cases e : decide ((atR (⟨c0, c1⟩ : Cab) l x3).lo ≤ tk) with
  | true =>
   rw [e] at h6 h7 ep
   have h6 : x3 = x6 := h6
   have h7 : v2_1 = x7 := h7
   subst h6 h7
   refine ⟨_, _, _, rfl, z, i0, by omega, by omega, by omega, fun x a b => ?_, i5, by omega⟩
   cases c : paB (⟨c0, c1⟩ : Cab) l tk x with
   | false => rfl
   | true =>
    have e2 := (paB_mono z.1 tk) x x3 a (by omega) (by omega) c
    rw [ep] at e2
    cases e2
  | false =>
   rw [e] at h6 h7 ep
   have h6 : v2_0 = x6 := h6
   have h7 : x3 - 1 = x7 := h7
   subst h6 h7
   refine ⟨_, _, _, rfl, z, i0, by omega, by omega, by omega, i4, fun x a b => ?_, by omega⟩
   exact (paB_mono z.1 tk) x3 x (by omega) (by omega) b ep
 ·have h := of_decide_eq_false h
  have e := low_of (paB_mono z.1 tk) (r := v2_0 + 1) ⟨⟨by omega, by omega⟩, fun x a b => i4 x a (by omega), fun x a b => i5 x (by omega) b⟩
  have eR : cnR (⟨c0, c1⟩ : Cab) l tk = ⟨v2_2, v2_0⟩ := by unfold cnR; rw [← i0, ← e, show v2_0 + 1 - 1 = v2_0 by omega]
  unfold rnR rnB
  rw [eR]
  refine cond_i (fun g => ?_) (fun g => ?_)
  ·have g := of_decide_eq_true g
   rw [decide_eq_false (show ¬ (⟨v2_2, v2_0⟩ : Rg).lo ≤ (⟨v2_2, v2_0⟩ : Rg).hi by simp only; omega)]
   exact LeD.refl _
  ·have g := of_decide_eq_false g
   rw [decide_eq_true (show (⟨v2_2, v2_0⟩ : Rg).lo ≤ (⟨v2_2, v2_0⟩ : Rg).hi by simp only; omega)]
   exact LeD.refl _
theorem zero_ref01_Count_2 (c0 : Int) (c1 : Int) (l : List Png) (tk : Int) (v2_0 : Int) (v2_1 : Int) (v2_2 : Int)  (hi : (trOk (⟨c0, c1⟩ : Cab) l ∧ ∀ i, i < l.length → canB (⟨c0, c1⟩ : Cab) (pngAt l i) = true) ∧ v2_2 = lowS (reB (⟨c0, c1⟩ : Cab) l tk) ∧ -1 ≤ v2_0 ∧ v2_0 ≤ v2_1 ∧ v2_1 ≤ 1000000000000 ∧ (∀ x, 0 ≤ x → x ≤ v2_0 → paB (⟨c0, c1⟩ : Cab) l tk x = false) ∧ (∀ x, v2_1 < x → x ≤ 1000000000000 → paB (⟨c0, c1⟩ : Cab) l tk x = true) ∧ v2_1 - v2_0 + 1 < 0) : False := by
 omega
theorem spec_ref01_Count (c0 : Int) (c1 : Int) (l : List Png) (tk : Int) (hp : (trOk (⟨c0, c1⟩ : Cab) l ∧ (∀ i, i < (l).length → canB (⟨c0, c1⟩ : Cab) (pngAt l i) = true))) : vc_ref01_Count (J_ref01_Count c0 c1 l tk) c0 c1 l tk (fun r => LeD r (.tu [.a [.v (.int .i64 ((rnR (⟨c0, c1⟩ : Cab) l tk).lo)), .v (.int .i64 ((rnR (⟨c0, c1⟩ : Cab) l tk).hi))], .c (.v (.bool (rnB (⟨c0, c1⟩ : Cab) l tk)))])) := by
 unfold vc_ref01_Count
 exact ⟨1000000000003, _, _, rfl, hp, by omega, by omega, by omega, fun x h1 h2 => by omega, fun x h1 h2 => by omega, by omega⟩
theorem all_ref01_Count (c0 : Int) (c1 : Int) (l : List Png) (tk : Int) (hp : (trOk (⟨c0, c1⟩ : Cab) l ∧ (∀ i, i < (l).length → canB (⟨c0, c1⟩ : Cab) (pngAt l i) = true))) : AllG (J_ref01_Count c0 c1 l tk) (loopsFn Try.prog tab Sc45 ann_ref01_Count (J_ref01_Count c0 c1 l tk) Try.f68 (fun r => LeD r (.tu [.a [.v (.int .i64 ((rnR (⟨c0, c1⟩ : Cab) l tk).lo)), .v (.int .i64 ((rnR (⟨c0, c1⟩ : Cab) l tk).hi))], .c (.v (.bool (rnB (⟨c0, c1⟩ : Cab) l tk)))]))) := by
 rw [lp_ref01_Count]
 refine ⟨⟨?_, ?_⟩, ⟨?_, ?_⟩, trivial⟩
 ·intro F s h
  obtain _ | ⟨g, F⟩ := F
  case cons => exact h.elim
  obtain ⟨w0, w1, rfl, hi⟩ := h
  exact zero_ref01_Count_0 c0 c1 l tk w0 w1 hi
 ·intro n F s h
  obtain _ | ⟨g, F⟩ := F
  case cons => exact h.elim
  obtain ⟨w0, w1, rfl, hi⟩ := h
  rw [er_ref01_Count_0]
  exact rnd_ref01_Count_0 c0 c1 l tk _ _ _ hp hi
 ·intro F s h
  obtain _ | ⟨g, F⟩ := F
  case cons => exact h.elim
  obtain ⟨w0, w1, w2, rfl, hi⟩ := h
  exact zero_ref01_Count_2 c0 c1 l tk w0 w1 w2 hi
 ·intro n F s h
  obtain _ | ⟨g, F⟩ := F
  case cons => exact h.elim
  obtain ⟨w0, w1, w2, rfl, hi⟩ := h
  rw [er_ref01_Count_2]
  exact rnd_ref01_Count_2 c0 c1 l tk _ _ _ _ hp hi
def con_ref01_Count : Con := fun args => match args with
 | [.t (.a [.v (.int .i64 c0), .v (.int .i64 c1), .sl 4 n_l c_l]), .t (.c (.v (.int .i64 tk)))] => some (.tu [.a [.v (.int .i64 ((rnR (⟨c0, c1⟩ : Cab) (listC n_l mkPng c_l) tk).lo)), .v (.int .i64 ((rnR (⟨c0, c1⟩ : Cab) (listC n_l mkPng c_l) tk).hi))], .c (.v (.bool (rnB (⟨c0, c1⟩ : Cab) (listC n_l mkPng c_l) tk)))], some (numsP 4 n_l c_l ∧ (trOk (⟨c0, c1⟩ : Cab) (listC n_l mkPng c_l) ∧ (∀ i, i < ((listC n_l mkPng c_l)).length → canB (⟨c0, c1⟩ : Cab) (pngAt (listC n_l mkPng c_l) i) = true))), false)
 | _ => none
theorem ok_ref01_Count : Ok Try.prog 68 con_ref01_Count := by
 refine Ok.fn (ann := ann_ref01_Count) mixed tabOK VSc45 ValidIt.no (fn := Try.f68) (by kernel_rfl) (by kernel_rfl) fit_ref01_Count fun args r pre fresh h hp => ?_
 unfold con_ref01_Count at h
 split at h
 ·rename_i c0 c1 n_l c_l tk
  cases h
  obtain ⟨hp0, hp⟩ := hp
  refine ⟨rfl, J_ref01_Count c0 c1 (listC n_l mkPng c_l) tk, [.t (.a [.v (.int .i64 c0), .v (.int .i64 c1), .sl 4 ((listC n_l mkPng c_l).length) (pngsC (listC n_l mkPng c_l))]), .t (.c (.v (.int .i64 tk)))], ?_, Nat.le_of_ble_eq_true (by kernel_rfl), ?_, ?_⟩
  ·exact (LeA_cons (leT_a (LeCs.cons (LeC1.refl _) (LeCs.cons (LeC1.refl _) (LeCs.cons ((leL_Png hp0)) LeCs.nil)))) (LeA_cons (LeD.refl _) LeA_nil))
  ·rw [ev_ref01_Count]; exact spec_ref01_Count c0 c1 (listC n_l mkPng c_l) tk hp
  ·exact all_ref01_Count c0 c1 (listC n_l mkPng c_l) tk hp
 ·cases h
def Sc46 : Sum := addS Sc45 68 con_ref01_Count
theorem VSc46 : Valid Try.prog Sc46 := Valid.add VSc45 ok_ref01_Count
def vc_clock_question_reached (c0 : Int) (c1 : Int) (l : List Png) (ts : List Rg) (tk : Int) (ct : Int) (post : DV → Prop) : Prop := (numsP 4 l.length (pngsC l) ∧ numsP 2 ts.length (rgsC ts) ∧ trk (⟨c0, c1⟩ : Cab) (listC l.length mkPng (pngsC l)) (listC ts.length mkRg (rgsC ts)) ∧ 0 ≤ ct ∧ ct ≤ 1000000000000) ∧ (post (.t (.c (.v (.bool (decide (((atR (⟨c0, c1⟩ : Cab) (listC l.length mkPng (pngsC l)) ct).hi) ≥ tk)))))))
def ann_clock_question_reached : Ann := ⟨fun r => lookA r [(1, ([[], [0], [], [0, 1, 2], [0, 1, 2, 3], [], [5], [0, 1, 2, 3, 4, 5, 6], [0, 1, 2, 3, 4, 5, 6, 7]], [[8], [8], [8], [], [], [8], [8], [], []]))], fun _ => none, fun _ => [], noIt, false, fun _ => none, fun _ => none⟩
theorem ev_clock_question_reached (J : Inv) (c0 : Int) (c1 : Int) (l : List Png) (ts : List Rg) (tk : Int) (ct : Int) (post : DV → Prop) : evFn Try.prog tab Sc46 ann_clock_question_reached J Try.f112 [.t (.a [.v (.int .i64 c0), .v (.int .i64 c1), .sl 4 l.length (pngsC l), .sl 2 ts.length (rgsC ts), .v (.int .i64 tk)]), .t (.c (.v (.int .i64 ct)))] post = vc_clock_question_reached c0 c1 l ts tk ct post := by kernel_rfl
theorem fit_clock_question_reached : okFn ann_clock_question_reached Try.f112 = true := by kernel_rfl
theorem lp_clock_question_reached (J : Inv) (post : DV → Prop) : AllG J (loopsFn Try.prog tab Sc46 ann_clock_question_reached J Try.f112 post) = (True) := by kernel_rfl
theorem spec_clock_question_reached (c0 : Int) (c1 : Int) (l : List Png) (ts : List Rg) (tk : Int) (ct : Int) (hp : trk (⟨c0, c1⟩ : Cab) l ts ∧ 0 ≤ ct ∧ ct ≤ 1000000000000) : vc_clock_question_reached c0 c1 l ts tk ct (fun r => LeD r (.t (.c (.v (.bool (reB (⟨c0, c1⟩ : Cab) l tk ct)))))) := by
 unfold vc_clock_question_reached
 simp only [pngs_listC, rgs_listC, ints_listC]
 exact ⟨⟨numsP_pngs l, numsP_rgs ts, hp⟩, LeD.refl _⟩
def con_clock_question_reached : Con := fun args => match args with
 | [.t (.a [.v (.int .i64 c0), .v (.int .i64 c1), .sl 4 n_l c_l, .sl 2 n_ts c_ts, .v (.int .i64 tk)]), .t (.c (.v (.int .i64 ct)))] => some (.t (.c (.v (.bool (reB (⟨c0, c1⟩ : Cab) (listC n_l mkPng c_l) tk ct)))), some (numsP 4 n_l c_l ∧ numsP 2 n_ts c_ts ∧ trk (⟨c0, c1⟩ : Cab) (listC n_l mkPng c_l) (listC n_ts mkRg c_ts) ∧ 0 ≤ ct ∧ ct ≤ 1000000000000), false)
 | _ => none
theorem ok_clock_question_reached : Ok Try.prog 112 con_clock_question_reached := by
 refine Ok.fn (ann := ann_clock_question_reached) mixed tabOK VSc46 ValidIt.no (fn := Try.f112) (by kernel_rfl) (by kernel_rfl) fit_clock_question_reached fun args r pre fresh h hp => ?_
 unfold con_clock_question_reached at h
 split at h
 ·rename_i c0 c1 n_l c_l n_ts c_ts tk ct
  cases h
  obtain ⟨hp0, hp1, hp⟩ := hp
  refine ⟨rfl, fun _ _ _ => False, [.t (.a [.v (.int .i64 c0), .v (.int .i64 c1), .sl 4 ((listC n_l mkPng c_l).length) (pngsC (listC n_l mkPng c_l)), .sl 2 ((listC n_ts mkRg c_ts).length) (rgsC (listC n_ts mkRg c_ts)), .v (.int .i64 tk)]), .t (.c (.v (.int .i64 ct)))], ?_, Nat.le_of_ble_eq_true (by kernel_rfl), ?_, ?_⟩
  ·exact (LeA_cons (leT_a (LeCs.cons (LeC1.refl _) (LeCs.cons (LeC1.refl _) (LeCs.cons ((leL_Png hp0)) (LeCs.cons ((leL_Rg hp1)) (LeCs.cons (LeC1.refl _) LeCs.nil)))))) (LeA_cons (LeD.refl _) LeA_nil))
  ·rw [ev_clock_question_reached]; exact spec_clock_question_reached c0 c1 (listC n_l mkPng c_l) (listC n_ts mkRg c_ts) tk ct hp
  ·rw [lp_clock_question_reached]; trivial
 ·cases h
def Sc47 : Sum := addS Sc46 112 con_clock_question_reached
theorem VSc47 : Valid Try.prog Sc47 := Valid.add VSc46 ok_clock_question_reached
def vc_clock_question_passed (c0 : Int) (c1 : Int) (l : List Png) (ts : List Rg) (tk : Int) (ct : Int) (post : DV → Prop) : Prop := (numsP 4 l.length (pngsC l) ∧ numsP 2 ts.length (rgsC ts) ∧ trk (⟨c0, c1⟩ : Cab) (listC l.length mkPng (pngsC l)) (listC ts.length mkRg (rgsC ts)) ∧ 0 ≤ ct ∧ ct ≤ 1000000000000) ∧ (post (.t (.c (.v (.bool (decide (((atR (⟨c0, c1⟩ : Cab) (listC l.length mkPng (pngsC l)) ct).lo) > tk)))))))
def ann_clock_question_passed : Ann := ⟨fun r => lookA r [(1, ([[], [0], [], [0, 1, 2], [0, 1, 2, 3], [], [5], [0, 1, 2, 3, 4, 5, 6], [0, 1, 2, 3, 4, 5, 6, 7]], [[8], [8], [8], [], [], [8], [8], [], []]))], fun _ => none, fun _ => [], noIt, false, fun _ => none, fun _ => none⟩
theorem ev_clock_question_passed (J : Inv) (c0 : Int) (c1 : Int) (l : List Png) (ts : List Rg) (tk : Int) (ct : Int) (post : DV → Prop) : evFn Try.prog tab Sc47 ann_clock_question_passed J Try.f113 [.t (.a [.v (.int .i64 c0), .v (.int .i64 c1), .sl 4 l.length (pngsC l), .sl 2 ts.length (rgsC ts), .v (.int .i64 tk)]), .t (.c (.v (.int .i64 ct)))] post = vc_clock_question_passed c0 c1 l ts tk ct post := by kernel_rfl
theorem fit_clock_question_passed : okFn ann_clock_question_passed Try.f113 = true := by kernel_rfl
theorem lp_clock_question_passed (J : Inv) (post : DV → Prop) : AllG J (loopsFn Try.prog tab Sc47 ann_clock_question_passed J Try.f113 post) = (True) := by kernel_rfl
theorem spec_clock_question_passed (c0 : Int) (c1 : Int) (l : List Png) (ts : List Rg) (tk : Int) (ct : Int) (hp : trk (⟨c0, c1⟩ : Cab) l ts ∧ 0 ≤ ct ∧ ct ≤ 1000000000000) : vc_clock_question_passed c0 c1 l ts tk ct (fun r => LeD r (.t (.c (.v (.bool (paB (⟨c0, c1⟩ : Cab) l tk ct)))))) := by
 unfold vc_clock_question_passed
 simp only [pngs_listC, rgs_listC, ints_listC]
 exact ⟨⟨numsP_pngs l, numsP_rgs ts, hp⟩, LeD.refl _⟩
def con_clock_question_passed : Con := fun args => match args with
 | [.t (.a [.v (.int .i64 c0), .v (.int .i64 c1), .sl 4 n_l c_l, .sl 2 n_ts c_ts, .v (.int .i64 tk)]), .t (.c (.v (.int .i64 ct)))] => some (.t (.c (.v (.bool (paB (⟨c0, c1⟩ : Cab) (listC n_l mkPng c_l) tk ct)))), some (numsP 4 n_l c_l ∧ numsP 2 n_ts c_ts ∧ trk (⟨c0, c1⟩ : Cab) (listC n_l mkPng c_l) (listC n_ts mkRg c_ts) ∧ 0 ≤ ct ∧ ct ≤ 1000000000000), false)
 | _ => none
theorem ok_clock_question_passed : Ok Try.prog 113 con_clock_question_passed := by
 refine Ok.fn (ann := ann_clock_question_passed) mixed tabOK VSc47 ValidIt.no (fn := Try.f113) (by kernel_rfl) (by kernel_rfl) fit_clock_question_passed fun args r pre fresh h hp => ?_
 unfold con_clock_question_passed at h
 split at h
 ·rename_i c0 c1 n_l c_l n_ts c_ts tk ct
  cases h
  obtain ⟨hp0, hp1, hp⟩ := hp
  refine ⟨rfl, fun _ _ _ => False, [.t (.a [.v (.int .i64 c0), .v (.int .i64 c1), .sl 4 ((listC n_l mkPng c_l).length) (pngsC (listC n_l mkPng c_l)), .sl 2 ((listC n_ts mkRg c_ts).length) (rgsC (listC n_ts mkRg c_ts)), .v (.int .i64 tk)]), .t (.c (.v (.int .i64 ct)))], ?_, Nat.le_of_ble_eq_true (by kernel_rfl), ?_, ?_⟩
  ·exact (LeA_cons (leT_a (LeCs.cons (LeC1.refl _) (LeCs.cons (LeC1.refl _) (LeCs.cons ((leL_Png hp0)) (LeCs.cons ((leL_Rg hp1)) (LeCs.cons (LeC1.refl _) LeCs.nil)))))) (LeA_cons (LeD.refl _) LeA_nil))
  ·rw [ev_clock_question_passed]; exact spec_clock_question_passed c0 c1 (listC n_l mkPng c_l) (listC n_ts mkRg c_ts) tk ct hp
  ·rw [lp_clock_question_passed]; trivial
 ·cases h
def Sc48 : Sum := addS Sc47 113 con_clock_question_passed
theorem VSc48 : Valid Try.prog Sc48 := Valid.add VSc47 ok_clock_question_passed
def mk_clock_lowest_a_0 (bot : Int) (top : Int) (c0 : Int) (c1 : Int) (l : List Png) (ts : List Rg) (tk : Int) (v0_0 : Int) (v0_1 : Int) : DS := ⟨[some (.t (.c (.v (.int .i64 v0_0)))), some (.t (.c (.v (.int .i64 v0_1)))), some (.t (.fb 112 [.v (.int .i64 c0), .v (.int .i64 c1), .sl 4 l.length (pngsC l), .sl 2 ts.length (rgsC ts), .v (.int .i64 tk)])), none, none, none, none, none, none, none, none, none, none, none, none, none, none, none, none, none, none, none, none, none, none], [none, none, none, none, none, none, none, none, none, none, none, none, none, none, none, none, none, none, none, none, none, none, none, none, none]⟩
def vc_clock_lowest_a (J : Inv) (bot : Int) (top : Int) (c0 : Int) (c1 : Int) (l : List Png) (ts : List Rg) (tk : Int) (post : DV → Prop) : Prop := ∃ n, J 0 (n :: []) (mk_clock_lowest_a_0 bot top c0 c1 l ts tk bot top)
def ann_clock_lowest_a : Ann := ⟨fun _ => none, fun b => lookA b [(0, (none, some ⟨[0, 1, 2], [], []⟩))], fun _ => [], noIt, false, fun _ => none, fun _ => none⟩
theorem ev_clock_lowest_a (J : Inv) (bot : Int) (top : Int) (c0 : Int) (c1 : Int) (l : List Png) (ts : List Rg) (tk : Int) (post : DV → Prop) : evFn Try.prog tab Sc48 ann_clock_lowest_a J Try.f111 [.t (.c (.v (.int .i64 bot))), .t (.c (.v (.int .i64 top))), .t (.fb 112 [.v (.int .i64 c0), .v (.int .i64 c1), .sl 4 l.length (pngsC l), .sl 2 ts.length (rgsC ts), .v (.int .i64 tk)])] post = vc_clock_lowest_a J bot top c0 c1 l ts tk post := by kernel_rfl
theorem fit_clock_lowest_a : okFn ann_clock_lowest_a Try.f111 = true := by kernel_rfl
def rd_clock_lowest_a_0 (J : Inv) (bot : Int) (top : Int) (c0 : Int) (c1 : Int) (l : List Png) (ts : List Rg) (tk : Int) (v0_0 : Int) (v0_1 : Int) (nn0 : Nat) (post : DV → Prop) : Prop := cond (decide (v0_0 ≤ v0_1)) (lt (IntKind.i64.wrap (v0_1 - v0_0)) fun x1 => lt (IntKind.i64.wrap (Int.tdiv x1 (2 : Int))) fun x2 => (IntKind.i64 = IntKind.i64 ∧ (2 : Int) ≠ 0) ∧ (lt (IntKind.i64.wrap (v0_0 + x2)) fun x3 => (numsP 4 l.length (pngsC l) ∧ numsP 2 ts.length (rgsC ts) ∧ trk (⟨c0, c1⟩ : Cab) (listC l.length mkPng (pngsC l)) (listC ts.length mkRg (rgsC ts)) ∧ 0 ≤ x3 ∧ x3 ≤ 1000000000000) ∧ (cond (reB (⟨c0, c1⟩ : Cab) (listC l.length mkPng (pngsC l)) tk x3) (lt (IntKind.i64.wrap (x3 - (1 : Int))) fun x4 => J 0 (nn0 :: []) (mk_clock_lowest_a_0 bot top c0 c1 l ts tk v0_0 x4)) (lt (IntKind.i64.wrap (x3 + (1 : Int))) fun x5 => J 0 (nn0 :: []) (mk_clock_lowest_a_0 bot top c0 c1 l ts tk x5 v0_1))))) (post (.t (.c (.v (.int .i64 v0_0)))))
theorem er_clock_lowest_a_0 (J : Inv) (bot : Int) (top : Int) (c0 : Int) (c1 : Int) (l : List Png) (ts : List Rg) (tk : Int) (v0_0 : Int) (v0_1 : Int) (nn0 : Nat) (post : DV → Prop) : round Try.prog tab Sc48 ann_clock_lowest_a J Try.f111 post 0 (nn0 :: []) (mk_clock_lowest_a_0 bot top c0 c1 l ts tk v0_0 v0_1) = rd_clock_lowest_a_0 J bot top c0 c1 l ts tk v0_0 v0_1 nn0 post := by kernel_rfl
theorem lp_clock_lowest_a (J : Inv) (post : DV → Prop) : AllG J (loopsFn Try.prog tab Sc48 ann_clock_lowest_a J Try.f111 post) = (((∀ F s, ¬ J 0 (0 :: F) s) ∧ ∀ n F s, J 0 ((n + 1) :: F) s → round Try.prog tab Sc48 ann_clock_lowest_a J Try.f111 post 0 (n :: F) s) ∧ True) := by kernel_rfl
def J_clock_lowest_a (bot : Int) (top : Int) (c0 : Int) (c1 : Int) (l : List Png) (ts : List Rg) (tk : Int) : Inv := fun b F s => match b, F with
 | 0, [nn0] => ∃ (v0_0 : Int) (v0_1 : Int), s = mk_clock_lowest_a_0 bot top c0 c1 l ts tk v0_0 v0_1 ∧ ((trk (⟨c0, c1⟩ : Cab) l ts ∧ bot = 0 ∧ top = 1000000000000) ∧ 0 ≤ v0_0 ∧ v0_0 ≤ v0_1 + 1 ∧ v0_1 ≤ 1000000000000 ∧ (∀ x, 0 ≤ x → x < v0_0 → reB (⟨c0, c1⟩ : Cab) l tk x = false) ∧ (∀ x, v0_1 < x → x ≤ 1000000000000 → reB (⟨c0, c1⟩ : Cab) l tk x = true) ∧ v0_1 - v0_0 + 1 < nn0)
 | _, _ => False
theorem rnd_clock_lowest_a_0 (bot : Int) (top : Int) (c0 : Int) (c1 : Int) (l : List Png) (ts : List Rg) (tk : Int) (v0_0 : Int) (v0_1 : Int) (nn0 : Nat) (hp : trk (⟨c0, c1⟩ : Cab) l ts ∧ bot = 0 ∧ top = 1000000000000) (hi : (trk (⟨c0, c1⟩ : Cab) l ts ∧ bot = 0 ∧ top = 1000000000000) ∧ 0 ≤ v0_0 ∧ v0_0 ≤ v0_1 + 1 ∧ v0_1 ≤ 1000000000000 ∧ (∀ x, 0 ≤ x → x < v0_0 → reB (⟨c0, c1⟩ : Cab) l tk x = false) ∧ (∀ x, v0_1 < x → x ≤ 1000000000000 → reB (⟨c0, c1⟩ : Cab) l tk x = true) ∧ v0_1 - v0_0 + 1 < (nn0 + 1)) : rd_clock_lowest_a_0 (J_clock_lowest_a bot top c0 c1 l ts tk) bot top c0 c1 l ts tk v0_0 v0_1 nn0 (fun r => LeD r (.t (.c (.v (.int .i64 (lowS (reB (⟨c0, c1⟩ : Cab) l tk))))))) := by
 obtain ⟨z, i1, i2, i3, i4, i5, i6⟩ := hi
 unfold rd_clock_lowest_a_0
 simp only [pngs_listC, rgs_listC, ints_listC]
 refine cond_i (fun h => ?_) (fun h => ?_)
 ·have h := of_decide_eq_true h
  refine lt_i fun x1 h1 => lt_i fun x2 h2 => ⟨⟨by trivial, by decide⟩, lt_i fun x3 h3 => ?_⟩
  rw [wi (by omega)] at h1
  subst h1
  rw [Int.tdiv_eq_ediv_of_nonneg (by omega), wi (by omega)] at h2
  subst h2
  rw [wi (by omega)] at h3
  refine ⟨⟨numsP_pngs l, numsP_rgs ts, z.1, by omega, by omega⟩, cond_i (fun g => lt_i fun x5 h5 => ?_) (fun g => lt_i fun x5 h5 => ?_)⟩
  all_goals
   rw [wi (by omega)] at h5
   subst h5
  ·refine ⟨_, _, rfl, z, by omega, by omega, by omega, i4, fun x a b => ?_, by omega⟩
   by_cases c : v0_1 < x
   ·exact i5 x c b
   ·exact (reB_mono z.1.1 tk) x3 x (by omega) (by omega) (by omega) g
  ·refine ⟨_, _, rfl, z, by omega, by omega, by omega, fun x a b => ?_, i5, by omega⟩
   by_cases c : x < v0_0
   ·exact i4 x a c
   ·cases e : reB (⟨c0, c1⟩ : Cab) l tk x with
    | false => rfl
    | true =>
     have e2 := (reB_mono z.1.1 tk) x x3 a (by omega) (by omega) e
     rw [e2] at g
     cases g
 ·have h := of_decide_eq_false h
  refine leI (low_of (reB_mono z.1.1 tk) ⟨⟨i1, by omega⟩, i4, fun x a b => i5 x (by omega) b⟩)
theorem zero_clock_lowest_a_0 (bot : Int) (top : Int) (c0 : Int) (c1 : Int) (l : List Png) (ts : List Rg) (tk : Int) (v0_0 : Int) (v0_1 : Int)  (hi : (trk (⟨c0, c1⟩ : Cab) l ts ∧ bot = 0 ∧ top = 1000000000000) ∧ 0 ≤ v0_0 ∧ v0_0 ≤ v0_1 + 1 ∧ v0_1 ≤ 1000000000000 ∧ (∀ x, 0 ≤ x → x < v0_0 → reB (⟨c0, c1⟩ : Cab) l tk x = false) ∧ (∀ x, v0_1 < x → x ≤ 1000000000000 → reB (⟨c0, c1⟩ : Cab) l tk x = true) ∧ v0_1 - v0_0 + 1 < 0) : False := by
 omega
theorem spec_clock_lowest_a (bot : Int) (top : Int) (c0 : Int) (c1 : Int) (l : List Png) (ts : List Rg) (tk : Int) (hp : trk (⟨c0, c1⟩ : Cab) l ts ∧ bot = 0 ∧ top = 1000000000000) : vc_clock_lowest_a (J_clock_lowest_a bot top c0 c1 l ts tk) bot top c0 c1 l ts tk (fun r => LeD r (.t (.c (.v (.int .i64 (lowS (reB (⟨c0, c1⟩ : Cab) l tk))))))) := by
 unfold vc_clock_lowest_a
 obtain ⟨z, rfl, rfl⟩ := hp
 exact ⟨1000000000003, _, _, rfl, ⟨z, rfl, rfl⟩, by omega, by omega, by omega, fun x h1 h2 => by omega, fun x h1 h2 => by omega, by omega⟩
theorem all_clock_lowest_a (bot : Int) (top : Int) (c0 : Int) (c1 : Int) (l : List Png) (ts : List Rg) (tk : Int) (hp : trk (⟨c0, c1⟩ : Cab) l ts ∧ bot = 0 ∧ top = 1000000000000) : AllG (J_clock_lowest_a bot top c0 c1 l ts tk) (loopsFn Try.prog tab Sc48 ann_clock_lowest_a (J_clock_lowest_a bot top c0 c1 l ts tk) Try.f111 (fun r => LeD r (.t (.c (.v (.int .i64 (lowS (reB (⟨c0, c1⟩ : Cab) l tk)))))))) := by
 rw [lp_clock_lowest_a]
 refine ⟨⟨?_, ?_⟩, trivial⟩
 ·intro F s h
  obtain _ | ⟨g, F⟩ := F
  case cons => exact h.elim
  obtain ⟨w0, w1, rfl, hi⟩ := h
  exact zero_clock_lowest_a_0 bot top c0 c1 l ts tk w0 w1 hi
 ·intro n F s h
  obtain _ | ⟨g, F⟩ := F
  case cons => exact h.elim
  obtain ⟨w0, w1, rfl, hi⟩ := h
  rw [er_clock_lowest_a_0]
  exact rnd_clock_lowest_a_0 bot top c0 c1 l ts tk _ _ _ hp hi
def con_clock_lowest_a : Con := fun args => match args with
 | [.t (.c (.v (.int .i64 bot))), .t (.c (.v (.int .i64 top))), .t (.fb 112 [.v (.int .i64 c0), .v (.int .i64 c1), .sl 4 n_l c_l, .sl 2 n_ts c_ts, .v (.int .i64 tk)])] => some (.t (.c (.v (.int .i64 (lowS (reB (⟨c0, c1⟩ : Cab) (listC n_l mkPng c_l) tk))))), some (numsP 4 n_l c_l ∧ numsP 2 n_ts c_ts ∧ trk (⟨c0, c1⟩ : Cab) (listC n_l mkPng c_l) (listC n_ts mkRg c_ts) ∧ bot = 0 ∧ top = 1000000000000), false)
 | _ => none
theorem ok_clock_lowest_a : Ok Try.prog 111 con_clock_lowest_a := by
 refine Ok.fn (ann := ann_clock_lowest_a) mixed tabOK VSc48 ValidIt.no (fn := Try.f111) (by kernel_rfl) (by kernel_rfl) fit_clock_lowest_a fun args r pre fresh h hp => ?_
 unfold con_clock_lowest_a at h
 split at h
 ·rename_i bot top c0 c1 n_l c_l n_ts c_ts tk
  cases h
  obtain ⟨hp0, hp1, hp⟩ := hp
  refine ⟨rfl, J_clock_lowest_a bot top c0 c1 (listC n_l mkPng c_l) (listC n_ts mkRg c_ts) tk, [.t (.c (.v (.int .i64 bot))), .t (.c (.v (.int .i64 top))), .t (.fb 112 [.v (.int .i64 c0), .v (.int .i64 c1), .sl 4 ((listC n_l mkPng c_l).length) (pngsC (listC n_l mkPng c_l)), .sl 2 ((listC n_ts mkRg c_ts).length) (rgsC (listC n_ts mkRg c_ts)), .v (.int .i64 tk)])], ?_, Nat.le_of_ble_eq_true (by kernel_rfl), ?_, ?_⟩
  ·exact (LeA_cons (LeD.refl _) (LeA_cons (LeD.refl _) (LeA_cons (leT_b (LeCs.cons (LeC1.refl _) (LeCs.cons (LeC1.refl _) (LeCs.cons ((leL_Png hp0)) (LeCs.cons ((leL_Rg hp1)) (LeCs.cons (LeC1.refl _) LeCs.nil)))))) LeA_nil)))
  ·rw [ev_clock_lowest_a]; exact spec_clock_lowest_a bot top c0 c1 (listC n_l mkPng c_l) (listC n_ts mkRg c_ts) tk hp
  ·exact all_clock_lowest_a bot top c0 c1 (listC n_l mkPng c_l) (listC n_ts mkRg c_ts) tk hp
 ·cases h
def Sc49 : Sum := addF Sc48 111 con_clock_lowest_a
theorem VSc49 : Valid Try.prog Sc49 := Valid.addF VSc48 ok_clock_lowest_a
def mk_clock_lowest_b_0 (bot : Int) (top : Int) (c0 : Int) (c1 : Int) (l : List Png) (ts : List Rg) (tk : Int) (v0_0 : Int) (v0_1 : Int) : DS := ⟨[some (.t (.c (.v (.int .i64 v0_0)))), some (.t (.c (.v (.int .i64 v0_1)))), some (.t (.fb 113 [.v (.int .i64 c0), .v (.int .i64 c1), .sl 4 l.length (pngsC l), .sl 2 ts.length (rgsC ts), .v (.int .i64 tk)])), none, none, none, none, none, none, none, none, none, none, none, none, none, none, none, none, none, none, none, none, none, none], [none, none, none, none, none, none, none, none, none, none, none, none, none, none, none, none, none, none, none, none, none, none, none, none, none]⟩
def vc_clock_lowest_b (J : Inv) (bot : Int) (top : Int) (c0 : Int) (c1 : Int) (l : List Png) (ts : List Rg) (tk : Int) (post : DV → Prop) : Prop := ∃ n, J 0 (n :: []) (mk_clock_lowest_b_0 bot top c0 c1 l ts tk bot top)
def ann_clock_lowest_b : Ann := ⟨fun _ => none, fun b => lookA b [(0, (none, some ⟨[0, 1, 2], [], []⟩))], fun _ => [], noIt, false, fun _ => none, fun _ => none⟩
theorem ev_clock_lowest_b (J : Inv) (bot : Int) (top : Int) (c0 : Int) (c1 : Int) (l : List Png) (ts : List Rg) (tk : Int) (post : DV → Prop) : evFn Try.prog tab Sc49 ann_clock_lowest_b J Try.f111 [.t (.c (.v (.int .i64 bot))), .t (.c (.v (.int .i64 top))), .t (.fb 113 [.v (.int .i64 c0), .v (.int .i64 c1), .sl 4 l.length (pngsC l), .sl 2 ts.length (rgsC ts), .v (.int .i64 tk)])] post = vc_clock_lowest_b J bot top c0 c1 l ts tk post := by kernel_rfl
theorem fit_clock_lowest_b : okFn ann_clock_lowest_b Try.f111 = true := by kernel_rfl
def rd_clock_lowest_b_0 (J : Inv) (bot : Int) (top : Int) (c0 : Int) (c1 : Int) (l : List Png) (ts : List Rg) (tk : Int) (v0_0 : Int) (v0_1 : Int) (nn0 : Nat) (post : DV → Prop) : Prop := cond (decide (v0_0 ≤ v0_1)) (lt (IntKind.i64.wrap (v0_1 - v0_0)) fun x1 => lt (IntKind.i64.wrap (Int.tdiv x1 (2 : Int))) fun x2 => (IntKind.i64 = IntKind.i64 ∧ (2 : Int) ≠ 0) ∧ (lt (IntKind.i64.wrap (v0_0 + x2)) fun x3 => (numsP 4 l.length (pngsC l) ∧ numsP 2 ts.length (rgsC ts) ∧ trk (⟨c0, c1⟩ : Cab) (listC l.length mkPng (pngsC l)) (listC ts.length mkRg (rgsC ts)) ∧ 0 ≤ x3 ∧ x3 ≤ 1000000000000) ∧ (cond (paB (⟨c0, c1⟩ : Cab) (listC l.length mkPng (pngsC l)) tk x3) (lt (IntKind.i64.wrap (x3 - (1 : Int))) fun x4 => J 0 (nn0 :: []) (mk_clock_lowest_b_0 bot top c0 c1 l ts tk v0_0 x4)) (lt (IntKind.i64.wrap (x3 + (1 : Int))) fun x5 => J 0 (nn0 :: []) (mk_clock_lowest_b_0 bot top c0 c1 l ts tk x5 v0_1))))) (post (.t (.c (.v (.int .i64 v0_0)))))
theorem er_clock_lowest_b_0 (J : Inv) (bot : Int) (top : Int) (c0 : Int) (c1 : Int) (l : List Png) (ts : List Rg) (tk : Int) (v0_0 : Int) (v0_1 : Int) (nn0 : Nat) (post : DV → Prop) : round Try.prog tab Sc49 ann_clock_lowest_b J Try.f111 post 0 (nn0 :: []) (mk_clock_lowest_b_0 bot top c0 c1 l ts tk v0_0 v0_1) = rd_clock_lowest_b_0 J bot top c0 c1 l ts tk v0_0 v0_1 nn0 post := by kernel_rfl
theorem lp_clock_lowest_b (J : Inv) (post : DV → Prop) : AllG J (loopsFn Try.prog tab Sc49 ann_clock_lowest_b J Try.f111 post) = (((∀ F s, ¬ J 0 (0 :: F) s) ∧ ∀ n F s, J 0 ((n + 1) :: F) s → round Try.prog tab Sc49 ann_clock_lowest_b J Try.f111 post 0 (n :: F) s) ∧ True) := by kernel_rfl
def J_clock_lowest_b (bot : Int) (top : Int) (c0 : Int) (c1 : Int) (l : List Png) (ts : List Rg) (tk : Int) : Inv := fun b F s => match b, F with
 | 0, [nn0] => ∃ (v0_0 : Int) (v0_1 : Int), s = mk_clock_lowest_b_0 bot top c0 c1 l ts tk v0_0 v0_1 ∧ ((trk (⟨c0, c1⟩ : Cab) l ts ∧ bot = 0 ∧ top = 1000000000000) ∧ 0 ≤ v0_0 ∧ v0_0 ≤ v0_1 + 1 ∧ v0_1 ≤ 1000000000000 ∧ (∀ x, 0 ≤ x → x < v0_0 → paB (⟨c0, c1⟩ : Cab) l tk x = false) ∧ (∀ x, v0_1 < x → x ≤ 1000000000000 → paB (⟨c0, c1⟩ : Cab) l tk x = true) ∧ v0_1 - v0_0 + 1 < nn0)
 | _, _ => False
theorem rnd_clock_lowest_b_0 (bot : Int) (top : Int) (c0 : Int) (c1 : Int) (l : List Png) (ts : List Rg) (tk : Int) (v0_0 : Int) (v0_1 : Int) (nn0 : Nat) (hp : trk (⟨c0, c1⟩ : Cab) l ts ∧ bot = 0 ∧ top = 1000000000000) (hi : (trk (⟨c0, c1⟩ : Cab) l ts ∧ bot = 0 ∧ top = 1000000000000) ∧ 0 ≤ v0_0 ∧ v0_0 ≤ v0_1 + 1 ∧ v0_1 ≤ 1000000000000 ∧ (∀ x, 0 ≤ x → x < v0_0 → paB (⟨c0, c1⟩ : Cab) l tk x = false) ∧ (∀ x, v0_1 < x → x ≤ 1000000000000 → paB (⟨c0, c1⟩ : Cab) l tk x = true) ∧ v0_1 - v0_0 + 1 < (nn0 + 1)) : rd_clock_lowest_b_0 (J_clock_lowest_b bot top c0 c1 l ts tk) bot top c0 c1 l ts tk v0_0 v0_1 nn0 (fun r => LeD r (.t (.c (.v (.int .i64 (lowS (paB (⟨c0, c1⟩ : Cab) l tk))))))) := by
 obtain ⟨z, i1, i2, i3, i4, i5, i6⟩ := hi
 unfold rd_clock_lowest_b_0
 simp only [pngs_listC, rgs_listC, ints_listC]
 refine cond_i (fun h => ?_) (fun h => ?_)
 ·have h := of_decide_eq_true h
  refine lt_i fun x1 h1 => lt_i fun x2 h2 => ⟨⟨by trivial, by decide⟩, lt_i fun x3 h3 => ?_⟩
  rw [wi (by omega)] at h1
  subst h1
  rw [Int.tdiv_eq_ediv_of_nonneg (by omega), wi (by omega)] at h2
  subst h2
  rw [wi (by omega)] at h3
  refine ⟨⟨numsP_pngs l, numsP_rgs ts, z.1, by omega, by omega⟩, cond_i (fun g => lt_i fun x5 h5 => ?_) (fun g => lt_i fun x5 h5 => ?_)⟩
  all_goals
   rw [wi (by omega)] at h5
   subst h5
  ·refine ⟨_, _, rfl, z, by omega, by omega, by omega, i4, fun x a b => ?_, by omega⟩
   by_cases c : v0_1 < x
   ·exact i5 x c b
   ·exact (paB_mono z.1.1 tk) x3 x (by omega) (by omega) (by omega) g
  ·refine ⟨_, _, rfl, z, by omega, by omega, by omega, fun x a b => ?_, i5, by omega⟩
   by_cases c : x < v0_0
   ·exact i4 x a c
   ·cases e : paB (⟨c0, c1⟩ : Cab) l tk x with
    | false => rfl
    | true =>
     have e2 := (paB_mono z.1.1 tk) x x3 a (by omega) (by omega) e
     rw [e2] at g
     cases g
 ·have h := of_decide_eq_false h
  refine leI (low_of (paB_mono z.1.1 tk) ⟨⟨i1, by omega⟩, i4, fun x a b => i5 x (by omega) b⟩)
theorem zero_clock_lowest_b_0 (bot : Int) (top : Int) (c0 : Int) (c1 : Int) (l : List Png) (ts : List Rg) (tk : Int) (v0_0 : Int) (v0_1 : Int)  (hi : (trk (⟨c0, c1⟩ : Cab) l ts ∧ bot = 0 ∧ top = 1000000000000) ∧ 0 ≤ v0_0 ∧ v0_0 ≤ v0_1 + 1 ∧ v0_1 ≤ 1000000000000 ∧ (∀ x, 0 ≤ x → x < v0_0 → paB (⟨c0, c1⟩ : Cab) l tk x = false) ∧ (∀ x, v0_1 < x → x ≤ 1000000000000 → paB (⟨c0, c1⟩ : Cab) l tk x = true) ∧ v0_1 - v0_0 + 1 < 0) : False := by
 omega
theorem spec_clock_lowest_b (bot : Int) (top : Int) (c0 : Int) (c1 : Int) (l : List Png) (ts : List Rg) (tk : Int) (hp : trk (⟨c0, c1⟩ : Cab) l ts ∧ bot = 0 ∧ top = 1000000000000) : vc_clock_lowest_b (J_clock_lowest_b bot top c0 c1 l ts tk) bot top c0 c1 l ts tk (fun r => LeD r (.t (.c (.v (.int .i64 (lowS (paB (⟨c0, c1⟩ : Cab) l tk))))))) := by
 unfold vc_clock_lowest_b
 obtain ⟨z, rfl, rfl⟩ := hp
 exact ⟨1000000000003, _, _, rfl, ⟨z, rfl, rfl⟩, by omega, by omega, by omega, fun x h1 h2 => by omega, fun x h1 h2 => by omega, by omega⟩
theorem all_clock_lowest_b (bot : Int) (top : Int) (c0 : Int) (c1 : Int) (l : List Png) (ts : List Rg) (tk : Int) (hp : trk (⟨c0, c1⟩ : Cab) l ts ∧ bot = 0 ∧ top = 1000000000000) : AllG (J_clock_lowest_b bot top c0 c1 l ts tk) (loopsFn Try.prog tab Sc49 ann_clock_lowest_b (J_clock_lowest_b bot top c0 c1 l ts tk) Try.f111 (fun r => LeD r (.t (.c (.v (.int .i64 (lowS (paB (⟨c0, c1⟩ : Cab) l tk)))))))) := by
 rw [lp_clock_lowest_b]
 refine ⟨⟨?_, ?_⟩, trivial⟩
 ·intro F s h
  obtain _ | ⟨g, F⟩ := F
  case cons => exact h.elim
  obtain ⟨w0, w1, rfl, hi⟩ := h
  exact zero_clock_lowest_b_0 bot top c0 c1 l ts tk w0 w1 hi
 ·intro n F s h
  obtain _ | ⟨g, F⟩ := F
  case cons => exact h.elim
  obtain ⟨w0, w1, rfl, hi⟩ := h
  rw [er_clock_lowest_b_0]
  exact rnd_clock_lowest_b_0 bot top c0 c1 l ts tk _ _ _ hp hi
def con_clock_lowest_b : Con := fun args => match args with
 | [.t (.c (.v (.int .i64 bot))), .t (.c (.v (.int .i64 top))), .t (.fb 113 [.v (.int .i64 c0), .v (.int .i64 c1), .sl 4 n_l c_l, .sl 2 n_ts c_ts, .v (.int .i64 tk)])] => some (.t (.c (.v (.int .i64 (lowS (paB (⟨c0, c1⟩ : Cab) (listC n_l mkPng c_l) tk))))), some (numsP 4 n_l c_l ∧ numsP 2 n_ts c_ts ∧ trk (⟨c0, c1⟩ : Cab) (listC n_l mkPng c_l) (listC n_ts mkRg c_ts) ∧ bot = 0 ∧ top = 1000000000000), false)
 | _ => none
theorem ok_clock_lowest_b : Ok Try.prog 111 con_clock_lowest_b := by
 refine Ok.fn (ann := ann_clock_lowest_b) mixed tabOK VSc49 ValidIt.no (fn := Try.f111) (by kernel_rfl) (by kernel_rfl) fit_clock_lowest_b fun args r pre fresh h hp => ?_
 unfold con_clock_lowest_b at h
 split at h
 ·rename_i bot top c0 c1 n_l c_l n_ts c_ts tk
  cases h
  obtain ⟨hp0, hp1, hp⟩ := hp
  refine ⟨rfl, J_clock_lowest_b bot top c0 c1 (listC n_l mkPng c_l) (listC n_ts mkRg c_ts) tk, [.t (.c (.v (.int .i64 bot))), .t (.c (.v (.int .i64 top))), .t (.fb 113 [.v (.int .i64 c0), .v (.int .i64 c1), .sl 4 ((listC n_l mkPng c_l).length) (pngsC (listC n_l mkPng c_l)), .sl 2 ((listC n_ts mkRg c_ts).length) (rgsC (listC n_ts mkRg c_ts)), .v (.int .i64 tk)])], ?_, Nat.le_of_ble_eq_true (by kernel_rfl), ?_, ?_⟩
  ·exact (LeA_cons (LeD.refl _) (LeA_cons (LeD.refl _) (LeA_cons (leT_b (LeCs.cons (LeC1.refl _) (LeCs.cons (LeC1.refl _) (LeCs.cons ((leL_Png hp0)) (LeCs.cons ((leL_Rg hp1)) (LeCs.cons (LeC1.refl _) LeCs.nil)))))) LeA_nil)))
  ·rw [ev_clock_lowest_b]; exact spec_clock_lowest_b bot top c0 c1 (listC n_l mkPng c_l) (listC n_ts mkRg c_ts) tk hp
  ·exact all_clock_lowest_b bot top c0 c1 (listC n_l mkPng c_l) (listC n_ts mkRg c_ts) tk hp
 ·cases h
def Sc50 : Sum := addF Sc49 111 con_clock_lowest_b
theorem VSc50 : Valid Try.prog Sc50 := Valid.addF VSc49 ok_clock_lowest_b
def vc_clock_CountAt (c0 : Int) (c1 : Int) (l : List Png) (tk : Int) (post : DV → Prop) : Prop := (numsP 4 l.length (pngsC l)) ∧ (cond ((obE (⟨c0, c1⟩ : Cab) (listC l.length mkPng (pngsC l)) tk) != (0 : Int)) (post (.tu [.a [.v (.int .i64 0), .v (.int .i64 0)], .c (.v (.int .i64 (obE (⟨c0, c1⟩ : Cab) (listC l.length mkPng (pngsC l)) tk)))])) ((numsP 4 ((listC l.length mkPng (pngsC l)).length) (pngsC (listC l.length mkPng (pngsC l))) ∧ numsP 2 ((opT (⟨c0, c1⟩ : Cab) (listC l.length mkPng (pngsC l))).length) (rgsC (opT (⟨c0, c1⟩ : Cab) (listC l.length mkPng (pngsC l)))) ∧ trk (⟨c0, c1⟩ : Cab) (listC ((listC l.length mkPng (pngsC l)).length) mkPng (pngsC (listC l.length mkPng (pngsC l)))) (listC ((opT (⟨c0, c1⟩ : Cab) (listC l.length mkPng (pngsC l))).length) mkRg (rgsC (opT (⟨c0, c1⟩ : Cab) (listC l.length mkPng (pngsC l))))) ∧ (0 : Int) = 0 ∧ (1000000000000 : Int) = 1000000000000) ∧ ((numsP 4 ((listC l.length mkPng (pngsC l)).length) (pngsC (listC l.length mkPng (pngsC l))) ∧ numsP 2 ((opT (⟨c0, c1⟩ : Cab) (listC l.length mkPng (pngsC l))).length) (rgsC (opT (⟨c0, c1⟩ : Cab) (listC l.length mkPng (pngsC l)))) ∧ trk (⟨c0, c1⟩ : Cab) (listC ((listC l.length mkPng (pngsC l)).length) mkPng (pngsC (listC l.length mkPng (pngsC l)))) (listC ((opT (⟨c0, c1⟩ : Cab) (listC l.length mkPng (pngsC l))).length) mkRg (rgsC (opT (⟨c0, c1⟩ : Cab) (listC l.length mkPng (pngsC l))))) ∧ (0 : Int) = 0 ∧ (1000000000000 : Int) = 1000000000000) ∧ (lt (IntKind.i64.wrap ((lowS (paB (⟨c0, c1⟩ : Cab) (listC ((listC l.length mkPng (pngsC l)).length) mkPng (pngsC (listC l.length mkPng (pngsC l)))) tk)) - (1 : Int))) fun x1 => cond (decide ((lowS (reB (⟨c0, c1⟩ : Cab) (listC ((listC l.length mkPng (pngsC l)).length) mkPng (pngsC (listC l.length mkPng (pngsC l)))) tk)) > x1)) (post (.tu [.a [.v (.int .i64 0), .v (.int .i64 0)], .c (.v (.int .i64 12))])) (post (.tu [.a [.v (.int .i64 (lowS (reB (⟨c0, c1⟩ : Cab) (listC ((listC l.length mkPng (pngsC l)).length) mkPng (pngsC (listC l.length mkPng (pngsC l)))) tk))), .v (.int .i64 x1)], .c (.v (.int .i64 0))]))))))
def ann_clock_CountAt : Ann := ⟨fun r => lookA r [(5, ([[], [0], [0, 1], [], [3], [0, 1, 2, 3, 4], [0, 1, 2, 3, 4, 5], [0, 1, 2, 3, 4, 5, 6], [], [0, 1, 2, 3, 4, 5, 6, 7, 8]], [[25, 28, 9], [25, 28, 9], [28, 9], [25, 28, 9], [25, 28, 9], [9], [9], [9], [25, 28], []]))], fun _ => none, fun _ => [], noIt, false, fun _ => none, fun _ => none⟩
theorem ev_clock_CountAt (J : Inv) (c0 : Int) (c1 : Int) (l : List Png) (tk : Int) (post : DV → Prop) : evFn Try.prog tab Sc50 ann_clock_CountAt J Try.f64 [.t (.a [.v (.int .i64 c0), .v (.int .i64 c1), .sl 4 l.length (pngsC l)]), .t (.c (.v (.int .i64 tk)))] post = vc_clock_CountAt c0 c1 l tk post := by kernel_rfl
theorem fit_clock_CountAt : okFn ann_clock_CountAt Try.f64 = true := by kernel_rfl
theorem lp_clock_CountAt (J : Inv) (post : DV → Prop) : AllG J (loopsFn Try.prog tab Sc50 ann_clock_CountAt J Try.f64 post) = (True) := by kernel_rfl
theorem spec_clock_CountAt (c0 : Int) (c1 : Int) (l : List Png) (tk : Int) : vc_clock_CountAt c0 c1 l tk (fun r => LeD r (.tu [.a [.v (.int .i64 ((caV (⟨c0, c1⟩ : Cab) l tk).lo)), .v (.int .i64 ((caV (⟨c0, c1⟩ : Cab) l tk).hi))], .c (.v (.int .i64 (caE (⟨c0, c1⟩ : Cab) l tk)))])) := by
 unfold vc_clock_CountAt
 simp only [pngs_listC, rgs_listC, ints_listC]
 refine ⟨numsP_pngs l, cond_i (fun h => ?_) (fun h => ?_)⟩
 ·have h : obE (⟨c0, c1⟩ : Cab) l tk ≠ 0 := by simpa using h
  have e : caE (⟨c0, c1⟩ : Cab) l tk = obE (⟨c0, c1⟩ : Cab) l tk := if_neg h
  rw [show caV (⟨c0, c1⟩ : Cab) l tk = ⟨0, 0⟩ from if_neg (by rw [e]; exact h), e]
  exact LeD.refl _
 ·have h : obE (⟨c0, c1⟩ : Cab) l tk = 0 := by simpa using h
  obtain ⟨t, k1, k2⟩ := ob_ok h
  have r := (lowS_spec (paB_mono t.1 tk)).1
  have e : caE (⟨c0, c1⟩ : Cab) l tk = unl (decide ((cnR (⟨c0, c1⟩ : Cab) l tk).lo ≤ (cnR (⟨c0, c1⟩ : Cab) l tk).hi)) 12 := if_pos h
  refine ⟨⟨numsP_pngs l, numsP_rgs _, t, by trivial, by trivial⟩, ⟨numsP_pngs l, numsP_rgs _, t, by trivial, by trivial⟩, lt_i fun x hx => cond_i (fun g => ?_) (fun g => ?_)⟩
  all_goals
   rw [wi (by omega)] at hx
   have eR : cnR (⟨c0, c1⟩ : Cab) l tk = ⟨lowS (reB (⟨c0, c1⟩ : Cab) l tk), x⟩ := by unfold cnR; rw [hx]
   rw [eR] at e
   simp only at e
  ·have g := of_decide_eq_true g
   rw [decide_eq_false (by omega)] at e
   rw [show caV (⟨c0, c1⟩ : Cab) l tk = ⟨0, 0⟩ from if_neg (by rw [e]; decide), e]
   exact LeD.refl _
  ·have g := of_decide_eq_false g
   rw [decide_eq_true (by omega)] at e
   rw [show caV (⟨c0, c1⟩ : Cab) l tk = cnR (⟨c0, c1⟩ : Cab) l tk from if_pos e, eR, e]
   exact LeD.refl _
def con_clock_CountAt : Con := fun args => match args with
 | [.t (.a [.v (.int .i64 c0), .v (.int .i64 c1), .sl 4 n_l c_l]), .t (.c (.v (.int .i64 tk)))] => some (.tu [.a [.v (.int .i64 ((caV (⟨c0, c1⟩ : Cab) (listC n_l mkPng c_l) tk).lo)), .v (.int .i64 ((caV (⟨c0, c1⟩ : Cab) (listC n_l mkPng c_l) tk).hi))], .c (.v (.int .i64 (caE (⟨c0, c1⟩ : Cab) (listC n_l mkPng c_l) tk)))], some (numsP 4 n_l c_l), false)
 | _ => none
theorem ok_clock_CountAt : Ok Try.prog 64 con_clock_CountAt := by
 refine Ok.fn (ann := ann_clock_CountAt) mixed tabOK VSc50 ValidIt.no (fn := Try.f64) (by kernel_rfl) (by kernel_rfl) fit_clock_CountAt fun args r pre fresh h hp => ?_
 unfold con_clock_CountAt at h
 split at h
 ·rename_i c0 c1 n_l c_l tk
  cases h
  have hp0 := hp
  refine ⟨rfl, fun _ _ _ => False, [.t (.a [.v (.int .i64 c0), .v (.int .i64 c1), .sl 4 ((listC n_l mkPng c_l).length) (pngsC (listC n_l mkPng c_l))]), .t (.c (.v (.int .i64 tk)))], ?_, Nat.le_of_ble_eq_true (by kernel_rfl), ?_, ?_⟩
  ·exact (LeA_cons (leT_a (LeCs.cons (LeC1.refl _) (LeCs.cons (LeC1.refl _) (LeCs.cons ((leL_Png hp0)) LeCs.nil)))) (LeA_cons (LeD.refl _) LeA_nil))
  ·rw [ev_clock_CountAt]; exact spec_clock_CountAt c0 c1 (listC n_l mkPng c_l) tk
  ·rw [lp_clock_CountAt]; trivial
 ·cases h
def Sc51 : Sum := addS Sc50 64 con_clock_CountAt
theorem VSc51 : Valid Try.prog Sc51 := Valid.add VSc50 ok_clock_CountAt
end Go.Proofs.Ytkifmfmenobhnaa