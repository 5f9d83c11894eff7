/- Texts of this claim, together. -/
import Derived.Test.YtlapeoboekchpaaGreatDoorTS6

set_option linter.unusedVariables false
set_option linter.unusedSimpArgs false
namespace Go.Proofs.YtlapeoboekchpaaGreatDoor
open Go.RowKit Ev
def trk (c : Cab) (l : List Png) (s : List Rg) : Prop := trOk c l ∧ (∀ i, i < l.length → canB c (pngAt l i) = true) ∧ s = allT c l
def trN (c : Cab) (l : List Png) (s : List Rg) : Prop := s = [] ∨ trk c l s
def paV (c : Cab) (l : List Png) (s : List Rg) : List Int := if s.length = 0 then [] else prL c l
theorem trN_trk {c : Cab} {l : List Png} {s : List Rg} {k : Nat} (h : trN c l s) (hk : k < s.length) : trk c l s := by
 rcases h with rfl | h
 ·simp at hk
 ·exact h
def apN (c : Cab) (l : List Png) (i k : Nat) : Prop := ∀ a b, (a < i ∨ (a = i ∧ b < k)) → a < b → b < l.length → apB c (pngAt l a) (pngAt l b) = false
theorem apN_next {c : Cab} {l : List Png} {i : Nat} (h : apN c l i 0) : apN c l i (i + 1) := fun a b h1 h2 h3 => h a b (by omega) h2 h3
theorem apN_row {c : Cab} {l : List Png} {i : Nat} (h : apN c l i l.length) : apN c l (i + 1) 0 := fun a b h1 h2 h3 => h a b (by omega) h2 h3
theorem apN_step {c : Cab} {l : List Png} {i k : Nat} (h : apN c l i k) (g : apB c (pngAt l i) (pngAt l k) = false) : apN c l i (k + 1) := fun a b h1 h2 h3 => by
 by_cases e : a = i ∧ b = k
 ·rw [e.1, e.2]; exact g
 ·exact h a b (by omega) h2 h3
theorem apN_pB {c : Cab} {l : List Png} {i k : Nat} (h : apN c l i k) (hk : k ≤ l.length) {j : Nat} (hj : j < i * l.length + k) : pB c l j = false := by
 unfold pB
 by_cases e : j / l.length < j % l.length
 ·have hn : 0 < l.length := by
   rcases Nat.eq_zero_or_pos l.length with q | q
   ·rw [q] at e; simp at e
    have : k = 0 := by omega
    rw [q, this] at hj; omega
   ·exact q
  have ej : j / l.length * l.length + j % l.length = j := by rw [Nat.mul_comm]; exact Nat.div_add_mod j l.length
  have hm := Nat.mod_lt j hn
  rw [h (j / l.length) (j % l.length) ?_ e hm, Bool.and_false]
  by_cases a : j / l.length < i
  ·exact Or.inl a
  ·refine Or.inr ?_
   have b : j / l.length = i := by
    rcases (by omega : j / l.length = i ∨ i + 1 ≤ j / l.length) with b | b
    ·exact b
    ·have := Nat.mul_le_mul_right l.length b
     rw [Nat.add_mul, Nat.one_mul] at this
     omega
   rw [b] at ej
   exact ⟨b, by omega⟩
 ·rw [decide_eq_false e]; rfl
theorem apN_none {c : Cab} {l : List Png} (h : apN c l l.length 0) : prL c l = [] := prL_none fun j hj => apN_pB h (Nat.zero_le _) (by omega)
theorem apN_at {c : Cab} {l : List Png} {i k : Nat} (hi : i < k) (hk : k < l.length) (g : apB c (pngAt l i) (pngAt l k) = true) (h : apN c l i k) : prL c l = [(i : Int), (k : Int)] := prL_at hi hk g fun j hj => apN_pB h (by omega) hj
theorem opT_all {c : Cab} {l : List Png} (h : trE c l = 0) (g : badI c l < 0) : opT c l = allT c l := by unfold opT allT; rw [if_pos h, (bad_none g).2]
theorem trk_all {c : Cab} {l : List Png} (h : trE c l = 0) (g : badI c l < 0) : trk c l (allT c l) := ⟨trE_0.1 h, (bad_none g).1, rfl⟩
theorem paV_all {c : Cab} {l : List Png} (h : trE c l = 0) : paV c l (allT c l) = prL c l := by
 have := (trE_0.1 h).2.1
 unfold paV
 rw [if_neg (by rw [allT_len]; omega)]
theorem opT_trN {c : Cab} (l : List Png) (h : opB c l < 0) : trN c l (opT c l) := by
 by_cases g : trE c l = 0
 ·rw [show opB c l = badI c l from if_pos g] at h
  rw [opT_all g h]
  exact Or.inr (trk_all g h)
 ·exact Or.inl (if_neg g)
theorem ob_false {c : Cab} {l : List Png} {n : Int} (h : ¬ opB c l < 0) : firstNZ [trE c l, unl (tkB n) 2, unl false 13] = obE c l n := by
 unfold obE
 by_cases g : trE c l = 0
 ·rw [show opB c l = badI c l from if_pos g] at h
  rw [show clB c l = false by unfold clB; rw [decide_eq_false h]; rfl]
 ·simp [firstNZ, g]
theorem ob_true {c : Cab} {l : List Png} {n : Int} (h : opB c l < 0) : firstNZ [trE c l, unl (tkB n) 2, unl (((paV c l (opT c l)).length : Int) == 0) 13] = obE c l n := by
 unfold obE
 by_cases g : trE c l = 0
 ·rw [show opB c l = badI c l from if_pos g] at h
  rw [opT_all g h, paV_all g, show clB c l = decide (((prL c l).length : Int) = 0) by unfold clB; rw [decide_eq_true h, Bool.true_and]]
  rfl
 ·simp [firstNZ, g]
theorem ob_ok {c : Cab} {l : List Png} {n : Int} (h : obE c l n = 0) : trk c l (opT c l) ∧ 0 ≤ n ∧ n ≤ 1000000000000 := by
 obtain ⟨h1, h2, h3⟩ := fn3 (show firstNZ [trE c l, unl (tkB n) 2, unl (clB c l) 13] = 0 from h)
 rw [unl_0 (by decide)] at h2 h3
 unfold clB at h3
 rw [Bool.and_eq_true, decide_eq_true_eq] at h3
 rw [opT_all h1 h3.1]
 exact ⟨trk_all h1 h3.1, tkB_iff.1 h2⟩
theorem le_tu3 {a a' b b' d d' : TV} (h1 : LeD (.t a) (.t a')) (h2 : LeD (.t b) (.t b')) (h3 : LeD (.t d) (.t d')) : LeD (.tu [a, b, d]) (.tu [a', b', d']) := by
 rintro w N v ⟨vs, e, g⟩
 match vs, g with
 | [x, y, z], g => exact ⟨[x, y, z], e, h1 w N x g.1, h2 w N y g.2.1, h3 w N z g.2.2.1, trivial⟩
 | [], g => exact g.elim
 | [_], g => exact g.2.elim
 | [_, _], g => exact g.2.2.elim
 | _ :: _ :: _ :: _ :: _, g => exact g.2.2.2.elim
theorem leC_rgs (l : List Rg) : LeC1 (.sl 2 (l.map rgCv).length (genC (l.map rgCv))) (.sl 2 l.length (rgsC l)) := by
 rw [List.length_map]
 exact leSlC fun i j hi hj => by
  rw [show genC (l.map rgCv) i j = rgsC l i j by
   unfold genC rgsC rgAt
   rcases (by omega : j = 0 ∨ j = 1) with rfl | rfl <;> simp [List.getD_eq_getElem?_getD, List.getElem?_map, List.getElem?_eq_getElem hi, rgCv]]
  exact LeC1.refl _
def mk_clock_CheckTrack_0 (c0 : Int) (c1 : Int) (l : List Png) (v0_0 : Int) : DS := ⟨[none, some (.t (.c (.p 1 0))), none, none, none, none, none, none, none, none, none, none, none, none, none, none, none, none, none, none, none, none, none, none, none, none, none, none, none, some (.t (.c (.sl 4 l.length (pngsC l)))), some (.t (.c (.v (.int .i64 ((l.length : Nat) : Int))))), some (.t (.c (.v (.int .i64 v0_0)))), none, none, none, none, none, none, none, none, none, none, none, none, none, none, none, none, none, none, none, none, none, none, none, none, none, none, none, none, none, none, none, none, none, none, none, none, none, none], [none, some (.box 77 [.v (.int .i64 c0), .v (.int .i64 c1), .sl 4 l.length (pngsC l)]), none, none, none, none, none, none, none, none, none, none, none, none, none, none, none, none, none, none, none, none, none, none, none, none, none, none, none, none, none, none, none, none, none, none, none, none, none, none, none, none, none, none, none, none, none, none, none, none, none, none, none, none, none, none, none, none, none, none, none, none, none, none, none, none, none, none, none, none]⟩
def vc_clock_CheckTrack (J : Inv) (c0 : Int) (c1 : Int) (l : List Png) (post : DV → Prop) : Prop := (numsP 1 3 (genC [[.v (.int .i64 (cabE (⟨c0, c1⟩ : Cab)))], [.v (.int .i64 (unl (decide (((l.length : Nat) : Int) > (0 : Int))) (10 : Int)))], [.v (.int .i64 (unl (decide (((l.length : Nat) : Int) ≤ (12 : Int))) (8 : Int)))]]) ∧ (([(cabE (⟨c0, c1⟩ : Cab)), (unl (decide (((l.length : Nat) : Int) > (0 : Int))) (10 : Int)), (unl (decide (((l.length : Nat) : Int) ≤ (12 : Int))) (8 : Int))] : List Int)).length ≤ 100) ∧ (cond ((firstNZ ([(cabE (⟨c0, c1⟩ : Cab)), (unl (decide (((l.length : Nat) : Int) > (0 : Int))) (10 : Int)), (unl (decide (((l.length : Nat) : Int) ≤ (12 : Int))) (8 : Int))] : List Int)) != (0 : Int)) (post (.tu [.c (.v (.int .i64 0)), .c (.v (.int .i64 (firstNZ ([(cabE (⟨c0, c1⟩ : Cab)), (unl (decide (((l.length : Nat) : Int) > (0 : Int))) (10 : Int)), (unl (decide (((l.length : Nat) : Int) ≤ (12 : Int))) (8 : Int))] : List Int))))])) (∃ n, J 0 (n :: []) (mk_clock_CheckTrack_0 c0 c1 l 0)))
def ann_clock_CheckTrack : Ann := ⟨fun r => lookA r [(1, ([[], [0], [0, 1], [], [3], [3, 4], [3, 4, 5], [0, 1, 2, 3, 4, 5, 6], [], [8], [8, 9], [8, 9, 10], [0, 1, 2, 3, 4, 5, 6, 7, 8, 9, 10, 11], [0, 1, 2, 3, 4, 5, 6, 7, 8, 9, 10, 11, 12], [0, 1, 2, 3, 4, 5, 6, 7, 8, 9, 10, 11, 12, 13], [0, 1, 2, 3, 4, 5, 6, 7, 8, 9, 10, 11, 12, 13, 14]], [[12, 17, 22, 23, 24], [12, 17, 22, 23, 24], [17, 22, 23, 24], [12, 17, 22, 23, 24], [12, 17, 22, 23, 24], [12, 17, 22, 23, 24], [12, 17, 22, 23, 24], [22, 23, 24], [12, 17, 22, 23, 24], [12, 17, 22, 23, 24], [12, 17, 22, 23, 24], [12, 17, 22, 23, 24], [23, 24], [24], [], []]))], fun b => lookA b [(0, (none, some ⟨[1, 29, 30, 31], [1], []⟩))], fun _ => [], noIt, false, fun r => lookA r [(8, (3, [8]))], fun _ => none⟩
theorem ev_clock_CheckTrack (J : Inv) (c0 : Int) (c1 : Int) (l : List Png) (post : DV → Prop) : evFn Tryz.prog tab S21 ann_clock_CheckTrack J Tryz.f129 [.t (.a [.v (.int .i64 c0), .v (.int .i64 c1), .sl 4 l.length (pngsC l)])] post = vc_clock_CheckTrack J c0 c1 l post := by kernel_rfl
theorem fit_clock_CheckTrack : okFn ann_clock_CheckTrack Tryz.f129 = true := by kernel_rfl
def rd_clock_CheckTrack_0 (J : Inv) (c0 : Int) (c1 : Int) (l : List Png) (v0_0 : Int) (nn0 : Nat) (post : DV → Prop) : Prop := cond (decide (v0_0 < ((l.length : Nat) : Int))) ((0 ≤ v0_0 ∧ v0_0 < ((l.length : Nat) : Int)) ∧ (lt (IntKind.i64.wrap (v0_0 - (1 : Int))) fun x1 => lt ((if x1 > (0 : Int) then x1 else (0 : Int))) fun x2 => (0 ≤ x2 ∧ x2 < ((l.length : Nat) : Int)) ∧ ((cond (v0_0 == (0 : Int)) ((true = true) ∧ (True)) (cond (decide (((pngAt l v0_0.toNat).sent) ≥ ((pngAt l x2.toNat).back))) (True) ((false = false) ∧ (True)))) ∧ (lt ((bif (v0_0 == (0 : Int)) then true else (bif decide (((pngAt l v0_0.toNat).sent) ≥ ((pngAt l x2.toNat).back)) then decide (((pngAt l v0_0.toNat).arr) ≥ ((pngAt l x2.toNat).ans)) else false))) fun x3 => (numsP 1 2 (genC [[.v (.int .i64 (pngE (pngAt l v0_0.toNat)))], [.v (.int .i64 (unl x3 (9 : Int)))]]) ∧ (([(pngE (pngAt l v0_0.toNat)), (unl x3 (9 : Int))] : List Int)).length ≤ 100) ∧ (cond ((firstNZ ([(pngE (pngAt l v0_0.toNat)), (unl x3 (9 : Int))] : List Int)) != (0 : Int)) (post (.tu [.c (.v (.int .i64 v0_0)), .c (.v (.int .i64 (firstNZ ([(pngE (pngAt l v0_0.toNat)), (unl x3 (9 : Int))] : List Int))))])) (lt (IntKind.i64.wrap (v0_0 + (1 : Int))) fun x4 => J 0 (nn0 :: []) (mk_clock_CheckTrack_0 c0 c1 l x4))))))) (post (.tu [.c (.v (.int .i64 0)), .c (.v (.int .i64 0))]))
theorem er_clock_CheckTrack_0 (J : Inv) (c0 : Int) (c1 : Int) (l : List Png) (v0_0 : Int) (nn0 : Nat) (post : DV → Prop) : round Tryz.prog tab S21 ann_clock_CheckTrack J Tryz.f129 post 0 (nn0 :: []) (mk_clock_CheckTrack_0 c0 c1 l v0_0) = rd_clock_CheckTrack_0 J c0 c1 l v0_0 nn0 post := by kernel_rfl
theorem lp_clock_CheckTrack (J : Inv) (post : DV → Prop) : AllG J (loopsFn Tryz.prog tab S21 ann_clock_CheckTrack J Tryz.f129 post) = (((∀ F s, ¬ J 0 (0 :: F) s) ∧ ∀ n F s, J 0 ((n + 1) :: F) s → round Tryz.prog tab S21 ann_clock_CheckTrack J Tryz.f129 post 0 (n :: F) s) ∧ True) := by kernel_rfl
def J_clock_CheckTrack (c0 : Int) (c1 : Int) (l : List Png) : Inv := fun b F s => match b, F with
 | 0, [nn0] => ∃ (v0_0 : Int), s = mk_clock_CheckTrack_0 c0 c1 l v0_0 ∧ (hdE (⟨c0, c1⟩ : Cab) l = 0 ∧ 0 ≤ v0_0 ∧ v0_0 ≤ l.length ∧ (nn0 : Int) + v0_0 = l.length + 1 ∧ ∀ j : Nat, (j : Int) < v0_0 → stpE l j = 0)
 | _, _ => False
theorem rnd_clock_CheckTrack_0 (c0 : Int) (c1 : Int) (l : List Png) (v0_0 : Int) (nn0 : Nat) (hi : hdE (⟨c0, c1⟩ : Cab) l = 0 ∧ 0 ≤ v0_0 ∧ v0_0 ≤ l.length ∧ ((nn0 + 1) : Int) + v0_0 = l.length + 1 ∧ ∀ j : Nat, (j : Int) < v0_0 → stpE l j = 0) : rd_clock_CheckTrack_0 (J_clock_CheckTrack c0 c1 l) c0 c1 l v0_0 nn0 (fun r => LeD r (.tu [.c (.v (.int .i64 (trI (⟨c0, c1⟩ : Cab) l))), .c (.v (.int .i64 (trE (⟨c0, c1⟩ : Cab) l)))])) := by
 obtain ⟨q, i1, i2, i3, i4⟩ := hi
 obtain ⟨k, rfl⟩ : ∃ k : Nat, v0_0 = k := ⟨v0_0.toNat, by omega⟩
 have hk : (k : Int).toNat = k := rfl
 have z := hdE_0.1 q
 unfold rd_clock_CheckTrack_0
 rw [hk]
 refine cond_i (fun h => ?_) (fun h => ?_)
 ·have hlt : k < l.length := by have := of_decide_eq_true h; omega
  refine ⟨by omega, lt_i fun x1 h1 => lt_i fun x2 h2 => ?_⟩
  rw [wi (by omega)] at h1
  obtain ⟨m, hm⟩ : ∃ m : Nat, x2 = m := ⟨x2.toNat, by split at h2 <;> omega⟩
  have hm2 : m = k - 1 := by split at h2 <;> omega
  subst hm
  subst hm2
  have hm3 : ((k - 1 : Nat) : Int).toNat = k - 1 := rfl
  rw [hm3]
  clear h2
  refine ⟨by omega, ?_, lt_i fun x3 h3 => ⟨⟨numsP_gen [_, _], Nat.le_of_ble_eq_true rfl⟩, ?_⟩⟩
  ·exact cond_i (fun _ => ⟨rfl, trivial⟩) (fun _ => cond_i (fun _ => trivial) (fun _ => ⟨rfl, trivial⟩))
  ·have e : firstNZ [pngE (pngAt l k), unl x3 9] = stpE l k := by
    rw [← h3]
    unfold stpE
    have e1 : ((k : Int) == 0) = decide ((k : Int) = 0) := rfl
    rw [e1]
    cases decide ((k : Int) = 0) <;> cases decide ((pngAt l k).sent ≥ (pngAt l (k - 1)).back) <;> rfl
   rw [e]
   refine cond_i (fun g => ?_) (fun g => lt_i fun x hx => ?_)
   ·have g : stpE l k ≠ 0 := by simpa using g
    exact le2 ((if_pos q).trans (scanI_at (fun j hj => i4 j (by omega)) hlt g)).symm ((if_pos q).trans (scan_at (fun j hj => i4 j (by omega)) hlt g)).symm
   ·have g : stpE l k = 0 := by simpa using g
    rw [wi (by omega)] at hx
    subst hx
    refine ⟨_, rfl, q, by omega, by omega, by omega, fun j hj => ?_⟩
    by_cases c : j = k
    ·rw [c]; exact g
    ·exact i4 j (by omega)
 ·have h := of_decide_eq_false h
  exact le2 ((if_pos q).trans (scanI_end fun j hj => i4 j (by omega))).symm ((if_pos q).trans (scan_end fun j hj => i4 j (by omega))).symm
theorem zero_clock_CheckTrack_0 (c0 : Int) (c1 : Int) (l : List Png) (v0_0 : Int)  (hi : hdE (⟨c0, c1⟩ : Cab) l = 0 ∧ 0 ≤ v0_0 ∧ v0_0 ≤ l.length ∧ (0 : Int) + v0_0 = l.length + 1 ∧ ∀ j : Nat, (j : Int) < v0_0 → stpE l j = 0) : False := by
 omega
theorem spec_clock_CheckTrack (c0 : Int) (c1 : Int) (l : List Png) : vc_clock_CheckTrack (J_clock_CheckTrack c0 c1 l) c0 c1 l (fun r => LeD r (.tu [.c (.v (.int .i64 (trI (⟨c0, c1⟩ : Cab) l))), .c (.v (.int .i64 (trE (⟨c0, c1⟩ : Cab) l)))])) := by
 unfold vc_clock_CheckTrack
 refine ⟨⟨numsP_gen [_, _, _], Nat.le_of_ble_eq_true rfl⟩, cond_i (fun h => ?_) (fun h => ?_)⟩
 ·have h : hdE (⟨c0, c1⟩ : Cab) l ≠ 0 := by unfold hdE; simpa using h
  exact le2 (if_neg h).symm (if_neg h).symm
 ·have h : hdE (⟨c0, c1⟩ : Cab) l = 0 := by unfold hdE; simpa using h
  exact ⟨l.length + 1, 0, rfl, h, by omega, by omega, by omega, fun j hj => by omega⟩
theorem all_clock_CheckTrack (c0 : Int) (c1 : Int) (l : List Png) : AllG (J_clock_CheckTrack c0 c1 l) (loopsFn Tryz.prog tab S21 ann_clock_CheckTrack (J_clock_CheckTrack c0 c1 l) Tryz.f129 (fun r => LeD r (.tu [.c (.v (.int .i64 (trI (⟨c0, c1⟩ : Cab) l))), .c (.v (.int .i64 (trE (⟨c0, c1⟩ : Cab) l)))]))) := by
 rw [lp_clock_CheckTrack]
 refine ⟨⟨?_, ?_⟩, trivial⟩
 ·intro F s h
  obtain _ | ⟨g, F⟩ := F
  case cons => exact h.elim
  obtain ⟨w0, rfl, hi⟩ := h
  exact zero_clock_CheckTrack_0 c0 c1 l w0 hi
 ·intro n F s h
  obtain _ | ⟨g, F⟩ := F
  case cons => exact h.elim
  obtain ⟨w0, rfl, hi⟩ := h
  rw [er_clock_CheckTrack_0]
  exact rnd_clock_CheckTrack_0 c0 c1 l _ _ hi
def con_clock_CheckTrack : Con := fun args => match args with
 | [.t (.a [.v (.int .i64 c0), .v (.int .i64 c1), .sl 4 n_l c_l])] => some (.tu [.c (.v (.int .i64 (trI (⟨c0, c1⟩ : Cab) (listC n_l mkPng c_l)))), .c (.v (.int .i64 (trE (⟨c0, c1⟩ : Cab) (listC n_l mkPng c_l))))], some (numsP 4 n_l c_l), false)
 | _ => none
theorem ok_clock_CheckTrack : Ok Tryz.prog 129 con_clock_CheckTrack := by
 refine Ok.fn (ann := ann_clock_CheckTrack) mixed tabOK VS21 ValidIt.no (fn := Tryz.f129) (by kernel_rfl) (by kernel_rfl) fit_clock_CheckTrack fun args r pre fresh h hp => ?_
 unfold con_clock_CheckTrack at h
 split at h
 ·rename_i c0 c1 n_l c_l
  cases h
  have hp0 := hp
  refine ⟨rfl, J_clock_CheckTrack c0 c1 (listC n_l mkPng c_l), [.t (.a [.v (.int .i64 c0), .v (.int .i64 c1), .sl 4 ((listC n_l mkPng c_l).length) (pngsC (listC n_l mkPng c_l))])], ?_, Nat.le_of_ble_eq_true (by kernel_rfl), ?_, ?_⟩
  ·exact (LeA_cons (leT_a (LeCs.cons (LeC1.refl _) (LeCs.cons (LeC1.refl _) (LeCs.cons ((leL_Png hp0)) LeCs.nil)))) LeA_nil)
  ·rw [ev_clock_CheckTrack]; exact spec_clock_CheckTrack c0 c1 (listC n_l mkPng c_l)
  ·exact all_clock_CheckTrack c0 c1 (listC n_l mkPng c_l)
 ·cases h
def Sb22 : Sum := addS S21 129 con_clock_CheckTrack
theorem VSb22 : Valid Tryz.prog Sb22 := Valid.add VS21 ok_clock_CheckTrack
def mk_clock_open_0 (c0 : Int) (c1 : Int) (l : List Png) (v0_0 : List (List CV)) (v0_1 : List (List CV)) (v0_2 : Int) : DS := ⟨[none, some (.t (.c (.p 1 0))), some (.t (.c (.p 2 0))), none, none, some (.t (.c (.p 5 0))), none, none, none, none, none, none, none, none, none, none, none, none, none, none, none, none, none, none, some (.t (.c (.sl 4 l.length (pngsC l)))), some (.t (.c (.v (.int .i64 ((l.length : Nat) : Int))))), some (.t (.c (.v (.int .i64 v0_2)))), none, none, none, none, none, none, none, none, none, none, none, none, none, none, none, none, none, none, none, none, none, none, none, none, none, none], [some (.gen 51 2 v0_0), some (.box 77 [.v (.int .i64 c0), .v (.int .i64 c1), .sl 4 l.length (pngsC l)]), some (.box 136 [.v (.int .i64 0), .v (.int .i64 0), .v (.slice none 0 0), .os 0]), some (.gen 51 2 v0_1), none, some (.box 136 [.v (.int .i64 c0), .v (.int .i64 c1), .sl 4 l.length (pngsC l), .os 3]), none, none, none, none, none, none, none, none, none, none, none, none, none, none, none, none, none, none, none, none, none, none, none, none, none, none, none, none, none, none, none, none, none, none, none, none, none, none, none, none, none, none, none, none, none, none, none]⟩
def vc_clock_open (J : Inv) (c0 : Int) (c1 : Int) (l : List Png) (post : DV → Prop) : Prop := (numsP 4 l.length (pngsC l)) ∧ (cond ((trE (⟨c0, c1⟩ : Cab) (listC l.length mkPng (pngsC l))) != (0 : Int)) (post (.tu [.a [.v (.int .i64 c0), .v (.int .i64 c1), .sl 4 l.length (pngsC l), .v (.slice none 0 0)], .c (.v (.int .i64 (-1))), .c (.v (.int .i64 (trE (⟨c0, c1⟩ : Cab) (listC l.length mkPng (pngsC l)))))])) (∃ n, J 0 (n :: []) (mk_clock_open_0 c0 c1 l ([]) ([]) 0)))
def ann_clock_open : Ann := ⟨fun r => lookA r [(11, ([[], [0], [], [], [3], [2, 3, 4], [2, 3, 4, 5], [0, 1, 2, 3, 4, 5, 6], [0, 1, 2, 3, 4, 5, 6, 7], [0, 1, 2, 3, 4, 5, 6, 7, 8]], [[47, 48], [47, 48], [47, 48], [47, 48], [47, 48], [48], [], [], [], []]))], fun b => lookA b [(0, (none, some ⟨[1, 2, 5, 24, 25, 26], [1, 2, 5], []⟩))], fun b => (lookA b [(0, [(2, 3, 0, .gen 51 2 []), (5, 3, 3, .gen 51 2 [])])]).getD [], noIt, false, fun _ => none, fun _ => none⟩
theorem ev_clock_open (J : Inv) (c0 : Int) (c1 : Int) (l : List Png) (post : DV → Prop) : evFn Tryz.prog tab Sb22 ann_clock_open J Tryz.f104 [.t (.a [.v (.int .i64 c0), .v (.int .i64 c1), .sl 4 l.length (pngsC l)])] post = vc_clock_open J c0 c1 l post := by kernel_rfl
theorem fit_clock_open : okFn ann_clock_open Tryz.f104 = true := by kernel_rfl
def rd_clock_open_0 (J : Inv) (c0 : Int) (c1 : Int) (l : List Png) (v0_0 : List (List CV)) (v0_1 : List (List CV)) (v0_2 : Int) (nn0 : Nat) (post : DV → Prop) : Prop := cond (decide (v0_2 < ((l.length : Nat) : Int))) ((0 ≤ v0_2 ∧ v0_2 < ((l.length : Nat) : Int)) ∧ ((delOk (⟨c0, c1⟩ : Cab) (pngAt l v0_2.toNat)) ∧ (cond (!(canB (⟨c0, c1⟩ : Cab) (pngAt l v0_2.toNat))) (post (.tu [.a [.v (.int .i64 c0), .v (.int .i64 c1), .sl 4 l.length (pngsC l), .sl 2 v0_1.length (genC v0_1)], .c (.v (.int .i64 v0_2)), .c (.v (.int .i64 0))])) ((rgB (dlR (⟨c0, c1⟩ : Cab) (pngAt l v0_2.toNat)) ∧ -9000000000000 ≤ ((pngAt l v0_2.toNat).sent) ∧ ((pngAt l v0_2.toNat).sent) ≤ 9000000000000) ∧ ((roomP 16 (v0_1.length + ([[.v (.int .i64 (((dlR (⟨c0, c1⟩ : Cab) (pngAt l v0_2.toNat)).lo) + ((pngAt l v0_2.toNat).sent))), .v (.int .i64 (((dlR (⟨c0, c1⟩ : Cab) (pngAt l v0_2.toNat)).hi) + ((pngAt l v0_2.toNat).sent)))]] : List (List CV)).length)) ∧ (lt (IntKind.i64.wrap (v0_2 + (1 : Int))) fun x1 => J 0 (nn0 :: []) (mk_clock_open_0 c0 c1 l v0_0 (v0_1 ++ ([[.v (.int .i64 (((dlR (⟨c0, c1⟩ : Cab) (pngAt l v0_2.toNat)).lo) + ((pngAt l v0_2.toNat).sent))), .v (.int .i64 (((dlR (⟨c0, c1⟩ : Cab) (pngAt l v0_2.toNat)).hi) + ((pngAt l v0_2.toNat).sent)))]] : List (List CV))) x1))))))) (post (.tu [.a [.v (.int .i64 c0), .v (.int .i64 c1), .sl 4 l.length (pngsC l), .sl 2 v0_1.length (genC v0_1)], .c (.v (.int .i64 (-1))), .c (.v (.int .i64 0))]))
theorem er_clock_open_0 (J : Inv) (c0 : Int) (c1 : Int) (l : List Png) (v0_0 : List (List CV)) (v0_1 : List (List CV)) (v0_2 : Int) (nn0 : Nat) (post : DV → Prop) : round Tryz.prog tab Sb22 ann_clock_open J Tryz.f104 post 0 (nn0 :: []) (mk_clock_open_0 c0 c1 l v0_0 v0_1 v0_2) = rd_clock_open_0 J c0 c1 l v0_0 v0_1 v0_2 nn0 post := by kernel_rfl
theorem lp_clock_open (J : Inv) (post : DV → Prop) : AllG J (loopsFn Tryz.prog tab Sb22 ann_clock_open J Tryz.f104 post) = (((∀ F s, ¬ J 0 (0 :: F) s) ∧ ∀ n F s, J 0 ((n + 1) :: F) s → round Tryz.prog tab Sb22 ann_clock_open J Tryz.f104 post 0 (n :: F) s) ∧ True) := by kernel_rfl
def J_clock_open (c0 : Int) (c1 : Int) (l : List Png) : Inv := fun b F s => match b, F with
 | 0, [nn0] => ∃ (v0_0 : List (List CV)) (v0_1 : List (List CV)) (v0_2 : Int), s = mk_clock_open_0 c0 c1 l v0_0 v0_1 v0_2 ∧ (trE (⟨c0, c1⟩ : Cab) l = 0 ∧ 0 ≤ v0_2 ∧ v0_2 ≤ l.length ∧ (nn0 : Int) + v0_2 = l.length + 1 ∧ (∀ j : Nat, (j : Int) < v0_2 → canB (⟨c0, c1⟩ : Cab) (pngAt l j) = true) ∧ v0_1 = ((l.take v0_2.toNat).map (tmR (⟨c0, c1⟩ : Cab))).map rgCv)
 | _, _ => False
theorem rnd_clock_open_0 (c0 : Int) (c1 : Int) (l : List Png) (v0_0 : List (List CV)) (v0_1 : List (List CV)) (v0_2 : Int) (nn0 : Nat) (hi : trE (⟨c0, c1⟩ : Cab) l = 0 ∧ 0 ≤ v0_2 ∧ v0_2 ≤ l.length ∧ ((nn0 + 1) : Int) + v0_2 = l.length + 1 ∧ (∀ j : Nat, (j : Int) < v0_2 → canB (⟨c0, c1⟩ : Cab) (pngAt l j) = true) ∧ v0_1 = ((l.take v0_2.toNat).map (tmR (⟨c0, c1⟩ : Cab))).map rgCv) : rd_clock_open_0 (J_clock_open c0 c1 l) c0 c1 l v0_0 v0_1 v0_2 nn0 (fun r => LeD r (.tu [.a [.v (.int .i64 c0), .v (.int .i64 c1), .sl 4 l.length (pngsC l), .sl 2 ((opT (⟨c0, c1⟩ : Cab) l).length) (rgsC (opT (⟨c0, c1⟩ : Cab) l))], .c (.v (.int .i64 (opB (⟨c0, c1⟩ : Cab) l))), .c (.v (.int .i64 (trE (⟨c0, c1⟩ : Cab) l)))])) := by
 obtain ⟨q, i1, i2, i3, i4, i5⟩ := hi
 obtain ⟨k, rfl⟩ : ∃ k : Nat, v0_2 = k := ⟨v0_2.toNat, by omega⟩
 have hk : (k : Int).toNat = k := rfl
 have z := trE_0.1 q
 have z2 := z.2.1
 rw [hk] at i5
 unfold rd_clock_open_0
 rw [hk]
 refine cond_i (fun h => ?_) (fun h => ?_)
 ·have hlt : k < l.length := by have := of_decide_eq_true h; omega
  have hd := z.del hlt
  have r := del_rg hd
  have hq := hd.2
  unfold pngOk at hq
  refine ⟨by omega, hd, cond_i (fun g => ?_) (fun g => ⟨?_, ?_, lt_i fun x hx => ?_⟩)⟩
  ·have g : canB (⟨c0, c1⟩ : Cab) (pngAt l k) = false := by simpa using g
   have e1 : opB (⟨c0, c1⟩ : Cab) l = k := by
    unfold opB
    rw [if_pos q]
    exact idxP_at (d := Png.zero) hlt (fun j hj => by have := i4 j (by omega); simpa [pngAt] using this) (by simpa [pngAt] using g)
   have e2 : opT (⟨c0, c1⟩ : Cab) l = (l.take k).map (tmR (⟨c0, c1⟩ : Cab)) := by
    unfold opT
    rw [if_pos q, takeWhile_at (k := k) (by omega) (fun j hj => i4 j (by omega)) (fun _ => g)]
   rw [e1, e2, i5, q]
   exact le_tu3 (leT_a (LeCs.cons (LeC1.refl _) (LeCs.cons (LeC1.refl _) (LeCs.cons (LeC1.refl _) (LeCs.cons (leC_rgs _) LeCs.nil))))) (LeD.refl _) (LeD.refl _)
  ·unfold rgB dlR; simp only; omega
  ·rw [i5]; unfold roomP maxLen; simp; omega
  ·have g : canB (⟨c0, c1⟩ : Cab) (pngAt l k) = true := by simpa using g
   rw [wi (by omega)] at hx
   subst hx
   refine ⟨_, _, _, rfl, q, by omega, by omega, by omega, fun j hj => ?_, ?_⟩
   ·by_cases c : j = k
    ·rw [c]; exact g
    ·exact i4 j (by omega)
   ·rw [show ((k : Int) + 1).toNat = k + 1 by omega, pngAt_take hlt, List.map_append, List.map_append, i5, Int.add_comm, Int.add_comm _ (pngAt l k).sent]
    rfl
 ·have h := of_decide_eq_false h
  have e : k = l.length := by omega
  have g : ∀ j, j < l.length → canB (⟨c0, c1⟩ : Cab) (pngAt l j) = true := fun j hj => i4 j (by omega)
  have e1 : opB (⟨c0, c1⟩ : Cab) l = -1 := by
   unfold opB
   rw [if_pos q]
   exact idxP_none (d := Png.zero) fun j hj => by have := g j hj; simpa [pngAt] using this
  have e2 : opT (⟨c0, c1⟩ : Cab) l = (l.take k).map (tmR (⟨c0, c1⟩ : Cab)) := by
   unfold opT
   rw [if_pos q, takeWhile_at (k := k) (by omega) (fun j hj => i4 j (by omega)) (fun hh => by omega)]
  rw [e1, e2, i5, q]
  exact le_tu3 (leT_a (LeCs.cons (LeC1.refl _) (LeCs.cons (LeC1.refl _) (LeCs.cons (LeC1.refl _) (LeCs.cons (leC_rgs _) LeCs.nil))))) (LeD.refl _) (LeD.refl _)
theorem zero_clock_open_0 (c0 : Int) (c1 : Int) (l : List Png) (v0_0 : List (List CV)) (v0_1 : List (List CV)) (v0_2 : Int)  (hi : trE (⟨c0, c1⟩ : Cab) l = 0 ∧ 0 ≤ v0_2 ∧ v0_2 ≤ l.length ∧ (0 : Int) + v0_2 = l.length + 1 ∧ (∀ j : Nat, (j : Int) < v0_2 → canB (⟨c0, c1⟩ : Cab) (pngAt l j) = true) ∧ v0_1 = ((l.take v0_2.toNat).map (tmR (⟨c0, c1⟩ : Cab))).map rgCv) : False := by
 omega
theorem spec_clock_open (c0 : Int) (c1 : Int) (l : List Png) : vc_clock_open (J_clock_open c0 c1 l) c0 c1 l (fun r => LeD r (.tu [.a [.v (.int .i64 c0), .v (.int .i64 c1), .sl 4 l.length (pngsC l), .sl 2 ((opT (⟨c0, c1⟩ : Cab) l).length) (rgsC (opT (⟨c0, c1⟩ : Cab) l))], .c (.v (.int .i64 (opB (⟨c0, c1⟩ : Cab) l))), .c (.v (.int .i64 (trE (⟨c0, c1⟩ : Cab) l)))])) := by
 unfold vc_clock_open
 simp only [pngs_listC, rgs_listC, ints_listC]
 refine ⟨numsP_pngs l, cond_i (fun h => ?_) (fun h => ?_)⟩
 ·have h : trE (⟨c0, c1⟩ : Cab) l ≠ 0 := by simpa using h
  rw [show opT (⟨c0, c1⟩ : Cab) l = [] from if_neg h, show opB (⟨c0, c1⟩ : Cab) l = -1 from if_neg h]
  exact le_tu3 (leT_a (LeCs.cons (LeC1.refl _) (LeCs.cons (LeC1.refl _) (LeCs.cons (LeC1.refl _) (LeCs.cons leC_nil LeCs.nil))))) (LeD.refl _) (LeD.refl _)
 ·have h : trE (⟨c0, c1⟩ : Cab) l = 0 := by simpa using h
  exact ⟨l.length + 1, [], [], 0, rfl, h, by omega, by omega, by omega, fun j hj => by omega, rfl⟩
theorem all_clock_open (c0 : Int) (c1 : Int) (l : List Png) : AllG (J_clock_open c0 c1 l) (loopsFn Tryz.prog tab Sb22 ann_clock_open (J_clock_open c0 c1 l) Tryz.f104 (fun r => LeD r (.tu [.a [.v (.int .i64 c0), .v (.int .i64 c1), .sl 4 l.length (pngsC l), .sl 2 ((opT (⟨c0, c1⟩ : Cab) l).length) (rgsC (opT (⟨c0, c1⟩ : Cab) l))], .c (.v (.int .i64 (opB (⟨c0, c1⟩ : Cab) l))), .c (.v (.int .i64 (trE (⟨c0, c1⟩ : Cab) l)))]))) := by
 rw [lp_clock_open]
 refine ⟨⟨?_, ?_⟩, trivial⟩
 ·intro F s h
  obtain _ | ⟨g, F⟩ := F
  case cons => exact h.elim
  obtain ⟨w0, w1, w2, rfl, hi⟩ := h
  exact zero_clock_open_0 c0 c1 l w0 w1 w2 hi
 ·intro n F s h
  obtain _ | ⟨g, F⟩ := F
  case cons => exact h.elim
  obtain ⟨w0, w1, w2, rfl, hi⟩ := h
  rw [er_clock_open_0]
  exact rnd_clock_open_0 c0 c1 l _ _ _ _ hi
def con_clock_open : Con := fun args => match args with
 | [.t (.a [.v (.int .i64 c0), .v (.int .i64 c1), .sl 4 n_l c_l])] => some (.tu [.a [.v (.int .i64 c0), .v (.int .i64 c1), .sl 4 ((listC n_l mkPng c_l).length) (pngsC (listC n_l mkPng c_l)), .sl 2 ((opT (⟨c0, c1⟩ : Cab) (listC n_l mkPng c_l)).length) (rgsC (opT (⟨c0, c1⟩ : Cab) (listC n_l mkPng c_l)))], .c (.v (.int .i64 (opB (⟨c0, c1⟩ : Cab) (listC n_l mkPng c_l)))), .c (.v (.int .i64 (trE (⟨c0, c1⟩ : Cab) (listC n_l mkPng c_l))))], some (numsP 4 n_l c_l), false)
 | _ => none
theorem ok_clock_open : Ok Tryz.prog 104 con_clock_open := by
 refine Ok.fn (ann := ann_clock_open) mixed tabOK VSb22 ValidIt.no (fn := Tryz.f104) (by kernel_rfl) (by kernel_rfl) fit_clock_open fun args r pre fresh h hp => ?_
 unfold con_clock_open at h
 split at h
 ·rename_i c0 c1 n_l c_l
  cases h
  have hp0 := hp
  refine ⟨rfl, J_clock_open c0 c1 (listC n_l mkPng c_l), [.t (.a [.v (.int .i64 c0), .v (.int .i64 c1), .sl 4 ((listC n_l mkPng c_l).length) (pngsC (listC n_l mkPng c_l))])], ?_, Nat.le_of_ble_eq_true (by kernel_rfl), ?_, ?_⟩
  ·exact (LeA_cons (leT_a (LeCs.cons (LeC1.refl _) (LeCs.cons (LeC1.refl _) (LeCs.cons ((leL_Png hp0)) LeCs.nil)))) LeA_nil)
  ·rw [ev_clock_open]; exact spec_clock_open c0 c1 (listC n_l mkPng c_l)
  ·exact all_clock_open c0 c1 (listC n_l mkPng c_l)
 ·cases h
def Sb23 : Sum := addS Sb22 104 con_clock_open
theorem VSb23 : Valid Tryz.prog Sb23 := Valid.add VSb22 ok_clock_open
def vc_clock_track_by (c0 : Int) (c1 : Int) (l : List Png) (ts : List Rg) (i : Int) (ct : Int) (post : DV → Prop) : Prop := (0 ≤ i ∧ i < ((l.length : Nat) : Int)) ∧ (lt (IntKind.i64.wrap (ct - ((pngAt l i.toNat).arr))) fun x1 => (0 ≤ i ∧ i < ((ts.length : Nat) : Int)) ∧ ((rgB (rgAt ts i.toNat) ∧ -9000000000000 ≤ x1 ∧ x1 ≤ 9000000000000) ∧ ((0 ≤ c0 ∧ c0 ≤ 1000 ∧ -4000000000000 ≤ x1 ∧ x1 ≤ 4000000000000) ∧ ((rgB (⟨(((rgAt ts i.toNat).lo) + x1), (((rgAt ts i.toNat).hi) + x1)⟩ : Rg) ∧ -9000000000000 ≤ (slackI c0 x1) ∧ (slackI c0 x1) ≤ 9000000000000) ∧ (post (.t (.a [.v (.int .i64 ((((rgAt ts i.toNat).lo) + x1) - (slackI c0 x1))), .v (.int .i64 ((((rgAt ts i.toNat).hi) + x1) + (slackI c0 x1)))])))))))
def ann_clock_track_by : Ann := ⟨fun r => lookA r [(2, ([[], [0], [], [0, 1, 2], [0, 1, 2, 3], [], [0, 1, 2, 3, 4, 5], [], [7], [7, 8], [7, 8, 9], [], [0, 1, 2, 3, 4, 5, 6, 7, 8, 9, 10, 11], [0, 1, 2, 3, 4, 5, 6, 7, 8, 9, 10, 11, 12], [0, 1, 2, 3, 4, 5, 6, 7, 8, 9, 10, 11, 12, 13]], [[23, 29, 30], [23, 29, 30], [23, 29, 30], [23, 29, 30], [23, 29, 30], [23, 29, 30], [29, 30], [23, 29, 30], [23, 29, 30], [23, 29, 30], [23, 29, 30], [23, 29, 30], [30], [], []]))], fun _ => none, fun _ => [], noIt, false, fun _ => none, fun _ => none⟩
theorem ev_clock_track_by (J : Inv) (c0 : Int) (c1 : Int) (l : List Png) (ts : List Rg) (i : Int) (ct : Int) (post : DV → Prop) : evFn Tryz.prog tab Sb23 ann_clock_track_by J Tryz.f106 [.t (.a [.v (.int .i64 c0), .v (.int .i64 c1), .sl 4 l.length (pngsC l), .sl 2 ts.length (rgsC ts)]), .t (.c (.v (.int .i64 i))), .t (.c (.v (.int .i64 ct)))] post = vc_clock_track_by c0 c1 l ts i ct post := by kernel_rfl
theorem fit_clock_track_by : okFn ann_clock_track_by Tryz.f106 = true := by kernel_rfl
theorem lp_clock_track_by (J : Inv) (post : DV → Prop) : AllG J (loopsFn Tryz.prog tab Sb23 ann_clock_track_by J Tryz.f106 post) = (True) := by kernel_rfl
theorem spec_clock_track_by (c0 : Int) (c1 : Int) (l : List Png) (ts : List Rg) (i : Int) (ct : Int) (hp : trk (⟨c0, c1⟩ : Cab) l ts ∧ (0 ≤ i ∧ i < (l).length) ∧ 0 ≤ ct ∧ ct ≤ 1000000000000) : vc_clock_track_by c0 c1 l ts i ct (fun r => LeD r (.t (.a [.v (.int .i64 ((byR (⟨c0, c1⟩ : Cab) (pngAt l i.toNat) ct).lo)), .v (.int .i64 ((byR (⟨c0, c1⟩ : Cab) (pngAt l i.toNat) ct).hi))]))) := by
 obtain ⟨⟨z, z1, z2⟩, ⟨i1, i2⟩, n1, n2⟩ := hp
 obtain ⟨k, rfl⟩ : ∃ k : Nat, i = k := ⟨i.toNat, by omega⟩
 have hk : (k : Int).toNat = k := rfl
 have hlt : k < l.length := by omega
 have hd := z.del hlt
 have r := del_rg hd
 have b := by_rg hd ⟨n1, by omega⟩
 have hq := hd.2
 have hc := hd.1
 unfold pngOk at hq
 unfold cabOk at hc
 simp only at hc
 have b2 := b.2.1
 simp only at b2
 unfold vc_clock_track_by
 rw [hk, z2, allT_len, allT_at hlt]
 refine ⟨by omega, lt_i fun x1 h1 => ?_⟩
 rw [wi (by omega)] at h1
 subst h1
 refine ⟨by omega, ⟨?_, by omega, by omega⟩, by omega, ⟨?_, by omega, by omega⟩, ?_⟩
 ·unfold rgB tmR; simp only; omega
 ·unfold rgB tmR; simp only; omega
 ·unfold byR Cab.blo Cab.bhi tmR
  exact LeD.refl _
def con_clock_track_by : Con := fun args => match args with
 | [.t (.a [.v (.int .i64 c0), .v (.int .i64 c1), .sl 4 n_l c_l, .sl 2 n_ts c_ts]), .t (.c (.v (.int .i64 i))), .t (.c (.v (.int .i64 ct)))] => some (.t (.a [.v (.int .i64 ((byR (⟨c0, c1⟩ : Cab) (pngAt (listC n_l mkPng c_l) i.toNat) ct).lo)), .v (.int .i64 ((byR (⟨c0, c1⟩ : Cab) (pngAt (listC n_l mkPng c_l) i.toNat) ct).hi))]), some (numsP 4 n_l c_l ∧ numsP 2 n_ts c_ts ∧ trk (⟨c0, c1⟩ : Cab) (listC n_l mkPng c_l) (listC n_ts mkRg c_ts) ∧ (0 ≤ i ∧ i < ((listC n_l mkPng c_l)).length) ∧ 0 ≤ ct ∧ ct ≤ 1000000000000), false)
 | _ => none
theorem ok_clock_track_by : Ok Tryz.prog 106 con_clock_track_by := by
 refine Ok.fn (ann := ann_clock_track_by) mixed tabOK VSb23 ValidIt.no (fn := Tryz.f106) (by kernel_rfl) (by kernel_rfl) fit_clock_track_by fun args r pre fresh h hp => ?_
 unfold con_clock_track_by at h
 split at h
 ·rename_i c0 c1 n_l c_l n_ts c_ts i ct
  cases h
  obtain ⟨hp0, hp1, hp⟩ := hp
  refine ⟨rfl, fun _ _ _ => False, [.t (.a [.v (.int .i64 c0), .v (.int .i64 c1), .sl 4 ((listC n_l mkPng c_l).length) (pngsC (listC n_l mkPng c_l)), .sl 2 ((listC n_ts mkRg c_ts).length) (rgsC (listC n_ts mkRg c_ts))]), .t (.c (.v (.int .i64 i))), .t (.c (.v (.int .i64 ct)))], ?_, Nat.le_of_ble_eq_true (by kernel_rfl), ?_, ?_⟩
  ·exact (LeA_cons (leT_a (LeCs.cons (LeC1.refl _) (LeCs.cons (LeC1.refl _) (LeCs.cons ((leL_Png hp0)) (LeCs.cons ((leL_Rg hp1)) LeCs.nil))))) (LeA_cons (LeD.refl _) (LeA_cons (LeD.refl _) LeA_nil)))
  ·rw [ev_clock_track_by]; exact spec_clock_track_by c0 c1 (listC n_l mkPng c_l) (listC n_ts mkRg c_ts) i ct hp
  ·rw [lp_clock_track_by]; trivial
 ·cases h
def Sb24 : Sum := addS Sb23 106 con_clock_track_by
theorem VSb24 : Valid Tryz.prog Sb24 := Valid.add VSb23 ok_clock_track_by
def mk_clock_track_at_0 (c0 : Int) (c1 : Int) (l : List Png) (ts : List Rg) (ct : Int) (v0_0 : Int) (v0_1 : Int) (v0_2 : Int) : DS := ⟨[none, some (.t (.c (.v (.int .i64 ct)))), some (.t (.c (.p 2 0))), none, some (.t (.c (.p 4 0))), some (.t (.c (.p 5 0))), none, none, none, none, none, none, some (.t (.c (.v (.int .i64 ((ts.length : Nat) : Int))))), some (.t (.c (.v (.int .i64 v0_2)))), none, none, none, none, none, none, none, none, none, none], [none, none, some (.box 136 [.v (.int .i64 c0), .v (.int .i64 c1), .sl 4 l.length (pngsC l), .sl 2 ts.length (rgsC ts)]), none, some (.box 51 [.v (.int .i64 0), .v (.int .i64 0)]), some (.box 51 [.v (.int .i64 v0_0), .v (.int .i64 v0_1)]), none, none, none, none, none, none, none, none, none, none, none, none, none, none, none, none, none, none]⟩
def vc_clock_track_at (J : Inv) (c0 : Int) (c1 : Int) (l : List Png) (ts : List Rg) (ct : Int) (post : DV → Prop) : Prop := (numsP 4 l.length (pngsC l) ∧ numsP 2 ts.length (rgsC ts) ∧ trk (⟨c0, c1⟩ : Cab) (listC l.length mkPng (pngsC l)) (listC ts.length mkRg (rgsC ts)) ∧ (0 ≤ (0 : Int) ∧ (0 : Int) < ((listC l.length mkPng (pngsC l))).length) ∧ 0 ≤ ct ∧ ct ≤ 1000000000000) ∧ (∃ n, J 0 (n :: []) (mk_clock_track_at_0 c0 c1 l ts ct ((byR (⟨c0, c1⟩ : Cab) (pngAt (listC l.length mkPng (pngsC l)) (0 : Int).toNat) ct).lo) ((byR (⟨c0, c1⟩ : Cab) (pngAt (listC l.length mkPng (pngsC l)) (0 : Int).toNat) ct).hi) 0))
def ann_clock_track_at : Ann := ⟨fun r => lookA r [(5, ([[], [], [], [], [1, 2, 3], [0, 1, 2, 3, 4], [0, 1, 2, 3, 4, 5]], [[20, 21], [20, 21], [20, 21], [20, 21], [21], [], []]))], fun b => lookA b [(0, (none, some ⟨[1, 2, 4, 5, 12, 13], [2, 4, 5], []⟩))], fun _ => [], noIt, false, fun _ => none, fun _ => none⟩
theorem ev_clock_track_at (J : Inv) (c0 : Int) (c1 : Int) (l : List Png) (ts : List Rg) (ct : Int) (post : DV → Prop) : evFn Tryz.prog tab Sb24 ann_clock_track_at J Tryz.f73 [.t (.a [.v (.int .i64 c0), .v (.int .i64 c1), .sl 4 l.length (pngsC l), .sl 2 ts.length (rgsC ts)]), .t (.c (.v (.int .i64 ct)))] post = vc_clock_track_at J c0 c1 l ts ct post := by kernel_rfl
theorem fit_clock_track_at : okFn ann_clock_track_at Tryz.f73 = true := by kernel_rfl
def rd_clock_track_at_0 (J : Inv) (c0 : Int) (c1 : Int) (l : List Png) (ts : List Rg) (ct : Int) (v0_0 : Int) (v0_1 : Int) (v0_2 : Int) (nn0 : Nat) (post : DV → Prop) : Prop := cond (decide (v0_2 < ((ts.length : Nat) : Int))) ((numsP 4 l.length (pngsC l) ∧ numsP 2 ts.length (rgsC ts) ∧ trk (⟨c0, c1⟩ : Cab) (listC l.length mkPng (pngsC l)) (listC ts.length mkRg (rgsC ts)) ∧ (0 ≤ v0_2 ∧ v0_2 < ((listC l.length mkPng (pngsC l))).length) ∧ 0 ≤ ct ∧ ct ≤ 1000000000000) ∧ (lt (IntKind.i64.wrap (v0_2 + (1 : Int))) fun x1 => J 0 (nn0 :: []) (mk_clock_track_at_0 c0 c1 l ts ct ((meetR (⟨v0_0, v0_1⟩ : Rg) (byR (⟨c0, c1⟩ : Cab) (pngAt (listC l.length mkPng (pngsC l)) v0_2.toNat) ct)).lo) ((meetR (⟨v0_0, v0_1⟩ : Rg) (byR (⟨c0, c1⟩ : Cab) (pngAt (listC l.length mkPng (pngsC l)) v0_2.toNat) ct)).hi) x1))) (post (.t (.a [.v (.int .i64 v0_0), .v (.int .i64 v0_1)])))
theorem er_clock_track_at_0 (J : Inv) (c0 : Int) (c1 : Int) (l : List Png) (ts : List Rg) (ct : Int) (v0_0 : Int) (v0_1 : Int) (v0_2 : Int) (nn0 : Nat) (post : DV → Prop) : round Tryz.prog tab Sb24 ann_clock_track_at J Tryz.f73 post 0 (nn0 :: []) (mk_clock_track_at_0 c0 c1 l ts ct v0_0 v0_1 v0_2) = rd_clock_track_at_0 J c0 c1 l ts ct v0_0 v0_1 v0_2 nn0 post := by kernel_rfl
theorem lp_clock_track_at (J : Inv) (post : DV → Prop) : AllG J (loopsFn Tryz.prog tab Sb24 ann_clock_track_at J Tryz.f73 post) = (((∀ F s, ¬ J 0 (0 :: F) s) ∧ ∀ n F s, J 0 ((n + 1) :: F) s → round Tryz.prog tab Sb24 ann_clock_track_at J Tryz.f73 post 0 (n :: F) s) ∧ True) := by kernel_rfl
def J_clock_track_at (c0 : Int) (c1 : Int) (l : List Png) (ts : List Rg) (ct : Int) : Inv := fun b F s => match b, F with
 | 0, [nn0] => ∃ (v0_0 : Int) (v0_1 : Int) (v0_2 : Int), s = mk_clock_track_at_0 c0 c1 l ts ct v0_0 v0_1 v0_2 ∧ ((trk (⟨c0, c1⟩ : Cab) l ts ∧ 0 ≤ ct ∧ ct ≤ 1000000000000) ∧ 0 ≤ v0_2 ∧ v0_2 ≤ l.length ∧ (nn0 : Int) + v0_2 = l.length + 1 ∧ (⟨v0_0, v0_1⟩ : Rg) = atK (⟨c0, c1⟩ : Cab) l ct (v0_2.toNat - 1))
 | _, _ => False
theorem rnd_clock_track_at_0 (c0 : Int) (c1 : Int) (l : List Png) (ts : List Rg) (ct : Int) (v0_0 : Int) (v0_1 : Int) (v0_2 : Int) (nn0 : Nat) (hp : trk (⟨c0, c1⟩ : Cab) l ts ∧ 0 ≤ ct ∧ ct ≤ 1000000000000) (hi : (trk (⟨c0, c1⟩ : Cab) l ts ∧ 0 ≤ ct ∧ ct ≤ 1000000000000) ∧ 0 ≤ v0_2 ∧ v0_2 ≤ l.length ∧ ((nn0 + 1) : Int) + v0_2 = l.length + 1 ∧ (⟨v0_0, v0_1⟩ : Rg) = atK (⟨c0, c1⟩ : Cab) l ct (v0_2.toNat - 1)) : rd_clock_track_at_0 (J_clock_track_at c0 c1 l ts ct) c0 c1 l ts ct v0_0 v0_1 v0_2 nn0 (fun r => LeD r (.t (.a [.v (.int .i64 ((atR (⟨c0, c1⟩ : Cab) l ct).lo)), .v (.int .i64 ((atR (⟨c0, c1⟩ : Cab) l ct).hi))]))) := by
 obtain ⟨q, i1, i2, i3, i4⟩ := hi
 obtain ⟨k, rfl⟩ : ∃ k : Nat, v0_2 = k := ⟨v0_2.toNat, by omega⟩
 have hk : (k : Int).toNat = k := rfl
 have z := q.1.1.2.1
 have hs : ts.length = l.length := by rw [q.1.2.2, allT_len]
 rw [hk] at i4
 unfold rd_clock_track_at_0
 simp only [pngs_listC, rgs_listC, ints_listC]
 rw [hk]
 refine cond_i (fun h => ?_) (fun h => ?_)
 ·have hlt : k < l.length := by have := of_decide_eq_true h; omega
  refine ⟨⟨numsP_pngs l, numsP_rgs ts, q.1, by omega, q.2⟩, lt_i fun x hx => ?_⟩
  rw [wi (by omega)] at hx
  subst hx
  refine ⟨_, _, _, rfl, q, by omega, by omega, by omega, ?_⟩
  rw [show ((k : Int) + 1).toNat - 1 = k by omega, i4]
  rcases Nat.eq_zero_or_pos k with c | c
  ·subst c
   exact meet_self _
  ·have e := atK_succ (c := (⟨c0, c1⟩ : Cab)) (l := l) (n := ct) (k := k - 1) (by omega)
   rw [show k - 1 + 1 = k by omega] at e
   exact e.symm
 ·have h := of_decide_eq_false h
  have e : k = l.length := by omega
  rw [e] at i4
  unfold atR
  rw [← i4]
  exact LeD.refl _
theorem zero_clock_track_at_0 (c0 : Int) (c1 : Int) (l : List Png) (ts : List Rg) (ct : Int) (v0_0 : Int) (v0_1 : Int) (v0_2 : Int)  (hi : (trk (⟨c0, c1⟩ : Cab) l ts ∧ 0 ≤ ct ∧ ct ≤ 1000000000000) ∧ 0 ≤ v0_2 ∧ v0_2 ≤ l.length ∧ (0 : Int) + v0_2 = l.length + 1 ∧ (⟨v0_0, v0_1⟩ : Rg) = atK (⟨c0, c1⟩ : Cab) l ct (v0_2.toNat - 1)) : False := by
 omega
theorem spec_clock_track_at (c0 : Int) (c1 : Int) (l : List Png) (ts : List Rg) (ct : Int) (hp : trk (⟨c0, c1⟩ : Cab) l ts ∧ 0 ≤ ct ∧ ct ≤ 1000000000000) : vc_clock_track_at (J_clock_track_at c0 c1 l ts ct) c0 c1 l ts ct (fun r => LeD r (.t (.a [.v (.int .i64 ((atR (⟨c0, c1⟩ : Cab) l ct).lo)), .v (.int .i64 ((atR (⟨c0, c1⟩ : Cab) l ct).hi))]))) := by
 unfold vc_clock_track_at
 simp only [pngs_listC, rgs_listC, ints_listC]
 have z := hp.1.1.2.1
 exact ⟨⟨numsP_pngs l, numsP_rgs ts, hp.1, by omega, hp.2⟩, l.length + 1, _, _, 0, rfl, hp, by omega, by omega, by omega, rfl⟩
theorem all_clock_track_at (c0 : Int) (c1 : Int) (l : List Png) (ts : List Rg) (ct : Int) (hp : trk (⟨c0, c1⟩ : Cab) l ts ∧ 0 ≤ ct ∧ ct ≤ 1000000000000) : AllG (J_clock_track_at c0 c1 l ts ct) (loopsFn Tryz.prog tab Sb24 ann_clock_track_at (J_clock_track_at c0 c1 l ts ct) Tryz.f73 (fun r => LeD r (.t (.a [.v (.int .i64 ((atR (⟨c0, c1⟩ : Cab) l ct).lo)), .v (.int .i64 ((atR (⟨c0, c1⟩ : Cab) l ct).hi))])))) := by
 rw [lp_clock_track_at]
 refine ⟨⟨?_, ?_⟩, trivial⟩
 ·intro F s h
  obtain _ | ⟨g, F⟩ := F
  case cons => exact h.elim
  obtain ⟨w0, w1, w2, rfl, hi⟩ := h
  exact zero_clock_track_at_0 c0 c1 l ts ct w0 w1 w2 hi
 ·intro n F s h
  obtain _ | ⟨g, F⟩ := F
  case cons => exact h.elim
  obtain ⟨w0, w1, w2, rfl, hi⟩ := h
  rw [er_clock_track_at_0]
  exact rnd_clock_track_at_0 c0 c1 l ts ct _ _ _ _ hp hi
def con_clock_track_at : Con := fun args => match args with
 | [.t (.a [.v (.int .i64 c0), .v (.int .i64 c1), .sl 4 n_l c_l, .sl 2 n_ts c_ts]), .t (.c (.v (.int .i64 ct)))] => some (.t (.a [.v (.int .i64 ((atR (⟨c0, c1⟩ : Cab) (listC n_l mkPng c_l) ct).lo)), .v (.int .i64 ((atR (⟨c0, c1⟩ : Cab) (listC n_l mkPng c_l) ct).hi))]), some (numsP 4 n_l c_l ∧ numsP 2 n_ts c_ts ∧ trk (⟨c0, c1⟩ : Cab) (listC n_l mkPng c_l) (listC n_ts mkRg c_ts) ∧ 0 ≤ ct ∧ ct ≤ 1000000000000), false)
 | _ => none
theorem ok_clock_track_at : Ok Tryz.prog 73 con_clock_track_at := by
 refine Ok.fn (ann := ann_clock_track_at) mixed tabOK VSb24 ValidIt.no (fn := Tryz.f73) (by kernel_rfl) (by kernel_rfl) fit_clock_track_at fun args r pre fresh h hp => ?_
 unfold con_clock_track_at at h
 split at h
 ·rename_i c0 c1 n_l c_l n_ts c_ts ct
  cases h
  obtain ⟨hp0, hp1, hp⟩ := hp
  refine ⟨rfl, J_clock_track_at c0 c1 (listC n_l mkPng c_l) (listC n_ts mkRg c_ts) ct, [.t (.a [.v (.int .i64 c0), .v (.int .i64 c1), .sl 4 ((listC n_l mkPng c_l).length) (pngsC (listC n_l mkPng c_l)), .sl 2 ((listC n_ts mkRg c_ts).length) (rgsC (listC n_ts mkRg c_ts))]), .t (.c (.v (.int .i64 ct)))], ?_, Nat.le_of_ble_eq_true (by kernel_rfl), ?_, ?_⟩
  ·exact (LeA_cons (leT_a (LeCs.cons (LeC1.refl _) (LeCs.cons (LeC1.refl _) (LeCs.cons ((leL_Png hp0)) (LeCs.cons ((leL_Rg hp1)) LeCs.nil))))) (LeA_cons (LeD.refl _) LeA_nil))
  ·rw [ev_clock_track_at]; exact spec_clock_track_at c0 c1 (listC n_l mkPng c_l) (listC n_ts mkRg c_ts) ct hp
  ·exact all_clock_track_at c0 c1 (listC n_l mkPng c_l) (listC n_ts mkRg c_ts) ct hp
 ·cases h
def Sb25 : Sum := addS Sb24 73 con_clock_track_at
theorem VSb25 : Valid Tryz.prog Sb25 := Valid.add VSb24 ok_clock_track_at
def mk_clock_track_pair_0 (c0 : Int) (c1 : Int) (l : List Png) (ts : List Rg) (v0_0 : Int) : DS := ⟨[none, some (.t (.c (.p 1 0))), none, none, none, none, none, none, some (.t (.c (.v (.int .i64 ((ts.length : Nat) : Int))))), some (.t (.c (.v (.int .i64 v0_0)))), none, none, none, none, none, none, none, none, none, none, none, none, none, none, none, none, none, none, none, none, none, none, none, none, none, none, none, none, none, none, none, none, none, none, none, none], [none, some (.box 136 [.v (.int .i64 c0), .v (.int .i64 c1), .sl 4 l.length (pngsC l), .sl 2 ts.length (rgsC ts)]), none, none, none, none, none, none, none, none, none, none, none, none, none, none, none, none, none, none, none, none, none, none, none, none, none, none, none, none, none, none, none, none, none, none, none, none, none, none, none, none, none, none, none, none]⟩
def mk_clock_track_pair_2 (c0 : Int) (c1 : Int) (l : List Png) (ts : List Rg) (v2_0 : Int) (v2_1 : Int) (v2_2 : Int) : DS := ⟨[none, some (.t (.c (.p 1 0))), none, some (.t (.c (.v (.int .i64 v2_0)))), some (.t (.c (.v (.int .i64 v2_1)))), none, none, none, some (.t (.c (.v (.int .i64 ((ts.length : Nat) : Int))))), some (.t (.c (.v (.int .i64 v2_2)))), none, none, none, none, none, none, none, none, none, none, none, none, none, none, none, none, none, none, none, none, none, none, none, none, none, none, none, none, none, none, none, none, none, none, none, none], [none, some (.box 136 [.v (.int .i64 c0), .v (.int .i64 c1), .sl 4 l.length (pngsC l), .sl 2 ts.length (rgsC ts)]), none, none, none, none, none, none, none, none, none, none, none, none, none, none, none, none, none, none, none, none, none, none, none, none, none, none, none, none, none, none, none, none, none, none, none, none, none, none, none, none, none, none, none, none]⟩
def vc_clock_track_pair (J : Inv) (c0 : Int) (c1 : Int) (l : List Png) (ts : List Rg) (post : DV → Prop) : Prop := ∃ n, J 0 (n :: []) (mk_clock_track_pair_0 c0 c1 l ts 0)
def ann_clock_track_pair : Ann := ⟨fun r => lookA r [(7, ([[], [0], [], [0, 1, 2], [0, 1, 2, 3], [], [], [], [7], [7, 8], [], [7, 8, 9, 10], [7, 8, 9, 10, 11], [7, 8, 9, 10, 11, 12], [5, 6, 7, 8, 9, 10, 11, 12, 13], [0, 1, 2, 3, 4, 5, 6, 7, 8, 9, 10, 11, 12, 13, 14], [], [0, 1, 2, 3, 4, 5, 6, 7, 8, 9, 10, 11, 12, 13, 14, 15, 16]], [[35, 36, 5], [35, 36, 5], [35, 36, 5], [35, 36, 5], [35, 36, 5], [35, 36, 5], [35, 36, 5], [35, 36, 5], [35, 36, 5], [35, 36, 5], [35, 36, 5], [35, 36, 5], [35, 36, 5], [35, 36, 5], [36, 5], [5], [35, 36], []]))], fun b => lookA b [(0, (none, some ⟨[1, 8, 9], [1], []⟩)), (2, (none, some ⟨[1, 3, 4, 8, 9], [1], []⟩))], fun _ => [], noIt, false, fun _ => none, fun _ => none⟩
theorem ev_clock_track_pair (J : Inv) (c0 : Int) (c1 : Int) (l : List Png) (ts : List Rg) (post : DV → Prop) : evFn Tryz.prog tab Sb25 ann_clock_track_pair J Tryz.f105 [.t (.a [.v (.int .i64 c0), .v (.int .i64 c1), .sl 4 l.length (pngsC l), .sl 2 ts.length (rgsC ts)])] post = vc_clock_track_pair J c0 c1 l ts post := by kernel_rfl
theorem fit_clock_track_pair : okFn ann_clock_track_pair Tryz.f105 = true := by kernel_rfl
def rd_clock_track_pair_0 (J : Inv) (c0 : Int) (c1 : Int) (l : List Png) (ts : List Rg) (v0_0 : Int) (nn0 : Nat) (post : DV → Prop) : Prop := cond (decide (v0_0 < ((ts.length : Nat) : Int))) (lt (IntKind.i64.wrap (v0_0 + (1 : Int))) fun x1 => ∃ n, J 2 (n :: nn0 :: []) (mk_clock_track_pair_2 c0 c1 l ts v0_0 x1 v0_0)) (post (.t (.c (.v (.slice none 0 0)))))
theorem er_clock_track_pair_0 (J : Inv) (c0 : Int) (c1 : Int) (l : List Png) (ts : List Rg) (v0_0 : Int) (nn0 : Nat) (post : DV → Prop) : round Tryz.prog tab Sb25 ann_clock_track_pair J Tryz.f105 post 0 (nn0 :: []) (mk_clock_track_pair_0 c0 c1 l ts v0_0) = rd_clock_track_pair_0 J c0 c1 l ts v0_0 nn0 post := by kernel_rfl
def rd_clock_track_pair_2 (J : Inv) (c0 : Int) (c1 : Int) (l : List Png) (ts : List Rg) (v2_0 : Int) (v2_1 : Int) (v2_2 : Int) (nn2 nn0 : Nat) (post : DV → Prop) : Prop := cond (decide (v2_1 < ((ts.length : Nat) : Int))) ((0 ≤ v2_1 ∧ v2_1 < ((ts.length : Nat) : Int)) ∧ ((0 ≤ v2_1 ∧ v2_1 < ((l.length : Nat) : Int)) ∧ ((numsP 4 l.length (pngsC l) ∧ numsP 2 ts.length (rgsC ts) ∧ trk (⟨c0, c1⟩ : Cab) (listC l.length mkPng (pngsC l)) (listC ts.length mkRg (rgsC ts)) ∧ (0 ≤ v2_0 ∧ v2_0 < ((listC l.length mkPng (pngsC l))).length) ∧ 0 ≤ ((pngAt l v2_1.toNat).arr) ∧ ((pngAt l v2_1.toNat).arr) ≤ 1000000000000) ∧ (cond (decide (((meetR (rgAt ts v2_1.toNat) (byR (⟨c0, c1⟩ : Cab) (pngAt (listC l.length mkPng (pngsC l)) v2_0.toNat) ((pngAt l v2_1.toNat).arr))).lo) > ((meetR (rgAt ts v2_1.toNat) (byR (⟨c0, c1⟩ : Cab) (pngAt (listC l.length mkPng (pngsC l)) v2_0.toNat) ((pngAt l v2_1.toNat).arr))).hi))) (post (.t (.c (.sl 1 2 (genC [[.v (.int .i64 v2_0)], [.v (.int .i64 v2_1)]]))))) (lt (IntKind.i64.wrap (v2_1 + (1 : Int))) fun x1 => J 2 (nn2 :: nn0 :: []) (mk_clock_track_pair_2 c0 c1 l ts v2_0 x1 v2_2)))))) (lt (IntKind.i64.wrap (v2_2 + (1 : Int))) fun x2 => J 0 (nn0 :: []) (mk_clock_track_pair_0 c0 c1 l ts x2))
theorem er_clock_track_pair_2 (J : Inv) (c0 : Int) (c1 : Int) (l : List Png) (ts : List Rg) (v2_0 : Int) (v2_1 : Int) (v2_2 : Int) (nn2 nn0 : Nat) (post : DV → Prop) : round Tryz.prog tab Sb25 ann_clock_track_pair J Tryz.f105 post 1 (nn2 :: nn0 :: []) (mk_clock_track_pair_2 c0 c1 l ts v2_0 v2_1 v2_2) = rd_clock_track_pair_2 J c0 c1 l ts v2_0 v2_1 v2_2 nn2 nn0 post := by kernel_rfl
theorem lp_clock_track_pair (J : Inv) (post : DV → Prop) : AllG J (loopsFn Tryz.prog tab Sb25 ann_clock_track_pair J Tryz.f105 post) = (((∀ F s, ¬ J 0 (0 :: F) s) ∧ ∀ n F s, J 0 ((n + 1) :: F) s → round Tryz.prog tab Sb25 ann_clock_track_pair J Tryz.f105 post 0 (n :: F) s) ∧ ((∀ F s, ¬ J 2 (0 :: F) s) ∧ ∀ n F s, J 2 ((n + 1) :: F) s → round Tryz.prog tab Sb25 ann_clock_track_pair J Tryz.f105 post 1 (n :: F) s) ∧ True) := by kernel_rfl
def J_clock_track_pair (c0 : Int) (c1 : Int) (l : List Png) (ts : List Rg) : Inv := fun b F s => match b, F with
 | 0, [nn0] => ∃ (v0_0 : Int), s = mk_clock_track_pair_0 c0 c1 l ts v0_0 ∧ (trN (⟨c0, c1⟩ : Cab) l ts ∧ 0 ≤ v0_0 ∧ v0_0 ≤ ts.length ∧ (nn0 : Int) + v0_0 = ts.length + 1 ∧ apN (⟨c0, c1⟩ : Cab) l v0_0.toNat 0)
 | 2, [nn2, nn0] => ∃ (v2_0 : Int) (v2_1 : Int) (v2_2 : Int), s = mk_clock_track_pair_2 c0 c1 l ts v2_0 v2_1 v2_2 ∧ (trk (⟨c0, c1⟩ : Cab) l ts ∧ (0 ≤ v2_0 ∧ v2_0 < ts.length ∧ (nn0 : Int) + v2_0 = ts.length) ∧ v2_2 = v2_0 ∧ (v2_0 < v2_1 ∧ v2_1 ≤ ts.length ∧ (nn2 : Int) + v2_1 = ts.length + 1) ∧ apN (⟨c0, c1⟩ : Cab) l v2_0.toNat v2_1.toNat)
 | _, _ => False
set_option maxHeartbeats 8000000 in
set_option maxRecDepth 100000 in
theorem rnd_clock_track_pair_0 (c0 : Int) (c1 : Int) (l : List Png) (ts : List Rg) (v0_0 : Int) (nn0 : Nat) (hp : trN (⟨c0, c1⟩ : Cab) l ts) (hi : trN (⟨c0, c1⟩ : Cab) l ts ∧ 0 ≤ v0_0 ∧ v0_0 ≤ ts.length ∧ ((nn0 + 1) : Int) + v0_0 = ts.length + 1 ∧ apN (⟨c0, c1⟩ : Cab) l v0_0.toNat 0) : rd_clock_track_pair_0 (J_clock_track_pair c0 c1 l ts) c0 c1 l ts v0_0 nn0 (fun r => LeD r (.t (.c (.sl 1 ((paV (⟨c0, c1⟩ : Cab) l ts).length) (intsC (paV (⟨c0, c1⟩ : Cab) l ts)))))) := by
 obtain ⟨q, i1, i2, i3, i4⟩ := hi
 obtain ⟨k, rfl⟩ : ∃ k : Nat, v0_0 = k := ⟨v0_0.toNat, by omega⟩
 have hk : (k : Int).toNat = k := rfl
 rw [hk] at i4
 unfold rd_clock_track_pair_0
 refine cond_i (fun h => ?_) (fun h => ?_)
 ·have hlt : k < ts.length := by have := of_decide_eq_true h; omega
  have t := trN_trk q hlt
  have z := t.1.2.1
  have hs : ts.length = l.length := by rw [t.2.2, allT_len]
  refine lt_i fun x hx => ?_
  rw [wi (by omega)] at hx
  subst hx
  refine ⟨ts.length - k, _, _, _, rfl, t, ⟨by omega, by omega, by omega⟩, rfl, by omega, ?_⟩
  rw [show ((k : Int) + 1).toNat = k + 1 by omega, hk]
  exact apN_next i4
 ·have h := of_decide_eq_false h
  have e : paV (⟨c0, c1⟩ : Cab) l ts = [] := by
   unfold paV
   split
   ·rfl
   ·rename_i c
    have t := trN_trk q (Nat.pos_of_ne_zero c)
    have hs : ts.length = l.length := by rw [t.2.2, allT_len]
    exact apN_none (by rw [← hs, show ts.length = k by omega]; exact i4)
  rw [e]
  exact le_nil
theorem zero_clock_track_pair_0 (c0 : Int) (c1 : Int) (l : List Png) (ts : List Rg) (v0_0 : Int)  (hi : trN (⟨c0, c1⟩ : Cab) l ts ∧ 0 ≤ v0_0 ∧ v0_0 ≤ ts.length ∧ (0 : Int) + v0_0 = ts.length + 1 ∧ apN (⟨c0, c1⟩ : Cab) l v0_0.toNat 0) : False := by
 omega
set_option maxHeartbeats 8000000 in
set_option maxRecDepth 100000 in
theorem rnd_clock_track_pair_2 (c0 : Int) (c1 : Int) (l : List Png) (ts : List Rg) (v2_0 : Int) (v2_1 : Int) (v2_2 : Int) (nn2 nn0 : Nat) (hp : trN (⟨c0, c1⟩ : Cab) l ts) (hi : trk (⟨c0, c1⟩ : Cab) l ts ∧ (0 ≤ v2_0 ∧ v2_0 < ts.length ∧ (nn0 : Int) + v2_0 = ts.length) ∧ v2_2 = v2_0 ∧ (v2_0 < v2_1 ∧ v2_1 ≤ ts.length ∧ ((nn2 + 1) : Int) + v2_1 = ts.length + 1) ∧ apN (⟨c0, c1⟩ : Cab) l v2_0.toNat v2_1.toNat) : rd_clock_track_pair_2 (J_clock_track_pair c0 c1 l ts) c0 c1 l ts v2_0 v2_1 v2_2 nn2 nn0 (fun r => LeD r (.t (.c (.sl 1 ((paV (⟨c0, c1⟩ : Cab) l ts).length) (intsC (paV (⟨c0, c1⟩ : Cab) l ts)))))) := by
 obtain ⟨t, i1, i0, i2, i4⟩ := hi
 obtain ⟨k, rfl⟩ : ∃ k : Nat, v2_0 = k := ⟨v2_0.toNat, by omega⟩
 have hk : (k : Int).toNat = k := rfl
 obtain ⟨m, rfl⟩ : ∃ m : Nat, v2_1 = m := ⟨v2_1.toNat, by omega⟩
 have hm : (m : Int).toNat = m := rfl
 rw [hk, hm] at i4
 subst i0
 have z := t.1.2.1
 have hs : ts.length = l.length := by rw [t.2.2, allT_len]
 unfold rd_clock_track_pair_2
 simp only [pngs_listC, rgs_listC, ints_listC]
 rw [hk, hm]
 refine cond_i (fun h => ?_) (fun h => lt_i fun x hx => ?_)
 ·have hlt : m < l.length := by have := of_decide_eq_true h; omega
  have hq := (t.1.del hlt).2
  unfold pngOk at hq
  have e : rgAt ts m = tmR (⟨c0, c1⟩ : Cab) (pngAt l m) := by rw [t.2.2, allT_at hlt]
  rw [e]
  refine ⟨by omega, by omega, ⟨numsP_pngs l, numsP_rgs ts, t, by omega, by omega, by omega⟩, cond_i (fun g => ?_) (fun g => lt_i fun x hx => ?_)⟩
  ·have e2 : paV (⟨c0, c1⟩ : Cab) l ts = [(k : Int), (m : Int)] := by
    unfold paV
    rw [if_neg (by omega)]
    exact apN_at (by omega) hlt g i4
   rw [e2]
   refine leSl fun i j hi hj => ?_
   obtain rfl : j = 0 := by omega
   rcases (by first | omega | (simp at hi; omega) : i = 0 ∨ i = 1) with rfl | rfl <;> rfl
  ·rw [wi (by omega)] at hx
   subst hx
   refine ⟨_, _, _, rfl, t, i1, rfl, by omega, ?_⟩
   rw [show ((m : Int) + 1).toNat = m + 1 by omega, hk]
   exact apN_step i4 g
 ·have h := of_decide_eq_false h
  rw [wi (by omega)] at hx
  subst hx
  refine ⟨_, rfl, Or.inr t, by omega, by omega, by omega, ?_⟩
  rw [show ((k : Int) + 1).toNat = k + 1 by omega]
  rw [show m = l.length by omega] at i4
  exact apN_row i4
theorem zero_clock_track_pair_2 (c0 : Int) (c1 : Int) (l : List Png) (ts : List Rg) (v2_0 : Int) (v2_1 : Int) (v2_2 : Int) (nn0 : Nat) (hi : trk (⟨c0, c1⟩ : Cab) l ts ∧ (0 ≤ v2_0 ∧ v2_0 < ts.length ∧ (nn0 : Int) + v2_0 = ts.length) ∧ v2_2 = v2_0 ∧ (v2_0 < v2_1 ∧ v2_1 ≤ ts.length ∧ (0 : Int) + v2_1 = ts.length + 1) ∧ apN (⟨c0, c1⟩ : Cab) l v2_0.toNat v2_1.toNat) : False := by
 omega
set_option maxHeartbeats 8000000 in
set_option maxRecDepth 100000 in
theorem spec_clock_track_pair (c0 : Int) (c1 : Int) (l : List Png) (ts : List Rg) (hp : trN (⟨c0, c1⟩ : Cab) l ts) : vc_clock_track_pair (J_clock_track_pair c0 c1 l ts) c0 c1 l ts (fun r => LeD r (.t (.c (.sl 1 ((paV (⟨c0, c1⟩ : Cab) l ts).length) (intsC (paV (⟨c0, c1⟩ : Cab) l ts)))))) := by
 unfold vc_clock_track_pair
 exact ⟨ts.length + 1, 0, rfl, hp, by omega, by omega, by omega, fun i k h1 h2 h3 => by omega⟩
theorem all_clock_track_pair (c0 : Int) (c1 : Int) (l : List Png) (ts : List Rg) (hp : trN (⟨c0, c1⟩ : Cab) l ts) : AllG (J_clock_track_pair c0 c1 l ts) (loopsFn Tryz.prog tab Sb25 ann_clock_track_pair (J_clock_track_pair c0 c1 l ts) Tryz.f105 (fun r => LeD r (.t (.c (.sl 1 ((paV (⟨c0, c1⟩ : Cab) l ts).length) (intsC (paV (⟨c0, c1⟩ : Cab) l ts))))))) := by
 rw [lp_clock_track_pair]
 refine ⟨⟨?_, ?_⟩, ⟨?_, ?_⟩, trivial⟩
 ·intro F s h
  obtain _ | ⟨g, F⟩ := F
  case cons => exact h.elim
  obtain ⟨w0, rfl, hi⟩ := h
  exact zero_clock_track_pair_0 c0 c1 l ts w0 hi
 ·intro n F s h
  obtain _ | ⟨g, F⟩ := F
  case cons => exact h.elim
  obtain ⟨w0, rfl, hi⟩ := h
  rw [er_clock_track_pair_0]
  exact rnd_clock_track_pair_0 c0 c1 l ts _ _ hp hi
 ·intro F s h
  obtain _ | ⟨f0, F⟩ := F
  ·exact h.elim
  obtain _ | ⟨g, F⟩ := F
  case cons => exact h.elim
  obtain ⟨w0, w1, w2, rfl, hi⟩ := h
  exact zero_clock_track_pair_2 c0 c1 l ts w0 w1 w2 _ hi
 ·intro n F s h
  obtain _ | ⟨f0, F⟩ := F
  ·exact h.elim
  obtain _ | ⟨g, F⟩ := F
  case cons => exact h.elim
  obtain ⟨w0, w1, w2, rfl, hi⟩ := h
  rw [er_clock_track_pair_2]
  exact rnd_clock_track_pair_2 c0 c1 l ts _ _ _ _ _ hp hi
def con_clock_track_pair : Con := fun args => match args with
 | [.t (.a [.v (.int .i64 c0), .v (.int .i64 c1), .sl 4 n_l c_l, .sl 2 n_ts c_ts])] => some (.t (.c (.sl 1 ((paV (⟨c0, c1⟩ : Cab) (listC n_l mkPng c_l) (listC n_ts mkRg c_ts)).length) (intsC (paV (⟨c0, c1⟩ : Cab) (listC n_l mkPng c_l) (listC n_ts mkRg c_ts))))), some (numsP 4 n_l c_l ∧ numsP 2 n_ts c_ts ∧ trN (⟨c0, c1⟩ : Cab) (listC n_l mkPng c_l) (listC n_ts mkRg c_ts)), false)
 | _ => none
theorem ok_clock_track_pair : Ok Tryz.prog 105 con_clock_track_pair := by
 refine Ok.fn (ann := ann_clock_track_pair) mixed tabOK VSb25 ValidIt.no (fn := Tryz.f105) (by kernel_rfl) (by kernel_rfl) fit_clock_track_pair fun args r pre fresh h hp => ?_
 unfold con_clock_track_pair at h
 split at h
 ·rename_i c0 c1 n_l c_l n_ts c_ts
  cases h
  obtain ⟨hp0, hp1, hp⟩ := hp
  refine ⟨rfl, J_clock_track_pair c0 c1 (listC n_l mkPng c_l) (listC n_ts mkRg c_ts), [.t (.a [.v (.int .i64 c0), .v (.int .i64 c1), .sl 4 ((listC n_l mkPng c_l).length) (pngsC (listC n_l mkPng c_l)), .sl 2 ((listC n_ts mkRg c_ts).length) (rgsC (listC n_ts mkRg c_ts))])], ?_, Nat.le_of_ble_eq_true (by kernel_rfl), ?_, ?_⟩
  ·exact (LeA_cons (leT_a (LeCs.cons (LeC1.refl _) (LeCs.cons (LeC1.refl _) (LeCs.cons ((leL_Png hp0)) (LeCs.cons ((leL_Rg hp1)) LeCs.nil))))) LeA_nil)
  ·rw [ev_clock_track_pair]; exact spec_clock_track_pair c0 c1 (listC n_l mkPng c_l) (listC n_ts mkRg c_ts) hp
  ·exact all_clock_track_pair c0 c1 (listC n_l mkPng c_l) (listC n_ts mkRg c_ts) hp
 ·cases h
def Sb26 : Sum := addS Sb25 105 con_clock_track_pair
theorem VSb26 : Valid Tryz.prog Sb26 := Valid.add VSb25 ok_clock_track_pair
def vc_clock_openBoth (c0 : Int) (c1 : Int) (l : List Png) (ct : Int) (post : DV → Prop) : Prop := (numsP 4 l.length (pngsC l)) ∧ (cond (decide ((opB (⟨c0, c1⟩ : Cab) (listC l.length mkPng (pngsC l))) < (0 : Int))) ((numsP 4 ((listC l.length mkPng (pngsC l)).length) (pngsC (listC l.length mkPng (pngsC l))) ∧ numsP 2 ((opT (⟨c0, c1⟩ : Cab) (listC l.length mkPng (pngsC l))).length) (rgsC (opT (⟨c0, c1⟩ : Cab) (listC l.length mkPng (pngsC l)))) ∧ trN (⟨c0, c1⟩ : Cab) (listC ((listC l.length mkPng (pngsC l)).length) mkPng (pngsC (listC l.length mkPng (pngsC l)))) (listC ((opT (⟨c0, c1⟩ : Cab) (listC l.length mkPng (pngsC l))).length) mkRg (rgsC (opT (⟨c0, c1⟩ : Cab) (listC l.length mkPng (pngsC l)))))) ∧ ((numsP 1 3 (genC [[.v (.int .i64 (trE (⟨c0, c1⟩ : Cab) (listC l.length mkPng (pngsC l))))], [.v (.int .i64 (unl (tkB ct) (2 : Int)))], [.v (.int .i64 (unl ((((paV (⟨c0, c1⟩ : Cab) (listC ((listC l.length mkPng (pngsC l)).length) mkPng (pngsC (listC l.length mkPng (pngsC l)))) (listC ((opT (⟨c0, c1⟩ : Cab) (listC l.length mkPng (pngsC l))).length) mkRg (rgsC (opT (⟨c0, c1⟩ : Cab) (listC l.length mkPng (pngsC l)))))).length : Nat) : Int) == (0 : Int)) (13 : Int)))]]) ∧ (([(trE (⟨c0, c1⟩ : Cab) (listC l.length mkPng (pngsC l))), (unl (tkB ct) (2 : Int)), (unl ((((paV (⟨c0, c1⟩ : Cab) (listC ((listC l.length mkPng (pngsC l)).length) mkPng (pngsC (listC l.length mkPng (pngsC l)))) (listC ((opT (⟨c0, c1⟩ : Cab) (listC l.length mkPng (pngsC l))).length) mkRg (rgsC (opT (⟨c0, c1⟩ : Cab) (listC l.length mkPng (pngsC l)))))).length : Nat) : Int) == (0 : Int)) (13 : Int))] : List Int)).length ≤ 100) ∧ (post (.tu [.a [.v (.int .i64 c0), .v (.int .i64 c1), .sl 4 ((listC l.length mkPng (pngsC l)).length) (pngsC (listC l.length mkPng (pngsC l))), .sl 2 ((opT (⟨c0, c1⟩ : Cab) (listC l.length mkPng (pngsC l))).length) (rgsC (opT (⟨c0, c1⟩ : Cab) (listC l.length mkPng (pngsC l))))], .c (.v (.int .i64 (firstNZ ([(trE (⟨c0, c1⟩ : Cab) (listC l.length mkPng (pngsC l))), (unl (tkB ct) (2 : Int)), (unl ((((paV (⟨c0, c1⟩ : Cab) (listC ((listC l.length mkPng (pngsC l)).length) mkPng (pngsC (listC l.length mkPng (pngsC l)))) (listC ((opT (⟨c0, c1⟩ : Cab) (listC l.length mkPng (pngsC l))).length) mkRg (rgsC (opT (⟨c0, c1⟩ : Cab) (listC l.length mkPng (pngsC l)))))).length : Nat) : Int) == (0 : Int)) (13 : Int))] : List Int))))])))) ((false = false) ∧ ((numsP 1 3 (genC [[.v (.int .i64 (trE (⟨c0, c1⟩ : Cab) (listC l.length mkPng (pngsC l))))], [.v (.int .i64 (unl (tkB ct) (2 : Int)))], [.v (.int .i64 (unl false (13 : Int)))]]) ∧ (([(trE (⟨c0, c1⟩ : Cab) (listC l.length mkPng (pngsC l))), (unl (tkB ct) (2 : Int)), (unl false (13 : Int))] : List Int)).length ≤ 100) ∧ (post (.tu [.a [.v (.int .i64 c0), .v (.int .i64 c1), .sl 4 ((listC l.length mkPng (pngsC l)).length) (pngsC (listC l.length mkPng (pngsC l))), .sl 2 ((opT (⟨c0, c1⟩ : Cab) (listC l.length mkPng (pngsC l))).length) (rgsC (opT (⟨c0, c1⟩ : Cab) (listC l.length mkPng (pngsC l))))], .c (.v (.int .i64 (firstNZ ([(trE (⟨c0, c1⟩ : Cab) (listC l.length mkPng (pngsC l))), (unl (tkB ct) (2 : Int)), (unl false (13 : Int))] : List Int))))])))))
def ann_clock_openBoth : Ann := ⟨fun r => lookA r [(2, ([[], [], [], [2], [2, 3], [], [5], [2, 3, 4, 5, 6], [2, 3, 4, 5, 6, 7], [2, 3, 4, 5, 6, 7, 8], [2, 3, 4, 5, 6, 7, 8, 9], [2, 3, 4, 5, 6, 7, 8, 9, 10], [2, 3, 4, 5, 6, 7, 8, 9, 10, 11], [2, 3, 4, 5, 6, 7, 8, 9, 10, 11, 12], [1, 2, 3, 4, 5, 6, 7, 8, 9, 10, 11, 12, 13], [1, 2, 3, 4, 5, 6, 7, 8, 9, 10, 11, 12, 13, 14], [0, 1, 2, 3, 4, 5, 6, 7, 8, 9, 10, 11, 12, 13, 14, 15], [0, 1, 2, 3, 4, 5, 6, 7, 8, 9, 10, 11, 12, 13, 14, 15, 16]], [[18, 19, 24, 28, 29, 30], [18, 19, 24, 28, 29, 30], [18, 19, 24, 28, 29, 30], [19, 24, 28, 29, 30], [24, 28, 29, 30], [18, 19, 24, 28, 29, 30], [18, 19, 24, 28, 29, 30], [24, 28, 29, 30], [24, 28, 29, 30], [28, 29, 30], [28, 29, 30], [28, 29, 30], [28, 29, 30], [29, 30], [30], [], [], []]))], fun _ => none, fun _ => [], noIt, false, fun _ => none, fun _ => none⟩
theorem ev_clock_openBoth (J : Inv) (c0 : Int) (c1 : Int) (l : List Png) (ct : Int) (post : DV → Prop) : evFn Tryz.prog tab Sb26 ann_clock_openBoth J Tryz.f72 [.t (.a [.v (.int .i64 c0), .v (.int .i64 c1), .sl 4 l.length (pngsC l)]), .t (.c (.v (.int .i64 ct)))] post = vc_clock_openBoth c0 c1 l ct post := by kernel_rfl
theorem fit_clock_openBoth : okFn ann_clock_openBoth Tryz.f72 = true := by kernel_rfl
theorem lp_clock_openBoth (J : Inv) (post : DV → Prop) : AllG J (loopsFn Tryz.prog tab Sb26 ann_clock_openBoth J Tryz.f72 post) = (True) := by kernel_rfl
theorem spec_clock_openBoth (c0 : Int) (c1 : Int) (l : List Png) (ct : Int) : vc_clock_openBoth c0 c1 l ct (fun r => LeD r (.tu [.a [.v (.int .i64 c0), .v (.int .i64 c1), .sl 4 l.length (pngsC l), .sl 2 ((opT (⟨c0, c1⟩ : Cab) l).length) (rgsC (opT (⟨c0, c1⟩ : Cab) l))], .c (.v (.int .i64 (obE (⟨c0, c1⟩ : Cab) l ct)))])) := by
 unfold vc_clock_openBoth
 simp only [pngs_listC, rgs_listC, ints_listC]
 refine ⟨numsP_pngs l, cond_i (fun h => ?_) (fun h => ?_)⟩
 ·have h := of_decide_eq_true h
  refine ⟨⟨numsP_pngs _, numsP_rgs _, opT_trN l h⟩, ⟨numsP_gen [_, _, _], Nat.le_of_ble_eq_true rfl⟩, ?_⟩
  rw [ob_true h]
  exact LeD.refl _
 ·have h := of_decide_eq_false h
  refine ⟨by trivial, ⟨numsP_gen [_, _, _], Nat.le_of_ble_eq_true rfl⟩, ?_⟩
  rw [ob_false h]
  exact LeD.refl _
def con_clock_openBoth : Con := fun args => match args with
 | [.t (.a [.v (.int .i64 c0), .v (.int .i64 c1), .sl 4 n_l c_l]), .t (.c (.v (.int .i64 ct)))] => some (.tu [.a [.v (.int .i64 c0), .v (.int .i64 c1), .sl 4 ((listC n_l mkPng c_l).length) (pngsC (listC n_l mkPng c_l)), .sl 2 ((opT (⟨c0, c1⟩ : Cab) (listC n_l mkPng c_l)).length) (rgsC (opT (⟨c0, c1⟩ : Cab) (listC n_l mkPng c_l)))], .c (.v (.int .i64 (obE (⟨c0, c1⟩ : Cab) (listC n_l mkPng c_l) ct)))], some (numsP 4 n_l c_l), false)
 | _ => none
theorem ok_clock_openBoth : Ok Tryz.prog 72 con_clock_openBoth := by
 refine Ok.fn (ann := ann_clock_openBoth) mixed tabOK VSb26 ValidIt.no (fn := Tryz.f72) (by kernel_rfl) (by kernel_rfl) fit_clock_openBoth fun args r pre fresh h hp => ?_
 unfold con_clock_openBoth at h
 split at h
 ·rename_i c0 c1 n_l c_l ct
  cases h
  have hp0 := hp
  refine ⟨rfl, fun _ _ _ => False, [.t (.a [.v (.int .i64 c0), .v (.int .i64 c1), .sl 4 ((listC n_l mkPng c_l).length) (pngsC (listC n_l mkPng c_l))]), .t (.c (.v (.int .i64 ct)))], ?_, Nat.le_of_ble_eq_true (by kernel_rfl), ?_, ?_⟩
  ·exact (LeA_cons (leT_a (LeCs.cons (LeC1.refl _) (LeCs.cons (LeC1.refl _) (LeCs.cons ((leL_Png hp0)) LeCs.nil)))) (LeA_cons (LeD.refl _) LeA_nil))
  ·rw [ev_clock_openBoth]; exact spec_clock_openBoth c0 c1 (listC n_l mkPng c_l) ct
  ·rw [lp_clock_openBoth]; trivial
 ·cases h
def Sb27 : Sum := addS Sb26 72 con_clock_openBoth
theorem VSb27 : Valid Tryz.prog Sb27 := Valid.add VSb26 ok_clock_openBoth
def vc_clock_TimeAt (c0 : Int) (c1 : Int) (l : List Png) (ct : Int) (post : DV → Prop) : Prop := (numsP 4 l.length (pngsC l)) ∧ (cond ((obE (⟨c0, c1⟩ : Cab) (listC l.length mkPng (pngsC l)) ct) != (0 : Int)) (post (.tu [.a [.v (.int .i64 0), .v (.int .i64 0)], .c (.v (.int .i64 (obE (⟨c0, c1⟩ : Cab) (listC l.length mkPng (pngsC l)) ct)))])) ((numsP 4 ((listC l.length mkPng (pngsC l)).length) (pngsC (listC l.length mkPng (pngsC l))) ∧ numsP 2 ((opT (⟨c0, c1⟩ : Cab) (listC l.length mkPng (pngsC l))).length) (rgsC (opT (⟨c0, c1⟩ : Cab) (listC l.length mkPng (pngsC l)))) ∧ trk (⟨c0, c1⟩ : Cab) (listC ((listC l.length mkPng (pngsC l)).length) mkPng (pngsC (listC l.length mkPng (pngsC l)))) (listC ((opT (⟨c0, c1⟩ : Cab) (listC l.length mkPng (pngsC l))).length) mkRg (rgsC (opT (⟨c0, c1⟩ : Cab) (listC l.length mkPng (pngsC l))))) ∧ 0 ≤ ct ∧ ct ≤ 1000000000000) ∧ (post (.tu [.a [.v (.int .i64 ((atR (⟨c0, c1⟩ : Cab) (listC ((listC l.length mkPng (pngsC l)).length) mkPng (pngsC (listC l.length mkPng (pngsC l)))) ct).lo)), .v (.int .i64 ((atR (⟨c0, c1⟩ : Cab) (listC ((listC l.length mkPng (pngsC l)).length) mkPng (pngsC (listC l.length mkPng (pngsC l)))) ct).hi))], .c (.v (.int .i64 0))]))))
def ann_clock_TimeAt : Ann := ⟨fun _ => none, fun _ => none, fun _ => [], noIt, false, fun _ => none, fun _ => none⟩
theorem ev_clock_TimeAt (J : Inv) (c0 : Int) (c1 : Int) (l : List Png) (ct : Int) (post : DV → Prop) : evFn Tryz.prog tab Sb27 ann_clock_TimeAt J Tryz.f33 [.t (.a [.v (.int .i64 c0), .v (.int .i64 c1), .sl 4 l.length (pngsC l)]), .t (.c (.v (.int .i64 ct)))] post = vc_clock_TimeAt c0 c1 l ct post := by kernel_rfl
theorem fit_clock_TimeAt : okFn ann_clock_TimeAt Tryz.f33 = true := by kernel_rfl
theorem lp_clock_TimeAt (J : Inv) (post : DV → Prop) : AllG J (loopsFn Tryz.prog tab Sb27 ann_clock_TimeAt J Tryz.f33 post) = (True) := by kernel_rfl
theorem spec_clock_TimeAt (c0 : Int) (c1 : Int) (l : List Png) (ct : Int) : vc_clock_TimeAt c0 c1 l ct (fun r => LeD r (.tu [.a [.v (.int .i64 ((taV (⟨c0, c1⟩ : Cab) l ct).lo)), .v (.int .i64 ((taV (⟨c0, c1⟩ : Cab) l ct).hi))], .c (.v (.int .i64 (obE (⟨c0, c1⟩ : Cab) l ct)))])) := by
 unfold vc_clock_TimeAt
 simp only [pngs_listC, rgs_listC, ints_listC]
 refine ⟨numsP_pngs l, cond_i (fun h => ?_) (fun h => ?_)⟩
 ·have h : obE (⟨c0, c1⟩ : Cab) l ct ≠ 0 := by simpa using h
  rw [show taV (⟨c0, c1⟩ : Cab) l ct = ⟨0, 0⟩ from if_neg h]
  exact LeD.refl _
 ·have h : obE (⟨c0, c1⟩ : Cab) l ct = 0 := by simpa using h
  obtain ⟨t, k1, k2⟩ := ob_ok h
  rw [show taV (⟨c0, c1⟩ : Cab) l ct = atR (⟨c0, c1⟩ : Cab) l ct from if_pos h, h]
  exact ⟨⟨numsP_pngs _, numsP_rgs _, t, k1, k2⟩, LeD.refl _⟩
def con_clock_TimeAt : Con := fun args => match args with
 | [.t (.a [.v (.int .i64 c0), .v (.int .i64 c1), .sl 4 n_l c_l]), .t (.c (.v (.int .i64 ct)))] => some (.tu [.a [.v (.int .i64 ((taV (⟨c0, c1⟩ : Cab) (listC n_l mkPng c_l) ct).lo)), .v (.int .i64 ((taV (⟨c0, c1⟩ : Cab) (listC n_l mkPng c_l) ct).hi))], .c (.v (.int .i64 (obE (⟨c0, c1⟩ : Cab) (listC n_l mkPng c_l) ct)))], some (numsP 4 n_l c_l), false)
 | _ => none
theorem ok_clock_TimeAt : Ok Tryz.prog 33 con_clock_TimeAt := by
 refine Ok.fn (ann := ann_clock_TimeAt) mixed tabOK VSb27 ValidIt.no (fn := Tryz.f33) (by kernel_rfl) (by kernel_rfl) fit_clock_TimeAt fun args r pre fresh h hp => ?_
 unfold con_clock_TimeAt at h
 split at h
 ·rename_i c0 c1 n_l c_l ct
  cases h
  have hp0 := hp
  refine ⟨rfl, fun _ _ _ => False, [.t (.a [.v (.int .i64 c0), .v (.int .i64 c1), .sl 4 ((listC n_l mkPng c_l).length) (pngsC (listC n_l mkPng c_l))]), .t (.c (.v (.int .i64 ct)))], ?_, Nat.le_of_ble_eq_true (by kernel_rfl), ?_, ?_⟩
  ·exact (LeA_cons (leT_a (LeCs.cons (LeC1.refl _) (LeCs.cons (LeC1.refl _) (LeCs.cons ((leL_Png hp0)) LeCs.nil)))) (LeA_cons (LeD.refl _) LeA_nil))
  ·rw [ev_clock_TimeAt]; exact spec_clock_TimeAt c0 c1 (listC n_l mkPng c_l) ct
  ·rw [lp_clock_TimeAt]; trivial
 ·cases h
def Sb28 : Sum := addS Sb27 33 con_clock_TimeAt
theorem VSb28 : Valid Tryz.prog Sb28 := Valid.add VSb27 ok_clock_TimeAt
def vc_clock_MiddleAt (c0 : Int) (c1 : Int) (l : List Png) (ct : Int) (post : DV → Prop) : Prop := (numsP 4 l.length (pngsC l)) ∧ (cond ((obE (⟨c0, c1⟩ : Cab) (listC l.length mkPng (pngsC l)) ct) != (0 : Int)) (post (.tu [.c (.v (.int .i64 0)), .c (.v (.int .i64 (obE (⟨c0, c1⟩ : Cab) (listC l.length mkPng (pngsC l)) ct)))])) (lt (IntKind.i64.wrap (((taV (⟨c0, c1⟩ : Cab) (listC l.length mkPng (pngsC l)) ct).lo) + ((taV (⟨c0, c1⟩ : Cab) (listC l.length mkPng (pngsC l)) ct).hi))) fun x1 => (0 < (2 : Int) ∧ -4000000000000000 ≤ x1 ∧ x1 ≤ 4000000000000000) ∧ (post (.tu [.c (.v (.int .i64 (x1 / (2 : Int)))), .c (.v (.int .i64 0))]))))
def ann_clock_MiddleAt : Ann := ⟨fun _ => none, fun _ => none, fun _ => [], noIt, false, fun _ => none, fun _ => none⟩
theorem ev_clock_MiddleAt (J : Inv) (c0 : Int) (c1 : Int) (l : List Png) (ct : Int) (post : DV → Prop) : evFn Tryz.prog tab Sb28 ann_clock_MiddleAt J Tryz.f35 [.t (.a [.v (.int .i64 c0), .v (.int .i64 c1), .sl 4 l.length (pngsC l)]), .t (.c (.v (.int .i64 ct)))] post = vc_clock_MiddleAt c0 c1 l ct post := by kernel_rfl
theorem fit_clock_MiddleAt : okFn ann_clock_MiddleAt Tryz.f35 = true := by kernel_rfl
theorem lp_clock_MiddleAt (J : Inv) (post : DV → Prop) : AllG J (loopsFn Tryz.prog tab Sb28 ann_clock_MiddleAt J Tryz.f35 post) = (True) := by kernel_rfl
theorem spec_clock_MiddleAt (c0 : Int) (c1 : Int) (l : List Png) (ct : Int) : vc_clock_MiddleAt c0 c1 l ct (fun r => LeD r (.tu [.c (.v (.int .i64 (maV (⟨c0, c1⟩ : Cab) l ct))), .c (.v (.int .i64 (obE (⟨c0, c1⟩ : Cab) l ct)))])) := by
 unfold vc_clock_MiddleAt
 simp only [pngs_listC, rgs_listC, ints_listC]
 refine ⟨numsP_pngs l, cond_i (fun h => ?_) (fun h => lt_i fun x hx => ?_)⟩
 ·have h : obE (⟨c0, c1⟩ : Cab) l ct ≠ 0 := by simpa using h
  rw [show maV (⟨c0, c1⟩ : Cab) l ct = 0 from if_neg h]
  exact LeD.refl _
 ·have h : obE (⟨c0, c1⟩ : Cab) l ct = 0 := by simpa using h
  obtain ⟨t, k1, k2⟩ := ob_ok h
  have r := atR_rg t.1 (n := ct) ⟨k1, by omega⟩
  rw [show taV (⟨c0, c1⟩ : Cab) l ct = atR (⟨c0, c1⟩ : Cab) l ct from if_pos h, wi (by omega)] at hx
  subst hx
  rw [show maV (⟨c0, c1⟩ : Cab) l ct = ((atR (⟨c0, c1⟩ : Cab) l ct).lo + (atR (⟨c0, c1⟩ : Cab) l ct).hi) / 2 from if_pos h, h]
  exact ⟨by omega, LeD.refl _⟩
def con_clock_MiddleAt : Con := fun args => match args with
 | [.t (.a [.v (.int .i64 c0), .v (.int .i64 c1), .sl 4 n_l c_l]), .t (.c (.v (.int .i64 ct)))] => some (.tu [.c (.v (.int .i64 (maV (⟨c0, c1⟩ : Cab) (listC n_l mkPng c_l) ct))), .c (.v (.int .i64 (obE (⟨c0, c1⟩ : Cab) (listC n_l mkPng c_l) ct)))], some (numsP 4 n_l c_l), false)
 | _ => none
theorem ok_clock_MiddleAt : Ok Tryz.prog 35 con_clock_MiddleAt := by
 refine Ok.fn (ann := ann_clock_MiddleAt) mixed tabOK VSb28 ValidIt.no (fn := Tryz.f35) (by kernel_rfl) (by kernel_rfl) fit_clock_MiddleAt fun args r pre fresh h hp => ?_
 unfold con_clock_MiddleAt at h
 split at h
 ·rename_i c0 c1 n_l c_l ct
  cases h
  have hp0 := hp
  refine ⟨rfl, fun _ _ _ => False, [.t (.a [.v (.int .i64 c0), .v (.int .i64 c1), .sl 4 ((listC n_l mkPng c_l).length) (pngsC (listC n_l mkPng c_l))]), .t (.c (.v (.int .i64 ct)))], ?_, Nat.le_of_ble_eq_true (by kernel_rfl), ?_, ?_⟩
  ·exact (LeA_cons (leT_a (LeCs.cons (LeC1.refl _) (LeCs.cons (LeC1.refl _) (LeCs.cons ((leL_Png hp0)) LeCs.nil)))) (LeA_cons (LeD.refl _) LeA_nil))
  ·rw [ev_clock_MiddleAt]; exact spec_clock_MiddleAt c0 c1 (listC n_l mkPng c_l) ct
  ·rw [lp_clock_MiddleAt]; trivial
 ·cases h
def Sb29 : Sum := addS Sb28 35 con_clock_MiddleAt
theorem VSb29 : Valid Tryz.prog Sb29 := Valid.add VSb28 ok_clock_MiddleAt
end Go.Proofs.YtlapeoboekchpaaGreatDoor
set_option linter.unusedVariables false
set_option linter.unusedSimpArgs false
namespace Go.Proofs.YtlapeoboekchpaaGreatDoor
open Go.RowKit Ev
def mk_ref01_CheckTrack_0 (c0 : Int) (c1 : Int) (l : List Png) (v0_0 : Int) : DS := ⟨[none, some (.t (.c (.p 1 0))), none, none, none, some (.t (.c (.v (.int .i64 v0_0)))), none, none, none, none, none, none, none, none, none, none, none, none, none, none, none, none, none, none, none, none, none, none, none, none, none, none, none, none, none, none, none, none, none, none, none, none, none, none, none, none, none, none, none, none, none, none, none, none, none, none, none, none, none, none, none, none, none, none, none, none, none, none, none, none, none, none, none], [none, some (.box 77 [.v (.int .i64 c0), .v (.int .i64 c1), .sl 4 l.length (pngsC l)]), none, none, none, none, none, none, none, none, none, none, none, none, none, none, none, none, none, none, none, none, none, none, none, none, none, none, none, none, none, none, none, none, none, none, none, none, none, none, none, none, none, none, none, none, none, none, none, none, none, none, none, none, none, none, none, none, none, none, none, none, none, none, none, none, none, none, none, none, none, none, none]⟩
def vc_ref01_CheckTrack (J : Inv) (c0 : Int) (c1 : Int) (l : List Png) (post : DV → Prop) : Prop := cond ((cabE (⟨c0, c1⟩ : Cab)) != (0 : Int)) (post (.tu [.c (.v (.int .i64 0)), .c (.v (.int .i64 (cabE (⟨c0, c1⟩ : Cab))))])) (cond (((l.length : Nat) : Int) == (0 : Int)) (post (.tu [.c (.v (.int .i64 0)), .c (.v (.int .i64 10))])) (cond (decide (((l.length : Nat) : Int) > (12 : Int))) (post (.tu [.c (.v (.int .i64 0)), .c (.v (.int .i64 8))])) (∃ n, J 0 (n :: []) (mk_ref01_CheckTrack_0 c0 c1 l 0))))
def ann_ref01_CheckTrack : Ann := ⟨fun r => lookA r [(14, ([[], [0], [0, 1], [0, 1, 2], [0, 1, 2, 3], [0, 1, 2], [0, 1, 2, 3, 4, 5], [0, 1, 2, 3, 4, 5, 6], [0, 1, 2, 3, 4, 5, 6, 7], [0, 1, 2], [0, 1, 2, 9], [0, 1, 2], [0, 1, 2, 11], [0, 1, 2, 9, 10, 11, 12], [0, 1, 2, 9, 10, 11, 12, 13], [0, 1, 2, 9, 10, 11, 12, 13, 14], [0, 1, 2, 3, 4, 5, 6, 7, 8, 9, 10, 11, 12, 13, 14, 15], [0, 1, 2, 3, 4, 5, 6, 7, 8, 9, 10, 11, 12, 13, 14, 15, 16], [0, 1, 2, 3, 4, 5, 6, 7, 8, 9, 10, 11, 12, 13, 14, 15, 16, 17], [0, 1, 2, 3, 4, 5, 6, 7, 8, 9, 10, 11, 12, 13, 14, 15, 16, 17, 18], [0, 1, 2, 3, 4, 5, 6, 7, 8, 9, 10, 11, 12, 13, 14, 15, 16, 17], [0, 1, 2, 3, 4, 5, 6, 7, 8, 9, 10, 11, 12, 13, 14, 15, 16, 17, 18, 19, 20], [0, 1, 2, 3, 4, 5, 6, 7, 8, 9, 10, 11, 12, 13, 14, 15, 16, 17, 18, 19, 20, 21], [0, 1, 2, 3, 4, 5, 6, 7, 8, 9, 10, 11, 12, 13, 14, 15, 16, 17, 18, 19, 20, 21, 22], [0, 1, 2, 3, 4, 5, 6, 7, 8, 9, 10, 11, 12, 13, 14, 15, 16, 17], [0, 1, 2, 3, 4, 5, 6, 7, 8, 9, 10, 11, 12, 13, 14, 15, 16, 17, 24], [0, 1, 2, 3, 4, 5, 6, 7, 8, 9, 10, 11, 12, 13, 14, 15, 16, 17], [0, 1, 2, 3, 4, 5, 6, 7, 8, 9, 10, 11, 12, 13, 14, 15, 16, 17, 26], [0, 1, 2, 3, 4, 5, 6, 7, 8, 9, 10, 11, 12, 13, 14, 15, 16, 17, 24, 25, 26, 27], [0, 1, 2, 3, 4, 5, 6, 7, 8, 9, 10, 11, 12, 13, 14, 15, 16, 17, 24, 25, 26, 27, 28], [0, 1, 2, 3, 4, 5, 6, 7, 8, 9, 10, 11, 12, 13, 14, 15, 16, 17, 24, 25, 26, 27, 28, 29], [0, 1, 2, 3, 4, 5, 6, 7, 8, 9, 10, 11, 12, 13, 14, 15, 16, 17, 18, 19, 20, 21, 22, 23, 24, 25, 26, 27, 28, 29, 30], [0, 1, 2, 3, 4, 5, 6, 7, 8, 9, 10, 11, 12, 13, 14, 15, 16, 17, 18, 19, 20, 21, 22, 23, 24, 25, 26, 27, 28, 29, 30, 31], [0, 1, 2, 3, 4, 5, 6, 7, 8, 9, 10, 11, 12, 13, 14, 15, 16, 17, 18, 19, 20, 21, 22, 23, 24, 25, 26, 27, 28, 29, 30, 31, 32]], [[], [], [], [], [], [], [], [], [], [], [], [], [], [], [], [], [], [], [], [], [], [], [], [], [], [], [], [], [], [], [], [], [], []]))], fun b => lookA b [(0, (none, some ⟨[1, 5], [1], []⟩))], fun _ => [], noIt, false, fun r => lookA r [(14, (3, [71]))], fun _ => none⟩
theorem ev_ref01_CheckTrack (J : Inv) (c0 : Int) (c1 : Int) (l : List Png) (post : DV → Prop) : evFn Tryz.prog tab Sb29 ann_ref01_CheckTrack J Tryz.f71 [.t (.a [.v (.int .i64 c0), .v (.int .i64 c1), .sl 4 l.length (pngsC l)])] post = vc_ref01_CheckTrack J c0 c1 l post := by kernel_rfl
theorem fit_ref01_CheckTrack : okFn ann_ref01_CheckTrack Tryz.f71 = true := by kernel_rfl
def rd_ref01_CheckTrack_0 (J : Inv) (c0 : Int) (c1 : Int) (l : List Png) (v0_0 : Int) (nn0 : Nat) (post : DV → Prop) : Prop := cond (decide (v0_0 < ((l.length : Nat) : Int))) ((0 ≤ v0_0 ∧ v0_0 < ((l.length : Nat) : Int)) ∧ (cond ((pngE (pngAt l v0_0.toNat)) != (0 : Int)) (post (.tu [.c (.v (.int .i64 v0_0)), .c (.v (.int .i64 (pngE (pngAt l v0_0.toNat))))])) ((cond (decide (v0_0 > (0 : Int))) ((0 ≤ v0_0 ∧ v0_0 < ((l.length : Nat) : Int)) ∧ (lt (IntKind.i64.wrap (v0_0 - (1 : Int))) fun x3 => (0 ≤ x3 ∧ x3 < ((l.length : Nat) : Int)) ∧ (cond (decide (((pngAt l v0_0.toNat).sent) < ((pngAt l x3.toNat).back))) ((true = true) ∧ (True)) ((0 ≤ v0_0 ∧ v0_0 < ((l.length : Nat) : Int)) ∧ (lt (IntKind.i64.wrap (v0_0 - (1 : Int))) fun x4 => (0 ≤ x4 ∧ x4 < ((l.length : Nat) : Int)) ∧ (True)))))) ((false = false) ∧ (True))) ∧ (lt ((bif decide (v0_0 > (0 : Int)) then (bif decide (((pngAt l v0_0.toNat).sent) < ((pngAt l ((IntKind.i64.wrap (v0_0 - (1 : Int))).toNat)).back)) then true else decide (((pngAt l v0_0.toNat).arr) < ((pngAt l ((IntKind.i64.wrap (v0_0 - (1 : Int))).toNat)).ans))) else false)) fun x5 => cond x5 (post (.tu [.c (.v (.int .i64 v0_0)), .c (.v (.int .i64 9))])) (lt (IntKind.i64.wrap (v0_0 + (1 : Int))) fun x6 => J 0 (nn0 :: []) (mk_ref01_CheckTrack_0 c0 c1 l x6)))))) (post (.tu [.c (.v (.int .i64 0)), .c (.v (.int .i64 0))]))
theorem er_ref01_CheckTrack_0 (J : Inv) (c0 : Int) (c1 : Int) (l : List Png) (v0_0 : Int) (nn0 : Nat) (post : DV → Prop) : round Tryz.prog tab Sb29 ann_ref01_CheckTrack J Tryz.f71 post 0 (nn0 :: []) (mk_ref01_CheckTrack_0 c0 c1 l v0_0) = rd_ref01_CheckTrack_0 J c0 c1 l v0_0 nn0 post := by kernel_rfl
theorem lp_ref01_CheckTrack (J : Inv) (post : DV → Prop) : AllG J (loopsFn Tryz.prog tab Sb29 ann_ref01_CheckTrack J Tryz.f71 post) = (((∀ F s, ¬ J 0 (0 :: F) s) ∧ ∀ n F s, J 0 ((n + 1) :: F) s → round Tryz.prog tab Sb29 ann_ref01_CheckTrack J Tryz.f71 post 0 (n :: F) s) ∧ True) := by kernel_rfl
def J_ref01_CheckTrack (c0 : Int) (c1 : Int) (l : List Png) : Inv := fun b F s => match b, F with
 | 0, [nn0] => ∃ (v0_0 : Int), s = mk_ref01_CheckTrack_0 c0 c1 l v0_0 ∧ (hdE (⟨c0, c1⟩ : Cab) l = 0 ∧ 0 ≤ v0_0 ∧ v0_0 ≤ l.length ∧ (nn0 : Int) + v0_0 = l.length + 1 ∧ ∀ j : Nat, (j : Int) < v0_0 → stpE l j = 0)
 | _, _ => False
theorem rnd_ref01_CheckTrack_0 (c0 : Int) (c1 : Int) (l : List Png) (v0_0 : Int) (nn0 : Nat) (hi : hdE (⟨c0, c1⟩ : Cab) l = 0 ∧ 0 ≤ v0_0 ∧ v0_0 ≤ l.length ∧ ((nn0 + 1) : Int) + v0_0 = l.length + 1 ∧ ∀ j : Nat, (j : Int) < v0_0 → stpE l j = 0) : rd_ref01_CheckTrack_0 (J_ref01_CheckTrack c0 c1 l) c0 c1 l v0_0 nn0 (fun r => LeD r (.tu [.c (.v (.int .i64 (trI (⟨c0, c1⟩ : Cab) l))), .c (.v (.int .i64 (trE (⟨c0, c1⟩ : Cab) l)))])) := by
 obtain ⟨q, i1, i2, i3, i4⟩ := hi
 obtain ⟨k, rfl⟩ : ∃ k : Nat, v0_0 = k := ⟨v0_0.toNat, by omega⟩
 have hk : (k : Int).toNat = k := rfl
 have z := hdE_0.1 q
 have hw : (IntKind.i64.wrap ((k : Int) - 1)).toNat = k - 1 := by rw [wi (by omega)]; omega
 unfold rd_ref01_CheckTrack_0
 rw [hk, hw]
 refine cond_i (fun h => ?_) (fun h => ?_)
 ·have hlt : k < l.length := by have := of_decide_eq_true h; omega
  refine ⟨by omega, cond_i (fun g => ?_) (fun g => ⟨?_, lt_i fun x5 h5 => ?_⟩)⟩
  ·have g : pngE (pngAt l k) ≠ 0 := by simpa using g
   have e : stpE l k = pngE (pngAt l k) := by simp [stpE, firstNZ, g]
   have e2 : stpE l k ≠ 0 := by rw [e]; exact g
   exact le2 ((if_pos q).trans (scanI_at (fun j hj => i4 j (by omega)) hlt e2)).symm (e.symm.trans ((if_pos q).trans (scan_at (fun j hj => i4 j (by omega)) hlt e2)).symm)
  ·refine cond_i (fun g2 => ⟨by omega, lt_i fun x3 h3 => ?_⟩) (fun _ => ⟨rfl, trivial⟩)
   have g2 := of_decide_eq_true g2
   rw [wi (by omega)] at h3
   subst h3
   refine ⟨by omega, cond_i (fun _ => ⟨rfl, trivial⟩) (fun _ => ⟨by omega, lt_i fun x4 h4 => ⟨?_, trivial⟩⟩)⟩
   rw [wi (by omega)] at h4
   omega
  ·have g : pngE (pngAt l k) = 0 := by simpa using g
   have e : stpE l k = unl (!x5) 9 := by
    have e0 : stpE l k = unl (decide ((k : Int) = 0) || (decide ((pngAt l k).sent ≥ (pngAt l (k - 1)).back) && decide ((pngAt l k).arr ≥ (pngAt l (k - 1)).ans))) 9 := by
     unfold stpE
     rw [g]
     simp only [firstNZ]
     split <;> rename_i q2 <;> first | exact q2.symm | rfl | simp_all
    rw [e0, ← h5]
    congr 1
    rcases Nat.eq_zero_or_pos k with c | c
    ·subst c; rfl
    ·rw [decide_eq_true (show (k : Int) > 0 by omega), decide_eq_false (show ¬ (k : Int) = 0 by omega)]
     by_cases a : (pngAt l k).sent < (pngAt l (k - 1)).back
     ·rw [decide_eq_true a, decide_eq_false (by omega)]; rfl
     ·rw [decide_eq_false a, decide_eq_true (show (pngAt l k).sent ≥ (pngAt l (k - 1)).back by omega)]
      by_cases b : (pngAt l k).arr < (pngAt l (k - 1)).ans
      ·rw [decide_eq_true b, decide_eq_false (by omega)]; rfl
      ·rw [decide_eq_false b, decide_eq_true (show (pngAt l k).arr ≥ (pngAt l (k - 1)).ans by omega)]; rfl
   refine cond_i (fun c => ?_) (fun c => lt_i fun x hx => ?_)
   ·rw [c] at e
    have e2 : stpE l k ≠ 0 := by rw [e]; decide
    exact le2 ((if_pos q).trans (scanI_at (fun j hj => i4 j (by omega)) hlt e2)).symm (e.symm.trans ((if_pos q).trans (scan_at (fun j hj => i4 j (by omega)) hlt e2)).symm)
   ·rw [c] at e
    rw [wi (by omega)] at hx
    subst hx
    refine ⟨_, rfl, q, by omega, by omega, by omega, fun j hj => ?_⟩
    by_cases c : j = k
    ·rw [c]; exact e
    ·exact i4 j (by omega)
 ·have h := of_decide_eq_false h
  exact le2 ((if_pos q).trans (scanI_end fun j hj => i4 j (by omega))).symm ((if_pos q).trans (scan_end fun j hj => i4 j (by omega))).symm
theorem zero_ref01_CheckTrack_0 (c0 : Int) (c1 : Int) (l : List Png) (v0_0 : Int)  (hi : hdE (⟨c0, c1⟩ : Cab) l = 0 ∧ 0 ≤ v0_0 ∧ v0_0 ≤ l.length ∧ (0 : Int) + v0_0 = l.length + 1 ∧ ∀ j : Nat, (j : Int) < v0_0 → stpE l j = 0) : False := by
 omega
theorem spec_ref01_CheckTrack (c0 : Int) (c1 : Int) (l : List Png) : vc_ref01_CheckTrack (J_ref01_CheckTrack c0 c1 l) c0 c1 l (fun r => LeD r (.tu [.c (.v (.int .i64 (trI (⟨c0, c1⟩ : Cab) l))), .c (.v (.int .i64 (trE (⟨c0, c1⟩ : Cab) l)))])) := by
  unfold vc_ref01_CheckTrack
  refine cond_i (fun h => ?_) (fun h => cond_i (fun g => ?_) (fun g => cond_i (fun f => ?_) (fun f => ?_)))
  · have h : cabE (⟨c0, c1⟩ : Cab) ≠ 0 := by simpa using h
    have e : hdE (⟨c0, c1⟩ : Cab) l = cabE (⟨c0, c1⟩ : Cab) := by simp [hdE, firstNZ, h]
    have h2 : hdE (⟨c0, c1⟩ : Cab) l ≠ 0 := by rw [e]; exact h
    exact le2 (if_neg h2).symm (e.symm.trans (if_neg h2).symm)
  all_goals have h : cabE (⟨c0, c1⟩ : Cab) = 0 := by simpa using h
  · have g : l.length = 0 := by have : (l.length : Int) = 0 := by simpa using g
                                omega
    have e : hdE (⟨c0, c1⟩ : Cab) l = 10 := by simp [hdE, firstNZ, h, g, unl]
    have h2 : hdE (⟨c0, c1⟩ : Cab) l ≠ 0 := by rw [e]; decide
    exact le2 (if_neg h2).symm (e.symm.trans (if_neg h2).symm)
  all_goals
    have g : l.length ≠ 0 := by have : ¬ (l.length : Int) = 0 := by simpa using g
                                omega
  · have f := of_decide_eq_true f
    have e : hdE (⟨c0, c1⟩ : Cab) l = 8 := by
      unfold hdE
      rw [h, decide_eq_true (by omega), decide_eq_false (by omega)]
      rfl
    have h2 : hdE (⟨c0, c1⟩ : Cab) l ≠ 0 := by rw [e]; decide
    exact le2 (if_neg h2).symm (e.symm.trans (if_neg h2).symm)
  · have f := of_decide_eq_false f
    exact ⟨l.length + 1, 0, rfl, hdE_0.2 ⟨cabE_0.1 h, by omega, by omega⟩, by omega, by omega, by omega, fun j hj => by omega⟩
theorem all_ref01_CheckTrack (c0 : Int) (c1 : Int) (l : List Png) : AllG (J_ref01_CheckTrack c0 c1 l) (loopsFn Tryz.prog tab Sb29 ann_ref01_CheckTrack (J_ref01_CheckTrack c0 c1 l) Tryz.f71 (fun r => LeD r (.tu [.c (.v (.int .i64 (trI (⟨c0, c1⟩ : Cab) l))), .c (.v (.int .i64 (trE (⟨c0, c1⟩ : Cab) l)))]))) := by
 rw [lp_ref01_CheckTrack]
 refine ⟨⟨?_, ?_⟩, trivial⟩
 ·intro F s h
  obtain _ | ⟨g, F⟩ := F
  case cons => exact h.elim
  obtain ⟨w0, rfl, hi⟩ := h
  exact zero_ref01_CheckTrack_0 c0 c1 l w0 hi
 ·intro n F s h
  obtain _ | ⟨g, F⟩ := F
  case cons => exact h.elim
  obtain ⟨w0, rfl, hi⟩ := h
  rw [er_ref01_CheckTrack_0]
  exact rnd_ref01_CheckTrack_0 c0 c1 l _ _ hi
def con_ref01_CheckTrack : Con := fun args => match args with
 | [.t (.a [.v (.int .i64 c0), .v (.int .i64 c1), .sl 4 n_l c_l])] => some (.tu [.c (.v (.int .i64 (trI (⟨c0, c1⟩ : Cab) (listC n_l mkPng c_l)))), .c (.v (.int .i64 (trE (⟨c0, c1⟩ : Cab) (listC n_l mkPng c_l))))], some (numsP 4 n_l c_l), false)
 | _ => none
theorem ok_ref01_CheckTrack : Ok Tryz.prog 71 con_ref01_CheckTrack := by
 refine Ok.fn (ann := ann_ref01_CheckTrack) mixed tabOK VSb29 ValidIt.no (fn := Tryz.f71) (by kernel_rfl) (by kernel_rfl) fit_ref01_CheckTrack fun args r pre fresh h hp => ?_
 unfold con_ref01_CheckTrack at h
 split at h
 ·rename_i c0 c1 n_l c_l
  cases h
  have hp0 := hp
  refine ⟨rfl, J_ref01_CheckTrack c0 c1 (listC n_l mkPng c_l), [.t (.a [.v (.int .i64 c0), .v (.int .i64 c1), .sl 4 ((listC n_l mkPng c_l).length) (pngsC (listC n_l mkPng c_l))])], ?_, Nat.le_of_ble_eq_true (by kernel_rfl), ?_, ?_⟩
  ·exact (LeA_cons (leT_a (LeCs.cons (LeC1.refl _) (LeCs.cons (LeC1.refl _) (LeCs.cons ((leL_Png hp0)) LeCs.nil)))) LeA_nil)
  ·rw [ev_ref01_CheckTrack]; exact spec_ref01_CheckTrack c0 c1 (listC n_l mkPng c_l)
  ·exact all_ref01_CheckTrack c0 c1 (listC n_l mkPng c_l)
 ·cases h
def Sc30 : Sum := addS Sb29 71 con_ref01_CheckTrack
theorem VSc30 : Valid Tryz.prog Sc30 := Valid.add VSb29 ok_ref01_CheckTrack
def vc_ref01_TrackErr (c0 : Int) (c1 : Int) (l : List Png) (post : DV → Prop) : Prop := (numsP 4 l.length (pngsC l)) ∧ (post (.t (.c (.v (.int .i64 (trE (⟨c0, c1⟩ : Cab) (listC l.length mkPng (pngsC l))))))))
def ann_ref01_TrackErr : Ann := ⟨fun _ => none, fun _ => none, fun _ => [], noIt, false, fun _ => none, fun _ => none⟩
theorem ev_ref01_TrackErr (J : Inv) (c0 : Int) (c1 : Int) (l : List Png) (post : DV → Prop) : evFn Tryz.prog tab Sc30 ann_ref01_TrackErr J Tryz.f32 [.t (.a [.v (.int .i64 c0), .v (.int .i64 c1), .sl 4 l.length (pngsC l)])] post = vc_ref01_TrackErr c0 c1 l post := by kernel_rfl
theorem fit_ref01_TrackErr : okFn ann_ref01_TrackErr Tryz.f32 = true := by kernel_rfl
theorem lp_ref01_TrackErr (J : Inv) (post : DV → Prop) : AllG J (loopsFn Tryz.prog tab Sc30 ann_ref01_TrackErr J Tryz.f32 post) = (True) := by kernel_rfl
theorem spec_ref01_TrackErr (c0 : Int) (c1 : Int) (l : List Png) : vc_ref01_TrackErr c0 c1 l (fun r => LeD r (.t (.c (.v (.int .i64 (trE (⟨c0, c1⟩ : Cab) l)))))) := by
 unfold vc_ref01_TrackErr
 simp only [pngs_listC, rgs_listC, ints_listC]
 exact ⟨numsP_pngs l, LeD.refl _⟩
def con_ref01_TrackErr : Con := fun args => match args with
 | [.t (.a [.v (.int .i64 c0), .v (.int .i64 c1), .sl 4 n_l c_l])] => some (.t (.c (.v (.int .i64 (trE (⟨c0, c1⟩ : Cab) (listC n_l mkPng c_l))))), some (numsP 4 n_l c_l), false)
 | _ => none
theorem ok_ref01_TrackErr : Ok Tryz.prog 32 con_ref01_TrackErr := by
 refine Ok.fn (ann := ann_ref01_TrackErr) mixed tabOK VSc30 ValidIt.no (fn := Tryz.f32) (by kernel_rfl) (by kernel_rfl) fit_ref01_TrackErr fun args r pre fresh h hp => ?_
 unfold con_ref01_TrackErr at h
 split at h
 ·rename_i c0 c1 n_l c_l
  cases h
  have hp0 := hp
  refine ⟨rfl, fun _ _ _ => False, [.t (.a [.v (.int .i64 c0), .v (.int .i64 c1), .sl 4 ((listC n_l mkPng c_l).length) (pngsC (listC n_l mkPng c_l))])], ?_, Nat.le_of_ble_eq_true (by kernel_rfl), ?_, ?_⟩
  ·exact (LeA_cons (leT_a (LeCs.cons (LeC1.refl _) (LeCs.cons (LeC1.refl _) (LeCs.cons ((leL_Png hp0)) LeCs.nil)))) LeA_nil)
  ·rw [ev_ref01_TrackErr]; exact spec_ref01_TrackErr c0 c1 (listC n_l mkPng c_l)
  ·rw [lp_ref01_TrackErr]; trivial
 ·cases h
def Sc31 : Sum := addS Sc30 32 con_ref01_TrackErr
theorem VSc31 : Valid Tryz.prog Sc31 := Valid.add VSc30 ok_ref01_TrackErr
end Go.Proofs.YtlapeoboekchpaaGreatDoor