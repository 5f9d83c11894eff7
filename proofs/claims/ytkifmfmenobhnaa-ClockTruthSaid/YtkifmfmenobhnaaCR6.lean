/- Texts of this claim, together. -/
import Derived.Test.YtkifmfmenobhnaaCR4
import Derived.Test.YtkifmfmenobhnaaCR5

set_option linter.unusedVariables false
set_option linter.unusedSimpArgs false
namespace Go.Proofs.Ytkifmfmenobhnaa
open Go.RowKit Ev
def slE (d n : Int) : Int := if (inB d 0 1000 && inB n (-1000000000000) 1000000000000) = true then 0 else 2
def slV (d n : Int) : Int := if (inB d 0 1000 && inB n (-1000000000000) 1000000000000) = true then slackI d n else 0
def dlK (c : Cab) (p : Png) : Rg := if canB c p = true then dlR c p else ⟨0, 0⟩
def tmK (c : Cab) (p : Png) : Rg := if canB c p = true then tmR c p else ⟨0, 0⟩
theorem dlE_0 {c : Cab} {p : Png} (h : dlE c p = 0) : delOk c p ∧ canB c p = true := by
 unfold dlE at h
 split at h
 ·rename_i q
  rw [unl_0 (by decide)] at h
  exact ⟨cpE_0.1 q, h⟩
 ·rename_i q; exact (q h).elim
def rgB (r : Rg) : Prop := (-18000000000000 ≤ r.lo ∧ r.lo ≤ 18000000000000) ∧ -18000000000000 ≤ r.hi ∧ r.hi ≤ 18000000000000
theorem tdiv_rg {d : Int} (n : Int) (h : 0 < d) : (Int.tdiv n d).natAbs ≤ n.natAbs := Int.natAbs_tdiv_le_natAbs n d
theorem ediv_rg {d : Int} (n : Int) (h : 0 < d) : (n / d).natAbs ≤ n.natAbs := by
 rcases Int.le_total 0 n with q | q
 ·have h1 := Int.ediv_nonneg q (Int.le_of_lt h)
  have h2 := Int.ediv_le_self d q
  omega
 ·have h1 : n ≤ n / d := by
   rw [Int.le_ediv_iff_mul_le h]
   have := Int.mul_nonneg (show 0 ≤ -n by omega) (show 0 ≤ d - 1 by omega)
   rw [Int.neg_mul, Int.mul_sub] at this
   omega
  have h2 : n / d ≤ 0 := by
   have := Int.ediv_le_ediv h q
   rwa [Int.zero_ediv] at this
  omega
theorem fl_eq {d : Int} (n : Int) (h : 0 < d) : (if Int.tmod n d < 0 then Int.tdiv n d - 1 else Int.tdiv n d) = n / d := by
 rcases Int.le_total 0 n with q | q
 ·rw [if_neg (by have := Int.tmod_nonneg d q; omega), Int.tdiv_eq_ediv_of_nonneg q]
 ·obtain ⟨m, rfl⟩ : ∃ m : Int, n = -m := ⟨-n, by omega⟩
  have hm : 0 ≤ m := by omega
  rw [Int.neg_tmod, Int.neg_tdiv, Int.tdiv_eq_ediv_of_nonneg hm, Int.tmod_eq_emod_of_nonneg hm, Int.neg_ediv]
  have := Int.emod_nonneg m (show d ≠ 0 by omega)
  by_cases e : d ∣ m
  ·rw [if_pos e, if_neg (by have := Int.emod_eq_zero_of_dvd e; omega)]; omega
  ·rw [if_neg e, Int.sign_eq_one_of_pos h, if_pos (by
    have : m % d ≠ 0 := fun g => e (Int.dvd_of_emod_eq_zero g)
    omega)]
def vc_base_Within (a : Int) (b : Int) (c : Int) (post : DV → Prop) : Prop := cond (decide (b ≤ a)) (post (.t (.c (.v (.bool (decide (a ≤ c))))))) ((false = false) ∧ (post (.t (.c (.v (.bool false))))))
def ann_base_Within : Ann := ⟨fun _ => none, fun _ => none, fun _ => [], noIt, false, fun _ => none, fun _ => none⟩
theorem ev_base_Within (J : Inv) (a : Int) (b : Int) (c : Int) (post : DV → Prop) : evFn Try.prog tab noS ann_base_Within J Try.f26 [.t (.c (.v (.int .i64 a))), .t (.c (.v (.int .i64 b))), .t (.c (.v (.int .i64 c)))] post = vc_base_Within a b c post := by kernel_rfl
theorem fit_base_Within : okFn ann_base_Within Try.f26 = true := by kernel_rfl
theorem lp_base_Within (J : Inv) (post : DV → Prop) : AllG J (loopsFn Try.prog tab noS ann_base_Within J Try.f26 post) = (True) := by kernel_rfl
theorem spec_base_Within (a : Int) (b : Int) (c : Int) : vc_base_Within a b c (fun r => LeD r (.t (.c (.v (.bool (inB a b c)))))) := by
 unfold vc_base_Within
 refine cond_i (fun h => leB ?_) (fun h => ⟨rfl, leB ?_⟩)
 ·unfold inB; rw [h]; rfl
 ·unfold inB; rw [h]; rfl
def con_base_Within : Con := fun args => match args with
 | [.t (.c (.v (.int .i64 a))), .t (.c (.v (.int .i64 b))), .t (.c (.v (.int .i64 c)))] => some (.t (.c (.v (.bool (inB a b c)))), none, false)
 | _ => none
theorem ok_base_Within : Ok Try.prog 26 con_base_Within := by
 refine Ok.fn (ann := ann_base_Within) mixed tabOK Valid.no ValidIt.no (fn := Try.f26) (by kernel_rfl) (by kernel_rfl) fit_base_Within fun args r pre fresh h hp => ?_
 unfold con_base_Within at h
 split at h
 ·rename_i a b c
  cases h
  refine ⟨rfl, fun _ _ _ => False, _, LeA.refl _, Nat.le_of_ble_eq_true (by kernel_rfl), ?_, ?_⟩
  ·rw [ev_base_Within]; exact spec_base_Within a b c
  ·rw [lp_base_Within]; trivial
 ·cases h
def S1 : Sum := addS noS 26 con_base_Within
theorem VS1 : Valid Try.prog S1 := Valid.add Valid.no ok_base_Within
def vc_clock_within (a : Int) (b : Int) (c : Int) (post : DV → Prop) : Prop := cond (decide (b ≤ a)) (post (.t (.c (.v (.bool (decide (a ≤ c))))))) ((false = false) ∧ (post (.t (.c (.v (.bool false))))))
def ann_clock_within : Ann := ⟨fun _ => none, fun _ => none, fun _ => [], noIt, false, fun _ => none, fun _ => none⟩
theorem ev_clock_within (J : Inv) (a : Int) (b : Int) (c : Int) (post : DV → Prop) : evFn Try.prog tab S1 ann_clock_within J Try.f79 [.t (.c (.v (.int .i64 a))), .t (.c (.v (.int .i64 b))), .t (.c (.v (.int .i64 c)))] post = vc_clock_within a b c post := by kernel_rfl
theorem fit_clock_within : okFn ann_clock_within Try.f79 = true := by kernel_rfl
theorem lp_clock_within (J : Inv) (post : DV → Prop) : AllG J (loopsFn Try.prog tab S1 ann_clock_within J Try.f79 post) = (True) := by kernel_rfl
theorem spec_clock_within (a : Int) (b : Int) (c : Int) : vc_clock_within a b c (fun r => LeD r (.t (.c (.v (.bool (inB a b c)))))) := by
 unfold vc_clock_within
 refine cond_i (fun h => leB ?_) (fun h => ⟨rfl, leB ?_⟩)
 ·unfold inB; rw [h]; rfl
 ·unfold inB; rw [h]; rfl
def con_clock_within : Con := fun args => match args with
 | [.t (.c (.v (.int .i64 a))), .t (.c (.v (.int .i64 b))), .t (.c (.v (.int .i64 c)))] => some (.t (.c (.v (.bool (inB a b c)))), none, false)
 | _ => none
theorem ok_clock_within : Ok Try.prog 79 con_clock_within := by
 refine Ok.fn (ann := ann_clock_within) mixed tabOK VS1 ValidIt.no (fn := Try.f79) (by kernel_rfl) (by kernel_rfl) fit_clock_within fun args r pre fresh h hp => ?_
 unfold con_clock_within at h
 split at h
 ·rename_i a b c
  cases h
  refine ⟨rfl, fun _ _ _ => False, _, LeA.refl _, Nat.le_of_ble_eq_true (by kernel_rfl), ?_, ?_⟩
  ·rw [ev_clock_within]; exact spec_clock_within a b c
  ·rw [lp_clock_within]; trivial
 ·cases h
def S2 : Sum := addS S1 79 con_clock_within
theorem VS2 : Valid Try.prog S2 := Valid.add VS1 ok_clock_within
def vc_clock_unless (b : Bool) (n : Int) (post : DV → Prop) : Prop := cond b (post (.t (.c (.v (.int .i64 0))))) (post (.t (.c (.v (.int .i64 n)))))
def ann_clock_unless : Ann := ⟨fun _ => none, fun _ => none, fun _ => [], noIt, false, fun _ => none, fun _ => none⟩
theorem ev_clock_unless (J : Inv) (b : Bool) (n : Int) (post : DV → Prop) : evFn Try.prog tab S2 ann_clock_unless J Try.f83 [.t (.c (.v (.bool b))), .t (.c (.v (.int .i64 n)))] post = vc_clock_unless b n post := by kernel_rfl
theorem fit_clock_unless : okFn ann_clock_unless Try.f83 = true := by kernel_rfl
theorem lp_clock_unless (J : Inv) (post : DV → Prop) : AllG J (loopsFn Try.prog tab S2 ann_clock_unless J Try.f83 post) = (True) := by kernel_rfl
theorem spec_clock_unless (b : Bool) (n : Int) : vc_clock_unless b n (fun r => LeD r (.t (.c (.v (.int .i64 (unl b n)))))) := by
 unfold vc_clock_unless
 exact cond_i (fun h => leI (by rw [h]; rfl)) (fun h => leI (by rw [h]; rfl))
def con_clock_unless : Con := fun args => match args with
 | [.t (.c (.v (.bool b))), .t (.c (.v (.int .i64 n)))] => some (.t (.c (.v (.int .i64 (unl b n)))), none, false)
 | _ => none
theorem ok_clock_unless : Ok Try.prog 83 con_clock_unless := by
 refine Ok.fn (ann := ann_clock_unless) mixed tabOK VS2 ValidIt.no (fn := Try.f83) (by kernel_rfl) (by kernel_rfl) fit_clock_unless fun args r pre fresh h hp => ?_
 unfold con_clock_unless at h
 split at h
 ·rename_i b n
  cases h
  refine ⟨rfl, fun _ _ _ => False, _, LeA.refl _, Nat.le_of_ble_eq_true (by kernel_rfl), ?_, ?_⟩
  ·rw [ev_clock_unless]; exact spec_clock_unless b n
  ·rw [lp_clock_unless]; trivial
 ·cases h
def S3 : Sum := addS S2 83 con_clock_unless
theorem VS3 : Valid Try.prog S3 := Valid.add VS2 ok_clock_unless
def mk_clock_first_0 (l : List Int) (v0_0 : Int) : DS := ⟨[none, none, none, none, none, some (.t (.c (.sl 1 l.length (intsC l)))), some (.t (.c (.v (.int .i64 ((l.length : Nat) : Int))))), some (.t (.c (.v (.int .i64 v0_0)))), none, none, none, none, none, none, none], [none, none, none, none, none, none, none, none, none, none, none, none, none, none, none]⟩
def vc_clock_first (J : Inv) (l : List Int) (post : DV → Prop) : Prop := ∃ n, J 0 (n :: []) (mk_clock_first_0 l 0)
def ann_clock_first : Ann := ⟨fun _ => none, fun b => lookA b [(0, (none, some ⟨[5, 6, 7], [], []⟩))], fun _ => [], noIt, false, fun _ => none, fun _ => none⟩
theorem ev_clock_first (J : Inv) (l : List Int) (post : DV → Prop) : evFn Try.prog tab S3 ann_clock_first J Try.f82 [.t (.c (.sl 1 l.length (intsC l)))] post = vc_clock_first J l post := by kernel_rfl
theorem fit_clock_first : okFn ann_clock_first Try.f82 = true := by kernel_rfl
def rd_clock_first_0 (J : Inv) (l : List Int) (v0_0 : Int) (nn0 : Nat) (post : DV → Prop) : Prop := cond (decide (v0_0 < ((l.length : Nat) : Int))) ((0 ≤ v0_0 ∧ v0_0 < ((l.length : Nat) : Int)) ∧ (cond ((l.getD v0_0.toNat 0) != (0 : Int)) (post (.t (.c (.v (.int .i64 (l.getD v0_0.toNat 0)))))) (lt (IntKind.i64.wrap (v0_0 + (1 : Int))) fun x1 => J 0 (nn0 :: []) (mk_clock_first_0 l x1)))) (post (.t (.c (.v (.int .i64 0)))))
theorem er_clock_first_0 (J : Inv) (l : List Int) (v0_0 : Int) (nn0 : Nat) (post : DV → Prop) : round Try.prog tab S3 ann_clock_first J Try.f82 post 0 (nn0 :: []) (mk_clock_first_0 l v0_0) = rd_clock_first_0 J l v0_0 nn0 post := by kernel_rfl
theorem lp_clock_first (J : Inv) (post : DV → Prop) : AllG J (loopsFn Try.prog tab S3 ann_clock_first J Try.f82 post) = (((∀ F s, ¬ J 0 (0 :: F) s) ∧ ∀ n F s, J 0 ((n + 1) :: F) s → round Try.prog tab S3 ann_clock_first J Try.f82 post 0 (n :: F) s) ∧ True) := by kernel_rfl
def J_clock_first (l : List Int) : Inv := fun b F s => match b, F with
 | 0, [nn0] => ∃ (v0_0 : Int), s = mk_clock_first_0 l v0_0 ∧ (0 ≤ v0_0 ∧ v0_0 ≤ l.length ∧ (nn0 : Int) + v0_0 = l.length + 1 ∧ ∀ j : Nat, (j : Int) < v0_0 → l.getD j 0 = 0)
 | _, _ => False
theorem rnd_clock_first_0 (l : List Int) (v0_0 : Int) (nn0 : Nat) (hp : (l).length ≤ 100) (hi : 0 ≤ v0_0 ∧ v0_0 ≤ l.length ∧ ((nn0 + 1) : Int) + v0_0 = l.length + 1 ∧ ∀ j : Nat, (j : Int) < v0_0 → l.getD j 0 = 0) : rd_clock_first_0 (J_clock_first l) l v0_0 nn0 (fun r => LeD r (.t (.c (.v (.int .i64 (firstNZ l)))))) := by
 obtain ⟨i1, i2, i3, i4⟩ := hi
 obtain ⟨k, rfl⟩ : ∃ k : Nat, v0_0 = k := ⟨v0_0.toNat, by omega⟩
 have hk : (k : Int).toNat = k := rfl
 unfold rd_clock_first_0
 rw [hk]
 have el : firstNZ l = scan (fun i => l.getD i 0) l.length := by
  unfold scan
  congr 1
  apply List.ext_getElem?
  intro i
  by_cases hi : i < l.length
  ·simp [hi, List.getD]
  ·rw [List.getElem?_eq_none (by omega), List.getElem?_eq_none (by simpa using hi)]
 refine cond_i (fun h => ⟨by have := of_decide_eq_true h; omega, cond_i (fun e => leI ?_) (fun e => lt_i fun x hx => ?_)⟩) (fun h => leI ?_)
 ·have h := of_decide_eq_true h
  rw [el, scan_at (k := k) (fun j hj => i4 j (by omega)) (by omega) (by simpa using e)]
 ·have h := of_decide_eq_true h
  rw [IntWalk.i64_in _ (by have := l.length; omega)] at hx
  subst hx
  refine ⟨_, rfl, by omega, by omega, by omega, fun j hj => ?_⟩
  by_cases q : j = k
  ·rw [q]; simpa using e
  ·exact i4 j (by omega)
 ·have h := of_decide_eq_false h
  rw [el, scan_end fun j hj => i4 j (by omega)]
theorem zero_clock_first_0 (l : List Int) (v0_0 : Int)  (hi : 0 ≤ v0_0 ∧ v0_0 ≤ l.length ∧ (0 : Int) + v0_0 = l.length + 1 ∧ ∀ j : Nat, (j : Int) < v0_0 → l.getD j 0 = 0) : False := by
 omega
theorem spec_clock_first (l : List Int) (hp : (l).length ≤ 100) : vc_clock_first (J_clock_first l) l (fun r => LeD r (.t (.c (.v (.int .i64 (firstNZ l)))))) := by
 unfold vc_clock_first
 exact ⟨l.length + 1, 0, rfl, by omega, by omega, by omega, fun j hj => by omega⟩
theorem all_clock_first (l : List Int) (hp : (l).length ≤ 100) : AllG (J_clock_first l) (loopsFn Try.prog tab S3 ann_clock_first (J_clock_first l) Try.f82 (fun r => LeD r (.t (.c (.v (.int .i64 (firstNZ l))))))) := by
 rw [lp_clock_first]
 refine ⟨⟨?_, ?_⟩, trivial⟩
 ·intro F s h
  obtain _ | ⟨g, F⟩ := F
  case cons => exact h.elim
  obtain ⟨w0, rfl, hi⟩ := h
  exact zero_clock_first_0 l w0 hi
 ·intro n F s h
  obtain _ | ⟨g, F⟩ := F
  case cons => exact h.elim
  obtain ⟨w0, rfl, hi⟩ := h
  rw [er_clock_first_0]
  exact rnd_clock_first_0 l _ _ hp hi
def con_clock_first : Con := fun args => match args with
 | [.t (.c (.sl 1 n_l c_l))] => some (.t (.c (.v (.int .i64 (firstNZ (listC n_l mkInt c_l))))), some (numsP 1 n_l c_l ∧ ((listC n_l mkInt c_l)).length ≤ 100), false)
 | _ => none
theorem ok_clock_first : Ok Try.prog 82 con_clock_first := by
 refine Ok.fn (ann := ann_clock_first) mixed tabOK VS3 ValidIt.no (fn := Try.f82) (by kernel_rfl) (by kernel_rfl) fit_clock_first fun args r pre fresh h hp => ?_
 unfold con_clock_first at h
 split at h
 ·rename_i n_l c_l
  cases h
  obtain ⟨hp0, hp⟩ := hp
  refine ⟨rfl, J_clock_first (listC n_l mkInt c_l), [.t (.c (.sl 1 ((listC n_l mkInt c_l).length) (intsC (listC n_l mkInt c_l))))], ?_, Nat.le_of_ble_eq_true (by kernel_rfl), ?_, ?_⟩
  ·exact (LeA_cons (leT_c ((leL_int hp0))) LeA_nil)
  ·rw [ev_clock_first]; exact spec_clock_first (listC n_l mkInt c_l) hp
  ·exact all_clock_first (listC n_l mkInt c_l) hp
 ·cases h
def S4 : Sum := addS S3 82 con_clock_first
theorem VS4 : Valid Try.prog S4 := Valid.add VS3 ok_clock_first
def vc_clock_isTick (n : Int) (post : DV → Prop) : Prop := post (.t (.c (.v (.bool (inB n (0 : Int) (1000000000000 : Int))))))
def ann_clock_isTick : Ann := ⟨fun _ => none, fun _ => none, fun _ => [], noIt, false, fun _ => none, fun _ => none⟩
theorem ev_clock_isTick (J : Inv) (n : Int) (post : DV → Prop) : evFn Try.prog tab S4 ann_clock_isTick J Try.f85 [.t (.c (.v (.int .i64 n)))] post = vc_clock_isTick n post := by kernel_rfl
theorem fit_clock_isTick : okFn ann_clock_isTick Try.f85 = true := by kernel_rfl
theorem lp_clock_isTick (J : Inv) (post : DV → Prop) : AllG J (loopsFn Try.prog tab S4 ann_clock_isTick J Try.f85 post) = (True) := by kernel_rfl
theorem spec_clock_isTick (n : Int) : vc_clock_isTick n (fun r => LeD r (.t (.c (.v (.bool (tkB n)))))) := by
 exact LeD.refl _
def con_clock_isTick : Con := fun args => match args with
 | [.t (.c (.v (.int .i64 n)))] => some (.t (.c (.v (.bool (tkB n)))), none, false)
 | _ => none
theorem ok_clock_isTick : Ok Try.prog 85 con_clock_isTick := by
 refine Ok.fn (ann := ann_clock_isTick) mixed tabOK VS4 ValidIt.no (fn := Try.f85) (by kernel_rfl) (by kernel_rfl) fit_clock_isTick fun args r pre fresh h hp => ?_
 unfold con_clock_isTick at h
 split at h
 ·rename_i n
  cases h
  refine ⟨rfl, fun _ _ _ => False, _, LeA.refl _, Nat.le_of_ble_eq_true (by kernel_rfl), ?_, ?_⟩
  ·rw [ev_clock_isTick]; exact spec_clock_isTick n
  ·rw [lp_clock_isTick]; trivial
 ·cases h
def S5 : Sum := addS S4 85 con_clock_isTick
theorem VS5 : Valid Try.prog S5 := Valid.add VS4 ok_clock_isTick
def vc_ref01_IsTick (n : Int) (post : DV → Prop) : Prop := post (.t (.c (.v (.bool (inB n (0 : Int) (1000000000000 : Int))))))
def ann_ref01_IsTick : Ann := ⟨fun _ => none, fun _ => none, fun _ => [], noIt, false, fun _ => none, fun _ => none⟩
theorem ev_ref01_IsTick (J : Inv) (n : Int) (post : DV → Prop) : evFn Try.prog tab S5 ann_ref01_IsTick J Try.f25 [.t (.c (.v (.int .i64 n)))] post = vc_ref01_IsTick n post := by kernel_rfl
theorem fit_ref01_IsTick : okFn ann_ref01_IsTick Try.f25 = true := by kernel_rfl
theorem lp_ref01_IsTick (J : Inv) (post : DV → Prop) : AllG J (loopsFn Try.prog tab S5 ann_ref01_IsTick J Try.f25 post) = (True) := by kernel_rfl
theorem spec_ref01_IsTick (n : Int) : vc_ref01_IsTick n (fun r => LeD r (.t (.c (.v (.bool (tkB n)))))) := by
 exact LeD.refl _
def con_ref01_IsTick : Con := fun args => match args with
 | [.t (.c (.v (.int .i64 n)))] => some (.t (.c (.v (.bool (tkB n)))), none, false)
 | _ => none
theorem ok_ref01_IsTick : Ok Try.prog 25 con_ref01_IsTick := by
 refine Ok.fn (ann := ann_ref01_IsTick) mixed tabOK VS5 ValidIt.no (fn := Try.f25) (by kernel_rfl) (by kernel_rfl) fit_ref01_IsTick fun args r pre fresh h hp => ?_
 unfold con_ref01_IsTick at h
 split at h
 ·rename_i n
  cases h
  refine ⟨rfl, fun _ _ _ => False, _, LeA.refl _, Nat.le_of_ble_eq_true (by kernel_rfl), ?_, ?_⟩
  ·rw [ev_ref01_IsTick]; exact spec_ref01_IsTick n
  ·rw [lp_ref01_IsTick]; trivial
 ·cases h
def S6 : Sum := addS S5 25 con_ref01_IsTick
theorem VS6 : Valid Try.prog S6 := Valid.add VS5 ok_ref01_IsTick
def vc_clock_floor (n : Int) (d : Int) (post : DV → Prop) : Prop := lt (IntKind.i64.wrap (Int.tdiv n d)) fun x1 => (IntKind.i64 = IntKind.i64 ∧ d ≠ 0) ∧ (lt (Int.tmod n d) fun x2 => (IntKind.i64 = IntKind.i64 ∧ d ≠ 0) ∧ (cond (decide (x2 < (0 : Int))) (lt (IntKind.i64.wrap (x1 - (1 : Int))) fun x3 => post (.t (.c (.v (.int .i64 x3))))) (post (.t (.c (.v (.int .i64 x1)))))))
def ann_clock_floor : Ann := ⟨fun _ => none, fun _ => none, fun _ => [], noIt, false, fun _ => none, fun _ => none⟩
theorem ev_clock_floor (J : Inv) (n : Int) (d : Int) (post : DV → Prop) : evFn Try.prog tab S6 ann_clock_floor J Try.f114 [.t (.c (.v (.int .i64 n))), .t (.c (.v (.int .i64 d)))] post = vc_clock_floor n d post := by kernel_rfl
theorem fit_clock_floor : okFn ann_clock_floor Try.f114 = true := by kernel_rfl
theorem lp_clock_floor (J : Inv) (post : DV → Prop) : AllG J (loopsFn Try.prog tab S6 ann_clock_floor J Try.f114 post) = (True) := by kernel_rfl
theorem spec_clock_floor (n : Int) (d : Int) (hp : 0 < d ∧ -4000000000000000 ≤ n ∧ n ≤ 4000000000000000) : vc_clock_floor n d (fun r => LeD r (.t (.c (.v (.int .i64 (n / d)))))) := by
 obtain ⟨h1, h2⟩ := hp
 unfold vc_clock_floor
 have r := tdiv_rg n h1
 have e := fl_eq n h1
 refine lt_i fun x1 g1 => ⟨⟨rfl, by omega⟩, lt_i fun x2 g2 => ⟨⟨rfl, by omega⟩, cond_i (fun h => lt_i fun x3 g3 => leI ?_) (fun h => leI ?_)⟩⟩
 all_goals
  rw [wi (by omega)] at g1
  subst g1 g2
 ·rw [if_pos (of_decide_eq_true h)] at e
  rw [wi (by omega)] at g3
  omega
 ·rw [if_neg (of_decide_eq_false h)] at e
  exact e
def con_clock_floor : Con := fun args => match args with
 | [.t (.c (.v (.int .i64 n))), .t (.c (.v (.int .i64 d)))] => some (.t (.c (.v (.int .i64 (n / d)))), some (0 < d ∧ -4000000000000000 ≤ n ∧ n ≤ 4000000000000000), false)
 | _ => none
theorem ok_clock_floor : Ok Try.prog 114 con_clock_floor := by
 refine Ok.fn (ann := ann_clock_floor) mixed tabOK VS6 ValidIt.no (fn := Try.f114) (by kernel_rfl) (by kernel_rfl) fit_clock_floor fun args r pre fresh h hp => ?_
 unfold con_clock_floor at h
 split at h
 ·rename_i n d
  cases h
  refine ⟨rfl, fun _ _ _ => False, _, LeA.refl _, Nat.le_of_ble_eq_true (by kernel_rfl), ?_, ?_⟩
  ·rw [ev_clock_floor]; exact spec_clock_floor n d hp
  ·rw [lp_clock_floor]; trivial
 ·cases h
def S7 : Sum := addS S6 114 con_clock_floor
theorem VS7 : Valid Try.prog S7 := Valid.add VS6 ok_clock_floor
def vc_base_Floor (n : Int) (d : Int) (post : DV → Prop) : Prop := lt (IntKind.i64.wrap (Int.tdiv n d)) fun x1 => (IntKind.i64 = IntKind.i64 ∧ d ≠ 0) ∧ (lt (Int.tmod n d) fun x2 => (IntKind.i64 = IntKind.i64 ∧ d ≠ 0) ∧ (cond (decide (x2 < (0 : Int))) (lt (IntKind.i64.wrap (x1 - (1 : Int))) fun x3 => post (.t (.c (.v (.int .i64 x3))))) (post (.t (.c (.v (.int .i64 x1)))))))
def ann_base_Floor : Ann := ⟨fun _ => none, fun _ => none, fun _ => [], noIt, false, fun _ => none, fun _ => none⟩
theorem ev_base_Floor (J : Inv) (n : Int) (d : Int) (post : DV → Prop) : evFn Try.prog tab S7 ann_base_Floor J Try.f67 [.t (.c (.v (.int .i64 n))), .t (.c (.v (.int .i64 d)))] post = vc_base_Floor n d post := by kernel_rfl
theorem fit_base_Floor : okFn ann_base_Floor Try.f67 = true := by kernel_rfl
theorem lp_base_Floor (J : Inv) (post : DV → Prop) : AllG J (loopsFn Try.prog tab S7 ann_base_Floor J Try.f67 post) = (True) := by kernel_rfl
theorem spec_base_Floor (n : Int) (d : Int) (hp : 0 < d ∧ -4000000000000000 ≤ n ∧ n ≤ 4000000000000000) : vc_base_Floor n d (fun r => LeD r (.t (.c (.v (.int .i64 (n / d)))))) := by
 obtain ⟨h1, h2⟩ := hp
 unfold vc_base_Floor
 have r := tdiv_rg n h1
 have e := fl_eq n h1
 refine lt_i fun x1 g1 => ⟨⟨rfl, by omega⟩, lt_i fun x2 g2 => ⟨⟨rfl, by omega⟩, cond_i (fun h => lt_i fun x3 g3 => leI ?_) (fun h => leI ?_)⟩⟩
 all_goals
  rw [wi (by omega)] at g1
  subst g1 g2
 ·rw [if_pos (of_decide_eq_true h)] at e
  rw [wi (by omega)] at g3
  omega
 ·rw [if_neg (of_decide_eq_false h)] at e
  exact e
def con_base_Floor : Con := fun args => match args with
 | [.t (.c (.v (.int .i64 n))), .t (.c (.v (.int .i64 d)))] => some (.t (.c (.v (.int .i64 (n / d)))), some (0 < d ∧ -4000000000000000 ≤ n ∧ n ≤ 4000000000000000), false)
 | _ => none
theorem ok_base_Floor : Ok Try.prog 67 con_base_Floor := by
 refine Ok.fn (ann := ann_base_Floor) mixed tabOK VS7 ValidIt.no (fn := Try.f67) (by kernel_rfl) (by kernel_rfl) fit_base_Floor fun args r pre fresh h hp => ?_
 unfold con_base_Floor at h
 split at h
 ·rename_i n d
  cases h
  refine ⟨rfl, fun _ _ _ => False, _, LeA.refl _, Nat.le_of_ble_eq_true (by kernel_rfl), ?_, ?_⟩
  ·rw [ev_base_Floor]; exact spec_base_Floor n d hp
  ·rw [lp_base_Floor]; trivial
 ·cases h
def S8 : Sum := addS S7 67 con_base_Floor
theorem VS8 : Valid Try.prog S8 := Valid.add VS7 ok_base_Floor
def vc_clock_ceil (n : Int) (d : Int) (post : DV → Prop) : Prop := lt (IntKind.i64.wrap ((0 : Int) - n)) fun x1 => (0 < d ∧ -4000000000000000 ≤ x1 ∧ x1 ≤ 4000000000000000) ∧ (lt (IntKind.i64.wrap ((0 : Int) - (x1 / d))) fun x2 => post (.t (.c (.v (.int .i64 x2)))))
def ann_clock_ceil : Ann := ⟨fun _ => none, fun _ => none, fun _ => [], noIt, false, fun _ => none, fun _ => none⟩
theorem ev_clock_ceil (J : Inv) (n : Int) (d : Int) (post : DV → Prop) : evFn Try.prog tab S8 ann_clock_ceil J Try.f131 [.t (.c (.v (.int .i64 n))), .t (.c (.v (.int .i64 d)))] post = vc_clock_ceil n d post := by kernel_rfl
theorem fit_clock_ceil : okFn ann_clock_ceil Try.f131 = true := by kernel_rfl
theorem lp_clock_ceil (J : Inv) (post : DV → Prop) : AllG J (loopsFn Try.prog tab S8 ann_clock_ceil J Try.f131 post) = (True) := by kernel_rfl
theorem spec_clock_ceil (n : Int) (d : Int) (hp : 0 < d ∧ -4000000000000000 ≤ n ∧ n ≤ 4000000000000000) : vc_clock_ceil n d (fun r => LeD r (.t (.c (.v (.int .i64 (-((-n) / d))))))) := by
 unfold vc_clock_ceil
 have r := ediv_rg (-n) hp.1
 refine lt_i fun x1 g1 => ?_
 rw [wi (by omega)] at g1
 rw [Int.zero_sub] at g1
 subst g1
 refine ⟨⟨hp.1, by omega⟩, lt_i fun x2 g2 => leI ?_⟩
 rw [wi (by omega)] at g2
 omega
def con_clock_ceil : Con := fun args => match args with
 | [.t (.c (.v (.int .i64 n))), .t (.c (.v (.int .i64 d)))] => some (.t (.c (.v (.int .i64 (-((-n) / d))))), some (0 < d ∧ -4000000000000000 ≤ n ∧ n ≤ 4000000000000000), false)
 | _ => none
theorem ok_clock_ceil : Ok Try.prog 131 con_clock_ceil := by
 refine Ok.fn (ann := ann_clock_ceil) mixed tabOK VS8 ValidIt.no (fn := Try.f131) (by kernel_rfl) (by kernel_rfl) fit_clock_ceil fun args r pre fresh h hp => ?_
 unfold con_clock_ceil at h
 split at h
 ·rename_i n d
  cases h
  refine ⟨rfl, fun _ _ _ => False, _, LeA.refl _, Nat.le_of_ble_eq_true (by kernel_rfl), ?_, ?_⟩
  ·rw [ev_clock_ceil]; exact spec_clock_ceil n d hp
  ·rw [lp_clock_ceil]; trivial
 ·cases h
def S9 : Sum := addS S8 131 con_clock_ceil
theorem VS9 : Valid Try.prog S9 := Valid.add VS8 ok_clock_ceil
def vc_base_Ceil (n : Int) (d : Int) (post : DV → Prop) : Prop := lt (IntKind.i64.wrap ((0 : Int) - n)) fun x1 => (0 < d ∧ -4000000000000000 ≤ x1 ∧ x1 ≤ 4000000000000000) ∧ (lt (IntKind.i64.wrap ((0 : Int) - (x1 / d))) fun x2 => post (.t (.c (.v (.int .i64 x2)))))
def ann_base_Ceil : Ann := ⟨fun _ => none, fun _ => none, fun _ => [], noIt, false, fun _ => none, fun _ => none⟩
theorem ev_base_Ceil (J : Inv) (n : Int) (d : Int) (post : DV → Prop) : evFn Try.prog tab S9 ann_base_Ceil J Try.f108 [.t (.c (.v (.int .i64 n))), .t (.c (.v (.int .i64 d)))] post = vc_base_Ceil n d post := by kernel_rfl
theorem fit_base_Ceil : okFn ann_base_Ceil Try.f108 = true := by kernel_rfl
theorem lp_base_Ceil (J : Inv) (post : DV → Prop) : AllG J (loopsFn Try.prog tab S9 ann_base_Ceil J Try.f108 post) = (True) := by kernel_rfl
theorem spec_base_Ceil (n : Int) (d : Int) (hp : 0 < d ∧ -4000000000000000 ≤ n ∧ n ≤ 4000000000000000) : vc_base_Ceil n d (fun r => LeD r (.t (.c (.v (.int .i64 (-((-n) / d))))))) := by
 unfold vc_base_Ceil
 have r := ediv_rg (-n) hp.1
 refine lt_i fun x1 g1 => ?_
 rw [wi (by omega)] at g1
 rw [Int.zero_sub] at g1
 subst g1
 refine ⟨⟨hp.1, by omega⟩, lt_i fun x2 g2 => leI ?_⟩
 rw [wi (by omega)] at g2
 omega
def con_base_Ceil : Con := fun args => match args with
 | [.t (.c (.v (.int .i64 n))), .t (.c (.v (.int .i64 d)))] => some (.t (.c (.v (.int .i64 (-((-n) / d))))), some (0 < d ∧ -4000000000000000 ≤ n ∧ n ≤ 4000000000000000), false)
 | _ => none
theorem ok_base_Ceil : Ok Try.prog 108 con_base_Ceil := by
 refine Ok.fn (ann := ann_base_Ceil) mixed tabOK VS9 ValidIt.no (fn := Try.f108) (by kernel_rfl) (by kernel_rfl) fit_base_Ceil fun args r pre fresh h hp => ?_
 unfold con_base_Ceil at h
 split at h
 ·rename_i n d
  cases h
  refine ⟨rfl, fun _ _ _ => False, _, LeA.refl _, Nat.le_of_ble_eq_true (by kernel_rfl), ?_, ?_⟩
  ·rw [ev_base_Ceil]; exact spec_base_Ceil n d hp
  ·rw [lp_base_Ceil]; trivial
 ·cases h
def S10 : Sum := addS S9 108 con_base_Ceil
theorem VS10 : Valid Try.prog S10 := Valid.add VS9 ok_base_Ceil
def vc_base_Size (n : Int) (post : DV → Prop) : Prop := lt (IntKind.i64.wrap ((0 : Int) - n)) fun x1 => lt ((if x1 > n then x1 else n)) fun x2 => post (.t (.c (.v (.int .i64 x2))))
def ann_base_Size : Ann := ⟨fun _ => none, fun _ => none, fun _ => [], noIt, false, fun _ => none, fun _ => none⟩
theorem ev_base_Size (J : Inv) (n : Int) (post : DV → Prop) : evFn Try.prog tab S10 ann_base_Size J Try.f71 [.t (.c (.v (.int .i64 n)))] post = vc_base_Size n post := by kernel_rfl
theorem fit_base_Size : okFn ann_base_Size Try.f71 = true := by kernel_rfl
theorem lp_base_Size (J : Inv) (post : DV → Prop) : AllG J (loopsFn Try.prog tab S10 ann_base_Size J Try.f71 post) = (True) := by kernel_rfl
theorem spec_base_Size (n : Int) (hp : -9000000000000000000 ≤ n ∧ n ≤ 9000000000000000000) : vc_base_Size n (fun r => LeD r (.t (.c (.v (.int .i64 (n.natAbs : Int)))))) := by
 unfold vc_base_Size
 refine lt_i fun x1 g1 => lt_i fun x2 g2 => leI ?_
 rw [wi (by omega)] at g1
 split at g2 <;> omega
def con_base_Size : Con := fun args => match args with
 | [.t (.c (.v (.int .i64 n)))] => some (.t (.c (.v (.int .i64 (n.natAbs : Int)))), some (-9000000000000000000 ≤ n ∧ n ≤ 9000000000000000000), false)
 | _ => none
theorem ok_base_Size : Ok Try.prog 71 con_base_Size := by
 refine Ok.fn (ann := ann_base_Size) mixed tabOK VS10 ValidIt.no (fn := Try.f71) (by kernel_rfl) (by kernel_rfl) fit_base_Size fun args r pre fresh h hp => ?_
 unfold con_base_Size at h
 split at h
 ·rename_i n
  cases h
  refine ⟨rfl, fun _ _ _ => False, _, LeA.refl _, Nat.le_of_ble_eq_true (by kernel_rfl), ?_, ?_⟩
  ·rw [ev_base_Size]; exact spec_base_Size n hp
  ·rw [lp_base_Size]; trivial
 ·cases h
def S11 : Sum := addS S10 71 con_base_Size
theorem VS11 : Valid Try.prog S11 := Valid.add VS10 ok_base_Size
def S12 : Sum := S11
theorem VS12 : Valid Try.prog S12 := VS11
def vc_clock_CheckPing (p0 p1 p2 p3 : Int) (post : DV → Prop) : Prop := cond (tkB p0) (cond (tkB p1) (cond (tkB p2) (cond (decide (p2 ≥ p1)) ((numsP 1 2 (genC [[.v (.int .i64 (unl (tkB p3) (2 : Int)))], [.v (.int .i64 (unl (decide (p3 ≥ p0)) (9 : Int)))]]) ∧ (([(unl (tkB p3) (2 : Int)), (unl (decide (p3 ≥ p0)) (9 : Int))] : List Int)).length ≤ 100) ∧ (post (.t (.c (.v (.int .i64 (firstNZ ([(unl (tkB p3) (2 : Int)), (unl (decide (p3 ≥ p0)) (9 : Int))] : List Int)))))))) ((false = false) ∧ ((numsP 1 2 (genC [[.v (.int .i64 (unl (tkB p3) (2 : Int)))], [.v (.int .i64 (unl false (9 : Int)))]]) ∧ (([(unl (tkB p3) (2 : Int)), (unl false (9 : Int))] : List Int)).length ≤ 100) ∧ (post (.t (.c (.v (.int .i64 (firstNZ ([(unl (tkB p3) (2 : Int)), (unl false (9 : Int))] : List Int)))))))))) ((false = false) ∧ (cond (decide (p2 ≥ p1)) ((numsP 1 2 (genC [[.v (.int .i64 (unl false (2 : Int)))], [.v (.int .i64 (unl (decide (p3 ≥ p0)) (9 : Int)))]]) ∧ (([(unl false (2 : Int)), (unl (decide (p3 ≥ p0)) (9 : Int))] : List Int)).length ≤ 100) ∧ (post (.t (.c (.v (.int .i64 (firstNZ ([(unl false (2 : Int)), (unl (decide (p3 ≥ p0)) (9 : Int))] : List Int)))))))) ((false = false) ∧ ((numsP 1 2 (genC [[.v (.int .i64 (unl false (2 : Int)))], [.v (.int .i64 (unl false (9 : Int)))]]) ∧ (([(unl false (2 : Int)), (unl false (9 : Int))] : List Int)).length ≤ 100) ∧ (post (.t (.c (.v (.int .i64 (firstNZ ([(unl false (2 : Int)), (unl false (9 : Int))] : List Int)))))))))))) ((false = false) ∧ ((false = false) ∧ (cond (decide (p2 ≥ p1)) ((numsP 1 2 (genC [[.v (.int .i64 (unl false (2 : Int)))], [.v (.int .i64 (unl (decide (p3 ≥ p0)) (9 : Int)))]]) ∧ (([(unl false (2 : Int)), (unl (decide (p3 ≥ p0)) (9 : Int))] : List Int)).length ≤ 100) ∧ (post (.t (.c (.v (.int .i64 (firstNZ ([(unl false (2 : Int)), (unl (decide (p3 ≥ p0)) (9 : Int))] : List Int)))))))) ((false = false) ∧ ((numsP 1 2 (genC [[.v (.int .i64 (unl false (2 : Int)))], [.v (.int .i64 (unl false (9 : Int)))]]) ∧ (([(unl false (2 : Int)), (unl false (9 : Int))] : List Int)).length ≤ 100) ∧ (post (.t (.c (.v (.int .i64 (firstNZ ([(unl false (2 : Int)), (unl false (9 : Int))] : List Int))))))))))))) ((false = false) ∧ ((false = false) ∧ ((false = false) ∧ (cond (decide (p2 ≥ p1)) ((numsP 1 2 (genC [[.v (.int .i64 (unl false (2 : Int)))], [.v (.int .i64 (unl (decide (p3 ≥ p0)) (9 : Int)))]]) ∧ (([(unl false (2 : Int)), (unl (decide (p3 ≥ p0)) (9 : Int))] : List Int)).length ≤ 100) ∧ (post (.t (.c (.v (.int .i64 (firstNZ ([(unl false (2 : Int)), (unl (decide (p3 ≥ p0)) (9 : Int))] : List Int)))))))) ((false = false) ∧ ((numsP 1 2 (genC [[.v (.int .i64 (unl false (2 : Int)))], [.v (.int .i64 (unl false (9 : Int)))]]) ∧ (([(unl false (2 : Int)), (unl false (9 : Int))] : List Int)).length ≤ 100) ∧ (post (.t (.c (.v (.int .i64 (firstNZ ([(unl false (2 : Int)), (unl false (9 : Int))] : List Int)))))))))))))
def ann_clock_CheckPing : Ann := ⟨fun r => lookA r [(2, ([[], [0], [], [2], [], [4], [2, 3, 4, 5], [0, 1, 2, 3, 4, 5, 6], [0, 1, 2, 3, 4, 5, 6, 7], [0, 1, 2, 3, 4, 5, 6, 7, 8], [0, 1, 2, 3, 4, 5, 6, 7], [0, 1, 2, 3, 4, 5, 6, 7, 10], [0, 1, 2, 3, 4, 5, 6, 7, 8, 9, 10, 11], [0, 1, 2, 3, 4, 5, 6, 7, 8, 9, 10, 11, 12], [0, 1, 2, 3, 4, 5, 6, 7, 8, 9, 10, 11, 12, 13], [0, 1, 2, 3, 4, 5, 6, 7, 8, 9, 10, 11, 12, 13, 14], [0, 1, 2, 3, 4, 5, 6, 7, 8, 9, 10, 11, 12, 13, 14, 15], [0, 1, 2, 3, 4, 5, 6, 7, 8, 9, 10, 11, 12, 13, 14, 15, 16]], [[23, 36, 37, 38], [36, 37, 38], [23, 36, 37, 38], [23, 36, 37, 38], [23, 36, 37, 38], [23, 36, 37, 38], [23, 36, 37, 38], [36, 37, 38], [36, 37, 38], [36, 37, 38], [36, 37, 38], [36, 37, 38], [36, 37, 38], [36, 37, 38], [37, 38], [38], [], []]))], fun _ => none, fun _ => [], noIt, false, fun _ => none, fun _ => none⟩
theorem ev_clock_CheckPing (J : Inv) (p0 p1 p2 p3 : Int) (post : DV → Prop) : evFn Try.prog tab S12 ann_clock_CheckPing J Try.f53 [.t (.a [.v (.int .i64 p0), .v (.int .i64 p1), .v (.int .i64 p2), .v (.int .i64 p3)])] post = vc_clock_CheckPing p0 p1 p2 p3 post := by kernel_rfl
theorem fit_clock_CheckPing : okFn ann_clock_CheckPing Try.f53 = true := by kernel_rfl
theorem lp_clock_CheckPing (J : Inv) (post : DV → Prop) : AllG J (loopsFn Try.prog tab S12 ann_clock_CheckPing J Try.f53 post) = (True) := by kernel_rfl
theorem spec_clock_CheckPing (p0 p1 p2 p3 : Int) : vc_clock_CheckPing p0 p1 p2 p3 (fun r => LeD r (.t (.c (.v (.int .i64 (pngE (⟨p0, p1, p2, p3⟩ : Png))))))) := by
 unfold vc_clock_CheckPing
 repeat' with_reducible first | (refine cond_i (fun h => ?_) (fun h => ?_)) | (refine And.intro ?_ ?_)
 all_goals first | rfl | (exact numsP_gen [_, _]) | (exact Nat.le_of_ble_eq_true rfl) | (refine leI ?_)
 all_goals (try simp_all [pngE, unl, firstNZ])
 all_goals (repeat' split)
 all_goals first | rfl | omega | simp_all
def con_clock_CheckPing : Con := fun args => match args with
 | [.t (.a [.v (.int .i64 p0), .v (.int .i64 p1), .v (.int .i64 p2), .v (.int .i64 p3)])] => some (.t (.c (.v (.int .i64 (pngE (⟨p0, p1, p2, p3⟩ : Png))))), none, false)
 | _ => none
theorem ok_clock_CheckPing : Ok Try.prog 53 con_clock_CheckPing := by
 refine Ok.fn (ann := ann_clock_CheckPing) mixed tabOK VS12 ValidIt.no (fn := Try.f53) (by kernel_rfl) (by kernel_rfl) fit_clock_CheckPing fun args r pre fresh h hp => ?_
 unfold con_clock_CheckPing at h
 split at h
 ·rename_i p0 p1 p2 p3
  cases h
  refine ⟨rfl, fun _ _ _ => False, _, LeA.refl _, Nat.le_of_ble_eq_true (by kernel_rfl), ?_, ?_⟩
  ·rw [ev_clock_CheckPing]; exact spec_clock_CheckPing p0 p1 p2 p3
  ·rw [lp_clock_CheckPing]; trivial
 ·cases h
def S13 : Sum := addS S12 53 con_clock_CheckPing
theorem VS13 : Valid Try.prog S13 := Valid.add VS12 ok_clock_CheckPing
def vc_ref01_PingErr (p0 p1 p2 p3 : Int) (post : DV → Prop) : Prop := cond (!(tkB p0)) ((true = true) ∧ ((true = true) ∧ ((true = true) ∧ (post (.t (.c (.v (.int .i64 2)))))))) (cond (!(tkB p1)) ((true = true) ∧ ((true = true) ∧ (post (.t (.c (.v (.int .i64 2))))))) (cond (!(tkB p2)) ((true = true) ∧ (post (.t (.c (.v (.int .i64 2)))))) (cond (!(tkB p3)) (post (.t (.c (.v (.int .i64 2))))) (cond (decide (p2 < p1)) ((true = true) ∧ (post (.t (.c (.v (.int .i64 9)))))) (cond (decide (p3 < p0)) (post (.t (.c (.v (.int .i64 9))))) (post (.t (.c (.v (.int .i64 0))))))))))
def ann_ref01_PingErr : Ann := ⟨fun _ => none, fun _ => none, fun _ => [], noIt, false, fun _ => none, fun _ => none⟩
theorem ev_ref01_PingErr (J : Inv) (p0 p1 p2 p3 : Int) (post : DV → Prop) : evFn Try.prog tab S13 ann_ref01_PingErr J Try.f57 [.t (.a [.v (.int .i64 p0), .v (.int .i64 p1), .v (.int .i64 p2), .v (.int .i64 p3)])] post = vc_ref01_PingErr p0 p1 p2 p3 post := by kernel_rfl
theorem fit_ref01_PingErr : okFn ann_ref01_PingErr Try.f57 = true := by kernel_rfl
theorem lp_ref01_PingErr (J : Inv) (post : DV → Prop) : AllG J (loopsFn Try.prog tab S13 ann_ref01_PingErr J Try.f57 post) = (True) := by kernel_rfl
theorem spec_ref01_PingErr (p0 p1 p2 p3 : Int) : vc_ref01_PingErr p0 p1 p2 p3 (fun r => LeD r (.t (.c (.v (.int .i64 (pngE (⟨p0, p1, p2, p3⟩ : Png))))))) := by
 unfold vc_ref01_PingErr
 repeat' with_reducible first | (refine cond_i (fun h => ?_) (fun h => ?_)) | (refine And.intro ?_ ?_)
 all_goals first | rfl | (exact numsP_gen [_, _]) | (exact Nat.le_of_ble_eq_true rfl) | (refine leI ?_)
 all_goals (try simp_all [pngE, unl, firstNZ])
 all_goals (repeat' split)
 all_goals first | rfl | omega | simp_all
def con_ref01_PingErr : Con := fun args => match args with
 | [.t (.a [.v (.int .i64 p0), .v (.int .i64 p1), .v (.int .i64 p2), .v (.int .i64 p3)])] => some (.t (.c (.v (.int .i64 (pngE (⟨p0, p1, p2, p3⟩ : Png))))), none, false)
 | _ => none
theorem ok_ref01_PingErr : Ok Try.prog 57 con_ref01_PingErr := by
 refine Ok.fn (ann := ann_ref01_PingErr) mixed tabOK VS13 ValidIt.no (fn := Try.f57) (by kernel_rfl) (by kernel_rfl) fit_ref01_PingErr fun args r pre fresh h hp => ?_
 unfold con_ref01_PingErr at h
 split at h
 ·rename_i p0 p1 p2 p3
  cases h
  refine ⟨rfl, fun _ _ _ => False, _, LeA.refl _, Nat.le_of_ble_eq_true (by kernel_rfl), ?_, ?_⟩
  ·rw [ev_ref01_PingErr]; exact spec_ref01_PingErr p0 p1 p2 p3
  ·rw [lp_ref01_PingErr]; trivial
 ·cases h
def S14 : Sum := addS S13 57 con_ref01_PingErr
theorem VS14 : Valid Try.prog S14 := Valid.add VS13 ok_ref01_PingErr
def vc_clock_isDrift (n : Int) (post : DV → Prop) : Prop := post (.t (.c (.v (.bool (inB n (0 : Int) (1000 : Int))))))
def ann_clock_isDrift : Ann := ⟨fun _ => none, fun _ => none, fun _ => [], noIt, false, fun _ => none, fun _ => none⟩
theorem ev_clock_isDrift (J : Inv) (n : Int) (post : DV → Prop) : evFn Try.prog tab S14 ann_clock_isDrift J Try.f104 [.t (.c (.v (.int .i64 n)))] post = vc_clock_isDrift n post := by kernel_rfl
theorem fit_clock_isDrift : okFn ann_clock_isDrift Try.f104 = true := by kernel_rfl
theorem lp_clock_isDrift (J : Inv) (post : DV → Prop) : AllG J (loopsFn Try.prog tab S14 ann_clock_isDrift J Try.f104 post) = (True) := by kernel_rfl
theorem spec_clock_isDrift (n : Int) : vc_clock_isDrift n (fun r => LeD r (.t (.c (.v (.bool (inB n 0 1000)))))) := by
 exact LeD.refl _
def con_clock_isDrift : Con := fun args => match args with
 | [.t (.c (.v (.int .i64 n)))] => some (.t (.c (.v (.bool (inB n 0 1000)))), none, false)
 | _ => none
theorem ok_clock_isDrift : Ok Try.prog 104 con_clock_isDrift := by
 refine Ok.fn (ann := ann_clock_isDrift) mixed tabOK VS14 ValidIt.no (fn := Try.f104) (by kernel_rfl) (by kernel_rfl) fit_clock_isDrift fun args r pre fresh h hp => ?_
 unfold con_clock_isDrift at h
 split at h
 ·rename_i n
  cases h
  refine ⟨rfl, fun _ _ _ => False, _, LeA.refl _, Nat.le_of_ble_eq_true (by kernel_rfl), ?_, ?_⟩
  ·rw [ev_clock_isDrift]; exact spec_clock_isDrift n
  ·rw [lp_clock_isDrift]; trivial
 ·cases h
def S15 : Sum := addS S14 104 con_clock_isDrift
theorem VS15 : Valid Try.prog S15 := Valid.add VS14 ok_clock_isDrift
def vc_clock_slack (d : Int) (n : Int) (post : DV → Prop) : Prop := lt (IntKind.i64.wrap ((0 : Int) - n)) fun x1 => lt ((if x1 > n then x1 else n)) fun x2 => lt (IntKind.i64.wrap (x2 * d)) fun x3 => (0 < (1000000 : Int) ∧ -4000000000000000 ≤ x3 ∧ x3 ≤ 4000000000000000) ∧ (post (.t (.c (.v (.int .i64 (-((-x3) / (1000000 : Int))))))))
def ann_clock_slack : Ann := ⟨fun _ => none, fun _ => none, fun _ => [], noIt, false, fun _ => none, fun _ => none⟩
theorem ev_clock_slack (J : Inv) (d : Int) (n : Int) (post : DV → Prop) : evFn Try.prog tab S15 ann_clock_slack J Try.f105 [.t (.c (.v (.int .i64 d))), .t (.c (.v (.int .i64 n)))] post = vc_clock_slack d n post := by kernel_rfl
theorem fit_clock_slack : okFn ann_clock_slack Try.f105 = true := by kernel_rfl
theorem lp_clock_slack (J : Inv) (post : DV → Prop) : AllG J (loopsFn Try.prog tab S15 ann_clock_slack J Try.f105 post) = (True) := by kernel_rfl
theorem spec_clock_slack (d : Int) (n : Int) (hp : 0 ≤ d ∧ d ≤ 1000 ∧ -4000000000000 ≤ n ∧ n ≤ 4000000000000) : vc_clock_slack d n (fun r => LeD r (.t (.c (.v (.int .i64 (slackI d n)))))) := by
 unfold vc_clock_slack
 obtain ⟨d1, d2, n1, n2⟩ := hp
 have s := slack_rg (d := d) (n := n) ⟨d1, d2⟩ ⟨n1, n2⟩
 refine lt_i fun x1 g1 => lt_i fun x2 g2 => lt_i fun x3 g3 => ?_
 rw [wi (by omega)] at g1
 have e : x2 = (n.natAbs : Int) := by split at g2 <;> omega
 rw [e, wi (by omega)] at g3
 exact ⟨by omega, leI (by rw [← g3]; rfl)⟩
def con_clock_slack : Con := fun args => match args with
 | [.t (.c (.v (.int .i64 d))), .t (.c (.v (.int .i64 n)))] => some (.t (.c (.v (.int .i64 (slackI d n)))), some (0 ≤ d ∧ d ≤ 1000 ∧ -4000000000000 ≤ n ∧ n ≤ 4000000000000), false)
 | _ => none
theorem ok_clock_slack : Ok Try.prog 105 con_clock_slack := by
 refine Ok.fn (ann := ann_clock_slack) mixed tabOK VS15 ValidIt.no (fn := Try.f105) (by kernel_rfl) (by kernel_rfl) fit_clock_slack fun args r pre fresh h hp => ?_
 unfold con_clock_slack at h
 split at h
 ·rename_i d n
  cases h
  refine ⟨rfl, fun _ _ _ => False, _, LeA.refl _, Nat.le_of_ble_eq_true (by kernel_rfl), ?_, ?_⟩
  ·rw [ev_clock_slack]; exact spec_clock_slack d n hp
  ·rw [lp_clock_slack]; trivial
 ·cases h
def S16 : Sum := addS S15 105 con_clock_slack
theorem VS16 : Valid Try.prog S16 := Valid.add VS15 ok_clock_slack
def vc_ref01_Slack (d : Int) (n : Int) (post : DV → Prop) : Prop := (-9000000000000000000 ≤ n ∧ n ≤ 9000000000000000000) ∧ (lt (IntKind.i64.wrap ((n.natAbs : Int) * d)) fun x1 => (0 < (1000000 : Int) ∧ -4000000000000000 ≤ x1 ∧ x1 ≤ 4000000000000000) ∧ (post (.t (.c (.v (.int .i64 (-((-x1) / (1000000 : Int)))))))))
def ann_ref01_Slack : Ann := ⟨fun _ => none, fun _ => none, fun _ => [], noIt, false, fun _ => none, fun _ => none⟩
theorem ev_ref01_Slack (J : Inv) (d : Int) (n : Int) (post : DV → Prop) : evFn Try.prog tab S16 ann_ref01_Slack J Try.f58 [.t (.c (.v (.int .i64 d))), .t (.c (.v (.int .i64 n)))] post = vc_ref01_Slack d n post := by kernel_rfl
theorem fit_ref01_Slack : okFn ann_ref01_Slack Try.f58 = true := by kernel_rfl
theorem lp_ref01_Slack (J : Inv) (post : DV → Prop) : AllG J (loopsFn Try.prog tab S16 ann_ref01_Slack J Try.f58 post) = (True) := by kernel_rfl
theorem spec_ref01_Slack (d : Int) (n : Int) (hp : 0 ≤ d ∧ d ≤ 1000 ∧ -4000000000000 ≤ n ∧ n ≤ 4000000000000) : vc_ref01_Slack d n (fun r => LeD r (.t (.c (.v (.int .i64 (slackI d n)))))) := by
 unfold vc_ref01_Slack
 obtain ⟨d1, d2, n1, n2⟩ := hp
 have s := slack_rg (d := d) (n := n) ⟨d1, d2⟩ ⟨n1, n2⟩
 refine ⟨by omega, lt_i fun x1 g1 => ?_⟩
 rw [wi (by omega)] at g1
 exact ⟨by omega, leI (by rw [← g1]; rfl)⟩
def con_ref01_Slack : Con := fun args => match args with
 | [.t (.c (.v (.int .i64 d))), .t (.c (.v (.int .i64 n)))] => some (.t (.c (.v (.int .i64 (slackI d n)))), some (0 ≤ d ∧ d ≤ 1000 ∧ -4000000000000 ≤ n ∧ n ≤ 4000000000000), false)
 | _ => none
theorem ok_ref01_Slack : Ok Try.prog 58 con_ref01_Slack := by
 refine Ok.fn (ann := ann_ref01_Slack) mixed tabOK VS16 ValidIt.no (fn := Try.f58) (by kernel_rfl) (by kernel_rfl) fit_ref01_Slack fun args r pre fresh h hp => ?_
 unfold con_ref01_Slack at h
 split at h
 ·rename_i d n
  cases h
  refine ⟨rfl, fun _ _ _ => False, _, LeA.refl _, Nat.le_of_ble_eq_true (by kernel_rfl), ?_, ?_⟩
  ·rw [ev_ref01_Slack]; exact spec_ref01_Slack d n hp
  ·rw [lp_ref01_Slack]; trivial
 ·cases h
def S17 : Sum := addS S16 58 con_ref01_Slack
theorem VS17 : Valid Try.prog S17 := Valid.add VS16 ok_ref01_Slack
def vc_clock_SlackOf (d : Int) (n : Int) (post : DV → Prop) : Prop := cond (!(inB d 0 1000)) ((true = true) ∧ (post (.tu [.c (.v (.int .i64 0)), .c (.v (.int .i64 2))]))) (cond (!(inB n (-1000000000000 : Int) (1000000000000 : Int))) (post (.tu [.c (.v (.int .i64 0)), .c (.v (.int .i64 2))])) ((0 ≤ d ∧ d ≤ 1000 ∧ -4000000000000 ≤ n ∧ n ≤ 4000000000000) ∧ (post (.tu [.c (.v (.int .i64 (slackI d n))), .c (.v (.int .i64 0))]))))
def ann_clock_SlackOf : Ann := ⟨fun _ => none, fun _ => none, fun _ => [], noIt, false, fun _ => none, fun _ => none⟩
theorem ev_clock_SlackOf (J : Inv) (d : Int) (n : Int) (post : DV → Prop) : evFn Try.prog tab S17 ann_clock_SlackOf J Try.f54 [.t (.c (.v (.int .i64 d))), .t (.c (.v (.int .i64 n)))] post = vc_clock_SlackOf d n post := by kernel_rfl
theorem fit_clock_SlackOf : okFn ann_clock_SlackOf Try.f54 = true := by kernel_rfl
theorem lp_clock_SlackOf (J : Inv) (post : DV → Prop) : AllG J (loopsFn Try.prog tab S17 ann_clock_SlackOf J Try.f54 post) = (True) := by kernel_rfl
theorem spec_clock_SlackOf (d : Int) (n : Int) : vc_clock_SlackOf d n (fun r => LeD r (.tu [.c (.v (.int .i64 (slV d n))), .c (.v (.int .i64 (slE d n)))])) := by
 unfold vc_clock_SlackOf slV slE
 refine cond_i (fun h => ⟨rfl, ?_⟩) (fun h => cond_i (fun g => ?_) (fun g => ⟨?_, ?_⟩))
 ·have h : inB d 0 1000 = false := by simpa using h
  rw [h]; exact LeD.refl _
 ·have g : inB n (-1000000000000) 1000000000000 = false := by simpa using g
  rw [g, Bool.and_false]; exact LeD.refl _
 ·have h : inB d 0 1000 = true := by simpa using h
  have g : inB n (-1000000000000) 1000000000000 = true := by simpa using g
  rw [inB_true] at h g
  omega
 ·have h : inB d 0 1000 = true := by simpa using h
  have g : inB n (-1000000000000) 1000000000000 = true := by simpa using g
  rw [h, g]; exact LeD.refl _
def con_clock_SlackOf : Con := fun args => match args with
 | [.t (.c (.v (.int .i64 d))), .t (.c (.v (.int .i64 n)))] => some (.tu [.c (.v (.int .i64 (slV d n))), .c (.v (.int .i64 (slE d n)))], none, false)
 | _ => none
theorem ok_clock_SlackOf : Ok Try.prog 54 con_clock_SlackOf := by
 refine Ok.fn (ann := ann_clock_SlackOf) mixed tabOK VS17 ValidIt.no (fn := Try.f54) (by kernel_rfl) (by kernel_rfl) fit_clock_SlackOf fun args r pre fresh h hp => ?_
 unfold con_clock_SlackOf at h
 split at h
 ·rename_i d n
  cases h
  refine ⟨rfl, fun _ _ _ => False, _, LeA.refl _, Nat.le_of_ble_eq_true (by kernel_rfl), ?_, ?_⟩
  ·rw [ev_clock_SlackOf]; exact spec_clock_SlackOf d n
  ·rw [lp_clock_SlackOf]; trivial
 ·cases h
def S18 : Sum := addS S17 54 con_clock_SlackOf
theorem VS18 : Valid Try.prog S18 := Valid.add VS17 ok_clock_SlackOf
def vc_clock_cableErr (c0 c1 : Int) (post : DV → Prop) : Prop := cond (inB c0 0 1000) (post (.t (.c (.v (.int .i64 (unl (inB c1 (0 : Int) (1000000 : Int)) (2 : Int))))))) ((false = false) ∧ (post (.t (.c (.v (.int .i64 (unl false (2 : Int))))))))
def ann_clock_cableErr : Ann := ⟨fun _ => none, fun _ => none, fun _ => [], noIt, false, fun _ => none, fun _ => none⟩
theorem ev_clock_cableErr (J : Inv) (c0 c1 : Int) (post : DV → Prop) : evFn Try.prog tab S18 ann_clock_cableErr J Try.f99 [.t (.a [.v (.int .i64 c0), .v (.int .i64 c1)])] post = vc_clock_cableErr c0 c1 post := by kernel_rfl
theorem fit_clock_cableErr : okFn ann_clock_cableErr Try.f99 = true := by kernel_rfl
theorem lp_clock_cableErr (J : Inv) (post : DV → Prop) : AllG J (loopsFn Try.prog tab S18 ann_clock_cableErr J Try.f99 post) = (True) := by kernel_rfl
theorem spec_clock_cableErr (c0 c1 : Int) : vc_clock_cableErr c0 c1 (fun r => LeD r (.t (.c (.v (.int .i64 (cabE (⟨c0, c1⟩ : Cab))))))) := by
 unfold vc_clock_cableErr
 repeat' with_reducible first | (refine cond_i (fun h => ?_) (fun h => ?_)) | (refine And.intro ?_ ?_)
 all_goals first | rfl | (exact numsP_gen [_, _]) | (exact Nat.le_of_ble_eq_true rfl) | (refine leI ?_)
 all_goals (try simp_all [cabE, unl, firstNZ])
 all_goals (repeat' split)
 all_goals first | rfl | omega | simp_all
def con_clock_cableErr : Con := fun args => match args with
 | [.t (.a [.v (.int .i64 c0), .v (.int .i64 c1)])] => some (.t (.c (.v (.int .i64 (cabE (⟨c0, c1⟩ : Cab))))), none, false)
 | _ => none
theorem ok_clock_cableErr : Ok Try.prog 99 con_clock_cableErr := by
 refine Ok.fn (ann := ann_clock_cableErr) mixed tabOK VS18 ValidIt.no (fn := Try.f99) (by kernel_rfl) (by kernel_rfl) fit_clock_cableErr fun args r pre fresh h hp => ?_
 unfold con_clock_cableErr at h
 split at h
 ·rename_i c0 c1
  cases h
  refine ⟨rfl, fun _ _ _ => False, _, LeA.refl _, Nat.le_of_ble_eq_true (by kernel_rfl), ?_, ?_⟩
  ·rw [ev_clock_cableErr]; exact spec_clock_cableErr c0 c1
  ·rw [lp_clock_cableErr]; trivial
 ·cases h
def S19 : Sum := addS S18 99 con_clock_cableErr
theorem VS19 : Valid Try.prog S19 := Valid.add VS18 ok_clock_cableErr
def vc_ref01_CableErr (c0 c1 : Int) (post : DV → Prop) : Prop := cond (!(inB c0 (0 : Int) (1000 : Int))) ((true = true) ∧ (post (.t (.c (.v (.int .i64 2)))))) (cond (!(inB c1 (0 : Int) (1000000 : Int))) (post (.t (.c (.v (.int .i64 2))))) (post (.t (.c (.v (.int .i64 0))))))
def ann_ref01_CableErr : Ann := ⟨fun _ => none, fun _ => none, fun _ => [], noIt, false, fun _ => none, fun _ => none⟩
theorem ev_ref01_CableErr (J : Inv) (c0 c1 : Int) (post : DV → Prop) : evFn Try.prog tab S19 ann_ref01_CableErr J Try.f59 [.t (.a [.v (.int .i64 c0), .v (.int .i64 c1)])] post = vc_ref01_CableErr c0 c1 post := by kernel_rfl
theorem fit_ref01_CableErr : okFn ann_ref01_CableErr Try.f59 = true := by kernel_rfl
theorem lp_ref01_CableErr (J : Inv) (post : DV → Prop) : AllG J (loopsFn Try.prog tab S19 ann_ref01_CableErr J Try.f59 post) = (True) := by kernel_rfl
theorem spec_ref01_CableErr (c0 c1 : Int) : vc_ref01_CableErr c0 c1 (fun r => LeD r (.t (.c (.v (.int .i64 (cabE (⟨c0, c1⟩ : Cab))))))) := by
 unfold vc_ref01_CableErr
 repeat' with_reducible first | (refine cond_i (fun h => ?_) (fun h => ?_)) | (refine And.intro ?_ ?_)
 all_goals first | rfl | (exact numsP_gen [_, _]) | (exact Nat.le_of_ble_eq_true rfl) | (refine leI ?_)
 all_goals (try simp_all [cabE, unl, firstNZ])
 all_goals (repeat' split)
 all_goals first | rfl | omega | simp_all
def con_ref01_CableErr : Con := fun args => match args with
 | [.t (.a [.v (.int .i64 c0), .v (.int .i64 c1)])] => some (.t (.c (.v (.int .i64 (cabE (⟨c0, c1⟩ : Cab))))), none, false)
 | _ => none
theorem ok_ref01_CableErr : Ok Try.prog 59 con_ref01_CableErr := by
 refine Ok.fn (ann := ann_ref01_CableErr) mixed tabOK VS19 ValidIt.no (fn := Try.f59) (by kernel_rfl) (by kernel_rfl) fit_ref01_CableErr fun args r pre fresh h hp => ?_
 unfold con_ref01_CableErr at h
 split at h
 ·rename_i c0 c1
  cases h
  refine ⟨rfl, fun _ _ _ => False, _, LeA.refl _, Nat.le_of_ble_eq_true (by kernel_rfl), ?_, ?_⟩
  ·rw [ev_ref01_CableErr]; exact spec_ref01_CableErr c0 c1
  ·rw [lp_ref01_CableErr]; trivial
 ·cases h
def S20 : Sum := addS S19 59 con_ref01_CableErr
theorem VS20 : Valid Try.prog S20 := Valid.add VS19 ok_ref01_CableErr
def vc_clock_delay (c0 c1 : Int) (p0 p1 p2 p3 : Int) (post : DV → Prop) : Prop := lt (IntKind.i64.wrap (p2 - p1)) fun x1 => (0 ≤ c0 ∧ c0 ≤ 1000 ∧ -4000000000000 ≤ x1 ∧ x1 ≤ 4000000000000) ∧ (lt (IntKind.i64.wrap (p3 - p0)) fun x2 => lt (IntKind.i64.wrap (x2 - x1)) fun x3 => lt (IntKind.i64.wrap (x3 - (slackI c0 x1))) fun x4 => lt (IntKind.i64.wrap (x4 - c1)) fun x5 => (0 < (2 : Int) ∧ -4000000000000000 ≤ x5 ∧ x5 ≤ 4000000000000000) ∧ (lt ((if (x5 / (2 : Int)) > (0 : Int) then (x5 / (2 : Int)) else (0 : Int))) fun x6 => lt (IntKind.i64.wrap (x3 + (slackI c0 x1))) fun x7 => lt (IntKind.i64.wrap (x3 + (slackI c0 x1))) fun x8 => lt (IntKind.i64.wrap (x8 + c1)) fun x9 => (0 < (2 : Int) ∧ -4000000000000000 ≤ x9 ∧ x9 ≤ 4000000000000000) ∧ (lt ((if (-((-x9) / (2 : Int))) < x7 then (-((-x9) / (2 : Int))) else x7)) fun x10 => lt (IntKind.i64.wrap (x3 + (slackI c0 x1))) fun x11 => post (.tu [.a [.v (.int .i64 x6), .v (.int .i64 x10)], .c (.v (.bool (decide (x11 ≥ (0 : Int)))))]))))
def ann_clock_delay : Ann := ⟨fun r => lookA r [(4, ([[], [], [0, 1], [], [3], [0, 1, 2, 3, 4], [0, 1, 2, 3, 4, 5], [0, 1, 2, 3, 4, 5, 6], [], [], [8, 9], [], [], [11, 12], [], [14], [11, 12, 13, 14, 15], [0, 1, 2, 3, 4, 5, 6, 11, 12, 13, 14, 15, 16], [0, 1, 2, 3, 4, 5, 6, 8, 9, 10, 11, 12, 13, 14, 15, 16, 17], [0, 1, 2, 3, 4, 5, 6, 7, 8, 9, 10, 11, 12, 13, 14, 15, 16, 17, 18], [], [], [20, 21], [20, 21, 22], [0, 1, 2, 3, 4, 5, 6, 7, 8, 9, 10, 11, 12, 13, 14, 15, 16, 17, 18, 19], [0, 1, 2, 3, 4, 5, 6, 7, 8, 9, 10, 11, 12, 13, 14, 15, 16, 17, 18, 19, 20, 21, 22, 23, 24]], [[31, 42], [31, 42], [31, 42], [31, 42], [31, 42], [31, 42], [42], [42], [31, 42], [31, 42], [31, 42], [31, 42], [31, 42], [31, 42], [31, 42], [31, 42], [31, 42], [], [], [], [31, 42], [31, 42], [31, 42], [31, 42], [], []]))], fun _ => none, fun _ => [], noIt, false, fun _ => none, fun _ => none⟩
theorem ev_clock_delay (J : Inv) (c0 c1 : Int) (p0 p1 p2 p3 : Int) (post : DV → Prop) : evFn Try.prog tab S20 ann_clock_delay J Try.f106 [.t (.a [.v (.int .i64 c0), .v (.int .i64 c1)]), .t (.a [.v (.int .i64 p0), .v (.int .i64 p1), .v (.int .i64 p2), .v (.int .i64 p3)])] post = vc_clock_delay c0 c1 p0 p1 p2 p3 post := by kernel_rfl
theorem fit_clock_delay : okFn ann_clock_delay Try.f106 = true := by kernel_rfl
theorem lp_clock_delay (J : Inv) (post : DV → Prop) : AllG J (loopsFn Try.prog tab S20 ann_clock_delay J Try.f106 post) = (True) := by kernel_rfl
theorem spec_clock_delay (c0 c1 : Int) (p0 p1 p2 p3 : Int) (hp : delOk (⟨c0, c1⟩ : Cab) (⟨p0, p1, p2, p3⟩ : Png)) : vc_clock_delay c0 c1 p0 p1 p2 p3 (fun r => LeD r (.tu [.a [.v (.int .i64 ((dlR (⟨c0, c1⟩ : Cab) (⟨p0, p1, p2, p3⟩ : Png)).lo)), .v (.int .i64 ((dlR (⟨c0, c1⟩ : Cab) (⟨p0, p1, p2, p3⟩ : Png)).hi))], .c (.v (.bool (canB (⟨c0, c1⟩ : Cab) (⟨p0, p1, p2, p3⟩ : Png))))])) := by
 have r := del_rg hp
 obtain ⟨⟨⟨c1_, c2_⟩, c3_, c4_⟩, ⟨h1, h2, h3⟩, h4, h5, h6⟩ := hp
 simp only at c1_ c2_ c3_ c4_ h1 h2 h3 h4 h5 h6
 obtain ⟨r1, r2, r3⟩ := r
 obtain ⟨u, hu⟩ : ∃ u, u = ((⟨c0, c1⟩ : Cab)).sl (⟨p0, p1, p2, p3⟩ : Png) := ⟨_, rfl⟩
 obtain ⟨t, ht⟩ : ∃ t, t = ((⟨c0, c1⟩ : Cab)).ov (⟨p0, p1, p2, p3⟩ : Png) := ⟨_, rfl⟩
 have hs : slackI c0 (p2 - p1) = u := hu.symm
 have ho : p3 - p0 - (p2 - p1) = t := ht.symm
 have hs' := hu.symm
 have ho' := ht.symm
 rw [← hu] at r1
 rw [← ht] at r2
 unfold vc_clock_delay
 refine lt_i fun x1 g1 => ?_
 rw [wi (by omega)] at g1
 subst g1
 refine ⟨by omega, lt_i fun x2 g2 => lt_i fun x3 g3 => lt_i fun x4 g4 => lt_i fun x5 g5 => ⟨?_, lt_i fun x6 g6 => lt_i fun x7 g7 => lt_i fun x8 g8 => lt_i fun x9 g9 => ⟨?_, lt_i fun x10 g10 => lt_i fun x11 g11 => ?_⟩⟩⟩
 all_goals
  rw [wi (by omega)] at g2
  subst g2
  rw [wi (by omega)] at g3
  subst g3
  rw [hs, ho] at *
  rw [wi (by omega)] at g4
  subst g4
  rw [wi (by omega)] at g5
  subst g5
 ·omega
 all_goals
  rw [wi (by omega)] at g7 g8
  subst g7 g8
  rw [wi (by omega)] at g9
  subst g9
 ·omega
 rw [wi (by omega)] at g11
 subst g11
 rw [mx_if] at g6
 rw [mn_if] at g10
 subst g6 g10
 unfold dlR canB Cab.dlo Cab.dhi
 rw [hs', ho', Int.max_comm, Int.min_comm]
 exact LeD.refl _
def con_clock_delay : Con := fun args => match args with
 | [.t (.a [.v (.int .i64 c0), .v (.int .i64 c1)]), .t (.a [.v (.int .i64 p0), .v (.int .i64 p1), .v (.int .i64 p2), .v (.int .i64 p3)])] => some (.tu [.a [.v (.int .i64 ((dlR (⟨c0, c1⟩ : Cab) (⟨p0, p1, p2, p3⟩ : Png)).lo)), .v (.int .i64 ((dlR (⟨c0, c1⟩ : Cab) (⟨p0, p1, p2, p3⟩ : Png)).hi))], .c (.v (.bool (canB (⟨c0, c1⟩ : Cab) (⟨p0, p1, p2, p3⟩ : Png))))], some (delOk (⟨c0, c1⟩ : Cab) (⟨p0, p1, p2, p3⟩ : Png)), false)
 | _ => none
theorem ok_clock_delay : Ok Try.prog 106 con_clock_delay := by
 refine Ok.fn (ann := ann_clock_delay) mixed tabOK VS20 ValidIt.no (fn := Try.f106) (by kernel_rfl) (by kernel_rfl) fit_clock_delay fun args r pre fresh h hp => ?_
 unfold con_clock_delay at h
 split at h
 ·rename_i c0 c1 p0 p1 p2 p3
  cases h
  refine ⟨rfl, fun _ _ _ => False, _, LeA.refl _, Nat.le_of_ble_eq_true (by kernel_rfl), ?_, ?_⟩
  ·rw [ev_clock_delay]; exact spec_clock_delay c0 c1 p0 p1 p2 p3 hp
  ·rw [lp_clock_delay]; trivial
 ·cases h
def S21 : Sum := addS S20 106 con_clock_delay
theorem VS21 : Valid Try.prog S21 := Valid.add VS20 ok_clock_delay
def vc_ref01_Delay (c0 c1 : Int) (p0 p1 p2 p3 : Int) (post : DV → Prop) : Prop := lt (IntKind.i64.wrap (p2 - p1)) fun x1 => (0 ≤ c0 ∧ c0 ≤ 1000 ∧ -4000000000000 ≤ x1 ∧ x1 ≤ 4000000000000) ∧ (lt (IntKind.i64.wrap (p3 - p0)) fun x2 => lt (IntKind.i64.wrap (x2 - x1)) fun x3 => lt (IntKind.i64.wrap (x3 + (slackI c0 x1))) fun x4 => cond (decide (x4 < (0 : Int))) (post (.tu [.a [.v (.int .i64 0), .v (.int .i64 0)], .c (.v (.bool false))])) (lt (IntKind.i64.wrap (x3 - (slackI c0 x1))) fun x5 => lt (IntKind.i64.wrap (x5 - c1)) fun x6 => (0 < (2 : Int) ∧ -4000000000000000 ≤ x6 ∧ x6 ≤ 4000000000000000) ∧ (lt ((if (x6 / (2 : Int)) > (0 : Int) then (x6 / (2 : Int)) else (0 : Int))) fun x7 => lt (IntKind.i64.wrap (x3 + (slackI c0 x1))) fun x8 => lt (IntKind.i64.wrap (x3 + (slackI c0 x1))) fun x9 => lt (IntKind.i64.wrap (x9 + c1)) fun x10 => (0 < (2 : Int) ∧ -4000000000000000 ≤ x10 ∧ x10 ≤ 4000000000000000) ∧ (lt ((if (-((-x10) / (2 : Int))) < x8 then (-((-x10) / (2 : Int))) else x8)) fun x11 => post (.tu [.a [.v (.int .i64 x7), .v (.int .i64 x11)], .c (.v (.bool true))])))))
def ann_ref01_Delay : Ann := ⟨fun r => lookA r [(2, ([[], [0], [], [0, 1, 2], [], [4], [], [6], [4, 5, 6, 7], [], [4, 5, 6, 7, 8, 9], [0, 1, 2, 3], [0, 1, 2, 3, 4, 5, 6, 7, 8, 9, 10, 11]], [[17], [17], [17], [], [17], [17], [17], [17], [17], [17], [17], [], []])), (5, ([[], [], [0, 1], [], [3], [0, 1, 2, 3, 4], [0, 1, 2, 3, 4, 5], [0, 1, 2, 3, 4, 5, 6], [], [], [8, 9], [], [], [11, 12], [], [14], [11, 12, 13, 14, 15], [0, 1, 2, 3, 4, 5, 6, 11, 12, 13, 14, 15, 16], [0, 1, 2, 3, 4, 5, 6, 8, 9, 10, 11, 12, 13, 14, 15, 16, 17], [0, 1, 2, 3, 4, 5, 6, 7, 8, 9, 10, 11, 12, 13, 14, 15, 16, 17, 18], [0, 1, 2, 3, 4, 5, 6, 7, 8, 9, 10, 11, 12, 13, 14, 15, 16, 17, 18, 19], [0, 1, 2, 3, 4, 5, 6, 7, 8, 9, 10, 11, 12, 13, 14, 15, 16, 17, 18, 19, 20]], [[36, 47], [36, 47], [36, 47], [36, 47], [36, 47], [36, 47], [47], [47], [36, 47], [36, 47], [36, 47], [36, 47], [36, 47], [36, 47], [36, 47], [36, 47], [36, 47], [], [], [], [], []]))], fun _ => none, fun _ => [], noIt, false, fun _ => none, fun _ => none⟩
theorem ev_ref01_Delay (J : Inv) (c0 c1 : Int) (p0 p1 p2 p3 : Int) (post : DV → Prop) : evFn Try.prog tab S21 ann_ref01_Delay J Try.f60 [.t (.a [.v (.int .i64 c0), .v (.int .i64 c1)]), .t (.a [.v (.int .i64 p0), .v (.int .i64 p1), .v (.int .i64 p2), .v (.int .i64 p3)])] post = vc_ref01_Delay c0 c1 p0 p1 p2 p3 post := by kernel_rfl
theorem fit_ref01_Delay : okFn ann_ref01_Delay Try.f60 = true := by kernel_rfl
theorem lp_ref01_Delay (J : Inv) (post : DV → Prop) : AllG J (loopsFn Try.prog tab S21 ann_ref01_Delay J Try.f60 post) = (True) := by kernel_rfl
theorem spec_ref01_Delay (c0 c1 : Int) (p0 p1 p2 p3 : Int) (hp : delOk (⟨c0, c1⟩ : Cab) (⟨p0, p1, p2, p3⟩ : Png)) : vc_ref01_Delay c0 c1 p0 p1 p2 p3 (fun r => LeD r (.tu [.a [.v (.int .i64 ((dlK (⟨c0, c1⟩ : Cab) (⟨p0, p1, p2, p3⟩ : Png)).lo)), .v (.int .i64 ((dlK (⟨c0, c1⟩ : Cab) (⟨p0, p1, p2, p3⟩ : Png)).hi))], .c (.v (.bool (canB (⟨c0, c1⟩ : Cab) (⟨p0, p1, p2, p3⟩ : Png))))])) := by
 have r := del_rg hp
 obtain ⟨⟨⟨c1_, c2_⟩, c3_, c4_⟩, ⟨h1, h2, h3⟩, h4, h5, h6⟩ := hp
 simp only at c1_ c2_ c3_ c4_ h1 h2 h3 h4 h5 h6
 obtain ⟨r1, r2, r3⟩ := r
 obtain ⟨u, hu⟩ : ∃ u, u = ((⟨c0, c1⟩ : Cab)).sl (⟨p0, p1, p2, p3⟩ : Png) := ⟨_, rfl⟩
 obtain ⟨t, ht⟩ : ∃ t, t = ((⟨c0, c1⟩ : Cab)).ov (⟨p0, p1, p2, p3⟩ : Png) := ⟨_, rfl⟩
 have hs : slackI c0 (p2 - p1) = u := hu.symm
 have ho : p3 - p0 - (p2 - p1) = t := ht.symm
 have hs' := hu.symm
 have ho' := ht.symm
 rw [← hu] at r1
 rw [← ht] at r2
 unfold vc_ref01_Delay
 refine lt_i fun x1 g1 => ?_
 rw [wi (by omega)] at g1
 subst g1
 refine ⟨by omega, lt_i fun x2 g2 => lt_i fun x3 g3 => lt_i fun x4 g4 => ?_⟩
 rw [wi (by omega)] at g2
 subst g2
 rw [wi (by omega)] at g3
 subst g3
 rw [hs, ho] at *
 rw [wi (by omega)] at g4
 subst g4
 have eC : canB (⟨c0, c1⟩ : Cab) (⟨p0, p1, p2, p3⟩ : Png) = decide (t + u ≥ 0) := by unfold canB; rw [hs', ho']
 refine cond_i (fun h => ?_) (fun h => lt_i fun x5 g5 => lt_i fun x6 g6 => ⟨?_, lt_i fun x7 g7 => lt_i fun x8 g8 => lt_i fun x9 g9 => lt_i fun x10 g10 => ⟨?_, lt_i fun x11 g11 => ?_⟩⟩)
 ·have h := of_decide_eq_true h
  have e : canB (⟨c0, c1⟩ : Cab) (⟨p0, p1, p2, p3⟩ : Png) = false := by rw [eC]; exact decide_eq_false (by omega)
  unfold dlK
  rw [e]
  exact LeD.refl _
 all_goals
  have h := of_decide_eq_false h
  rw [wi (by omega)] at g5
  subst g5
  rw [wi (by omega)] at g6
  subst g6
 ·omega
 all_goals
  rw [wi (by omega)] at g8 g9
  subst g8 g9
  rw [wi (by omega)] at g10
  subst g10
 ·omega
 rw [mx_if] at g7
 rw [mn_if] at g11
 subst g7 g11
 have e : canB (⟨c0, c1⟩ : Cab) (⟨p0, p1, p2, p3⟩ : Png) = true := by rw [eC]; exact decide_eq_true (by omega)
 unfold dlK
 rw [e, if_pos rfl]
 unfold dlR Cab.dlo Cab.dhi
 rw [hs', ho', Int.max_comm, Int.min_comm]
 exact LeD.refl _
def con_ref01_Delay : Con := fun args => match args with
 | [.t (.a [.v (.int .i64 c0), .v (.int .i64 c1)]), .t (.a [.v (.int .i64 p0), .v (.int .i64 p1), .v (.int .i64 p2), .v (.int .i64 p3)])] => some (.tu [.a [.v (.int .i64 ((dlK (⟨c0, c1⟩ : Cab) (⟨p0, p1, p2, p3⟩ : Png)).lo)), .v (.int .i64 ((dlK (⟨c0, c1⟩ : Cab) (⟨p0, p1, p2, p3⟩ : Png)).hi))], .c (.v (.bool (canB (⟨c0, c1⟩ : Cab) (⟨p0, p1, p2, p3⟩ : Png))))], some (delOk (⟨c0, c1⟩ : Cab) (⟨p0, p1, p2, p3⟩ : Png)), false)
 | _ => none
theorem ok_ref01_Delay : Ok Try.prog 60 con_ref01_Delay := by
 refine Ok.fn (ann := ann_ref01_Delay) mixed tabOK VS21 ValidIt.no (fn := Try.f60) (by kernel_rfl) (by kernel_rfl) fit_ref01_Delay fun args r pre fresh h hp => ?_
 unfold con_ref01_Delay at h
 split at h
 ·rename_i c0 c1 p0 p1 p2 p3
  cases h
  refine ⟨rfl, fun _ _ _ => False, _, LeA.refl _, Nat.le_of_ble_eq_true (by kernel_rfl), ?_, ?_⟩
  ·rw [ev_ref01_Delay]; exact spec_ref01_Delay c0 c1 p0 p1 p2 p3 hp
  ·rw [lp_ref01_Delay]; trivial
 ·cases h
def S22 : Sum := addS S21 60 con_ref01_Delay
theorem VS22 : Valid Try.prog S22 := Valid.add VS21 ok_ref01_Delay
def vc_ref01_Time (c0 c1 : Int) (p0 p1 p2 p3 : Int) (post : DV → Prop) : Prop := (delOk (⟨c0, c1⟩ : Cab) (⟨p0, p1, p2, p3⟩ : Png)) ∧ (cond (!(canB (⟨c0, c1⟩ : Cab) (⟨p0, p1, p2, p3⟩ : Png))) (post (.tu [.a [.v (.int .i64 0), .v (.int .i64 0)], .c (.v (.bool false))])) (lt (IntKind.i64.wrap (p0 + ((dlK (⟨c0, c1⟩ : Cab) (⟨p0, p1, p2, p3⟩ : Png)).lo))) fun x1 => lt (IntKind.i64.wrap (p0 + ((dlK (⟨c0, c1⟩ : Cab) (⟨p0, p1, p2, p3⟩ : Png)).hi))) fun x2 => post (.tu [.a [.v (.int .i64 x1), .v (.int .i64 x2)], .c (.v (.bool true))])))
def ann_ref01_Time : Ann := ⟨fun _ => none, fun _ => none, fun _ => [], noIt, false, fun _ => none, fun _ => none⟩
theorem ev_ref01_Time (J : Inv) (c0 c1 : Int) (p0 p1 p2 p3 : Int) (post : DV → Prop) : evFn Try.prog tab S22 ann_ref01_Time J Try.f61 [.t (.a [.v (.int .i64 c0), .v (.int .i64 c1)]), .t (.a [.v (.int .i64 p0), .v (.int .i64 p1), .v (.int .i64 p2), .v (.int .i64 p3)])] post = vc_ref01_Time c0 c1 p0 p1 p2 p3 post := by kernel_rfl
theorem fit_ref01_Time : okFn ann_ref01_Time Try.f61 = true := by kernel_rfl
theorem lp_ref01_Time (J : Inv) (post : DV → Prop) : AllG J (loopsFn Try.prog tab S22 ann_ref01_Time J Try.f61 post) = (True) := by kernel_rfl
theorem spec_ref01_Time (c0 c1 : Int) (p0 p1 p2 p3 : Int) (hp : delOk (⟨c0, c1⟩ : Cab) (⟨p0, p1, p2, p3⟩ : Png)) : vc_ref01_Time c0 c1 p0 p1 p2 p3 (fun r => LeD r (.tu [.a [.v (.int .i64 ((tmK (⟨c0, c1⟩ : Cab) (⟨p0, p1, p2, p3⟩ : Png)).lo)), .v (.int .i64 ((tmK (⟨c0, c1⟩ : Cab) (⟨p0, p1, p2, p3⟩ : Png)).hi))], .c (.v (.bool (canB (⟨c0, c1⟩ : Cab) (⟨p0, p1, p2, p3⟩ : Png))))])) := by
 have r := del_rg hp
 have hq := hp.2
 unfold pngOk at hq
 simp only at hq
 unfold vc_ref01_Time tmK
 refine ⟨hp, cond_i (fun h => ?_) (fun h => lt_i fun x1 g1 => lt_i fun x2 g2 => ?_)⟩
 ·have e : canB (⟨c0, c1⟩ : Cab) (⟨p0, p1, p2, p3⟩ : Png) = false := by simpa using h
  rw [e]; exact LeD.refl _
 ·have e : canB (⟨c0, c1⟩ : Cab) (⟨p0, p1, p2, p3⟩ : Png) = true := by simpa using h
  rw [show dlK (⟨c0, c1⟩ : Cab) (⟨p0, p1, p2, p3⟩ : Png) = dlR (⟨c0, c1⟩ : Cab) (⟨p0, p1, p2, p3⟩ : Png) by unfold dlK; rw [e]; rfl] at g1 g2
  rw [show (dlR (⟨c0, c1⟩ : Cab) (⟨p0, p1, p2, p3⟩ : Png)).lo = ((⟨c0, c1⟩ : Cab)).dlo (⟨p0, p1, p2, p3⟩ : Png) from rfl, wi (by omega)] at g1
  rw [show (dlR (⟨c0, c1⟩ : Cab) (⟨p0, p1, p2, p3⟩ : Png)).hi = ((⟨c0, c1⟩ : Cab)).dhi (⟨p0, p1, p2, p3⟩ : Png) from rfl, wi (by omega)] at g2
  subst g1 g2
  rw [e]; exact LeD.refl _
def con_ref01_Time : Con := fun args => match args with
 | [.t (.a [.v (.int .i64 c0), .v (.int .i64 c1)]), .t (.a [.v (.int .i64 p0), .v (.int .i64 p1), .v (.int .i64 p2), .v (.int .i64 p3)])] => some (.tu [.a [.v (.int .i64 ((tmK (⟨c0, c1⟩ : Cab) (⟨p0, p1, p2, p3⟩ : Png)).lo)), .v (.int .i64 ((tmK (⟨c0, c1⟩ : Cab) (⟨p0, p1, p2, p3⟩ : Png)).hi))], .c (.v (.bool (canB (⟨c0, c1⟩ : Cab) (⟨p0, p1, p2, p3⟩ : Png))))], some (delOk (⟨c0, c1⟩ : Cab) (⟨p0, p1, p2, p3⟩ : Png)), false)
 | _ => none
theorem ok_ref01_Time : Ok Try.prog 61 con_ref01_Time := by
 refine Ok.fn (ann := ann_ref01_Time) mixed tabOK VS22 ValidIt.no (fn := Try.f61) (by kernel_rfl) (by kernel_rfl) fit_ref01_Time fun args r pre fresh h hp => ?_
 unfold con_ref01_Time at h
 split at h
 ·rename_i c0 c1 p0 p1 p2 p3
  cases h
  refine ⟨rfl, fun _ _ _ => False, _, LeA.refl _, Nat.le_of_ble_eq_true (by kernel_rfl), ?_, ?_⟩
  ·rw [ev_ref01_Time]; exact spec_ref01_Time c0 c1 p0 p1 p2 p3 hp
  ·rw [lp_ref01_Time]; trivial
 ·cases h
def S23 : Sum := addS S22 61 con_ref01_Time
theorem VS23 : Valid Try.prog S23 := Valid.add VS22 ok_ref01_Time
def vc_clock_plus (r0 r1 : Int) (n : Int) (post : DV → Prop) : Prop := lt (IntKind.i64.wrap (r0 + n)) fun x1 => lt (IntKind.i64.wrap (r1 + n)) fun x2 => post (.t (.a [.v (.int .i64 x1), .v (.int .i64 x2)]))
def ann_clock_plus : Ann := ⟨fun _ => none, fun _ => none, fun _ => [], noIt, false, fun _ => none, fun _ => none⟩
theorem ev_clock_plus (J : Inv) (r0 r1 : Int) (n : Int) (post : DV → Prop) : evFn Try.prog tab S23 ann_clock_plus J Try.f107 [.t (.a [.v (.int .i64 r0), .v (.int .i64 r1)]), .t (.c (.v (.int .i64 n)))] post = vc_clock_plus r0 r1 n post := by kernel_rfl
theorem fit_clock_plus : okFn ann_clock_plus Try.f107 = true := by kernel_rfl
theorem lp_clock_plus (J : Inv) (post : DV → Prop) : AllG J (loopsFn Try.prog tab S23 ann_clock_plus J Try.f107 post) = (True) := by kernel_rfl
theorem spec_clock_plus (r0 r1 : Int) (n : Int) (hp : rgB (⟨r0, r1⟩ : Rg) ∧ -9000000000000 ≤ n ∧ n ≤ 9000000000000) : vc_clock_plus r0 r1 n (fun r => LeD r (.t (.a [.v (.int .i64 (r0 + n)), .v (.int .i64 (r1 + n))]))) := by
 obtain ⟨⟨a1, a2⟩, a3⟩ := hp
 simp only at a1 a2
 unfold vc_clock_plus
 refine lt_i fun x1 g1 => lt_i fun x2 g2 => ?_
 rw [wi (by omega)] at g1 g2
 subst g1 g2
 exact LeD.refl _
def con_clock_plus : Con := fun args => match args with
 | [.t (.a [.v (.int .i64 r0), .v (.int .i64 r1)]), .t (.c (.v (.int .i64 n)))] => some (.t (.a [.v (.int .i64 (r0 + n)), .v (.int .i64 (r1 + n))]), some (rgB (⟨r0, r1⟩ : Rg) ∧ -9000000000000 ≤ n ∧ n ≤ 9000000000000), false)
 | _ => none
theorem ok_clock_plus : Ok Try.prog 107 con_clock_plus := by
 refine Ok.fn (ann := ann_clock_plus) mixed tabOK VS23 ValidIt.no (fn := Try.f107) (by kernel_rfl) (by kernel_rfl) fit_clock_plus fun args r pre fresh h hp => ?_
 unfold con_clock_plus at h
 split at h
 ·rename_i r0 r1 n
  cases h
  refine ⟨rfl, fun _ _ _ => False, _, LeA.refl _, Nat.le_of_ble_eq_true (by kernel_rfl), ?_, ?_⟩
  ·rw [ev_clock_plus]; exact spec_clock_plus r0 r1 n hp
  ·rw [lp_clock_plus]; trivial
 ·cases h
def S24 : Sum := addS S23 107 con_clock_plus
theorem VS24 : Valid Try.prog S24 := Valid.add VS23 ok_clock_plus
def vc_clock_wider (r0 r1 : Int) (n : Int) (post : DV → Prop) : Prop := lt (IntKind.i64.wrap (r0 - n)) fun x1 => lt (IntKind.i64.wrap (r1 + n)) fun x2 => post (.t (.a [.v (.int .i64 x1), .v (.int .i64 x2)]))
def ann_clock_wider : Ann := ⟨fun _ => none, fun _ => none, fun _ => [], noIt, false, fun _ => none, fun _ => none⟩
theorem ev_clock_wider (J : Inv) (r0 r1 : Int) (n : Int) (post : DV → Prop) : evFn Try.prog tab S24 ann_clock_wider J Try.f135 [.t (.a [.v (.int .i64 r0), .v (.int .i64 r1)]), .t (.c (.v (.int .i64 n)))] post = vc_clock_wider r0 r1 n post := by kernel_rfl
theorem fit_clock_wider : okFn ann_clock_wider Try.f135 = true := by kernel_rfl
theorem lp_clock_wider (J : Inv) (post : DV → Prop) : AllG J (loopsFn Try.prog tab S24 ann_clock_wider J Try.f135 post) = (True) := by kernel_rfl
theorem spec_clock_wider (r0 r1 : Int) (n : Int) (hp : rgB (⟨r0, r1⟩ : Rg) ∧ -9000000000000 ≤ n ∧ n ≤ 9000000000000) : vc_clock_wider r0 r1 n (fun r => LeD r (.t (.a [.v (.int .i64 (r0 - n)), .v (.int .i64 (r1 + n))]))) := by
 obtain ⟨⟨a1, a2⟩, a3⟩ := hp
 simp only at a1 a2
 unfold vc_clock_wider
 refine lt_i fun x1 g1 => lt_i fun x2 g2 => ?_
 rw [wi (by omega)] at g1 g2
 subst g1 g2
 exact LeD.refl _
def con_clock_wider : Con := fun args => match args with
 | [.t (.a [.v (.int .i64 r0), .v (.int .i64 r1)]), .t (.c (.v (.int .i64 n)))] => some (.t (.a [.v (.int .i64 (r0 - n)), .v (.int .i64 (r1 + n))]), some (rgB (⟨r0, r1⟩ : Rg) ∧ -9000000000000 ≤ n ∧ n ≤ 9000000000000), false)
 | _ => none
theorem ok_clock_wider : Ok Try.prog 135 con_clock_wider := by
 refine Ok.fn (ann := ann_clock_wider) mixed tabOK VS24 ValidIt.no (fn := Try.f135) (by kernel_rfl) (by kernel_rfl) fit_clock_wider fun args r pre fresh h hp => ?_
 unfold con_clock_wider at h
 split at h
 ·rename_i r0 r1 n
  cases h
  refine ⟨rfl, fun _ _ _ => False, _, LeA.refl _, Nat.le_of_ble_eq_true (by kernel_rfl), ?_, ?_⟩
  ·rw [ev_clock_wider]; exact spec_clock_wider r0 r1 n hp
  ·rw [lp_clock_wider]; trivial
 ·cases h
def S25 : Sum := addS S24 135 con_clock_wider
theorem VS25 : Valid Try.prog S25 := Valid.add VS24 ok_clock_wider
def vc_clock_common (r0 r1 : Int) (q0 q1 : Int) (post : DV → Prop) : Prop := lt ((if q0 > r0 then q0 else r0)) fun x1 => lt ((if q1 < r1 then q1 else r1)) fun x2 => post (.t (.a [.v (.int .i64 x1), .v (.int .i64 x2)]))
def ann_clock_common : Ann := ⟨fun _ => none, fun _ => none, fun _ => [], noIt, false, fun _ => none, fun _ => none⟩
theorem ev_clock_common (J : Inv) (r0 r1 : Int) (q0 q1 : Int) (post : DV → Prop) : evFn Try.prog tab S25 ann_clock_common J Try.f129 [.t (.a [.v (.int .i64 r0), .v (.int .i64 r1)]), .t (.a [.v (.int .i64 q0), .v (.int .i64 q1)])] post = vc_clock_common r0 r1 q0 q1 post := by kernel_rfl
theorem fit_clock_common : okFn ann_clock_common Try.f129 = true := by kernel_rfl
theorem lp_clock_common (J : Inv) (post : DV → Prop) : AllG J (loopsFn Try.prog tab S25 ann_clock_common J Try.f129 post) = (True) := by kernel_rfl
theorem spec_clock_common (r0 r1 : Int) (q0 q1 : Int) : vc_clock_common r0 r1 q0 q1 (fun r => LeD r (.t (.a [.v (.int .i64 ((meetR (⟨r0, r1⟩ : Rg) (⟨q0, q1⟩ : Rg)).lo)), .v (.int .i64 ((meetR (⟨r0, r1⟩ : Rg) (⟨q0, q1⟩ : Rg)).hi))]))) := by
 unfold vc_clock_common
 refine lt_i fun x1 g1 => lt_i fun x2 g2 => ?_
 rw [mx_if] at g1
 rw [mn_if] at g2
 subst g1 g2
 exact LeD.refl _
def con_clock_common : Con := fun args => match args with
 | [.t (.a [.v (.int .i64 r0), .v (.int .i64 r1)]), .t (.a [.v (.int .i64 q0), .v (.int .i64 q1)])] => some (.t (.a [.v (.int .i64 ((meetR (⟨r0, r1⟩ : Rg) (⟨q0, q1⟩ : Rg)).lo)), .v (.int .i64 ((meetR (⟨r0, r1⟩ : Rg) (⟨q0, q1⟩ : Rg)).hi))]), none, false)
 | _ => none
theorem ok_clock_common : Ok Try.prog 129 con_clock_common := by
 refine Ok.fn (ann := ann_clock_common) mixed tabOK VS25 ValidIt.no (fn := Try.f129) (by kernel_rfl) (by kernel_rfl) fit_clock_common fun args r pre fresh h hp => ?_
 unfold con_clock_common at h
 split at h
 ·rename_i r0 r1 q0 q1
  cases h
  refine ⟨rfl, fun _ _ _ => False, _, LeA.refl _, Nat.le_of_ble_eq_true (by kernel_rfl), ?_, ?_⟩
  ·rw [ev_clock_common]; exact spec_clock_common r0 r1 q0 q1
  ·rw [lp_clock_common]; trivial
 ·cases h
def S26 : Sum := addS S25 129 con_clock_common
theorem VS26 : Valid Try.prog S26 := Valid.add VS25 ok_clock_common
def vc_ref01_isApart (r0 r1 : Int) (q0 q1 : Int) (post : DV → Prop) : Prop := cond (decide (r1 < q0)) ((true = true) ∧ (post (.t (.c (.v (.bool true)))))) (post (.t (.c (.v (.bool (decide (q1 < r0)))))))
def ann_ref01_isApart : Ann := ⟨fun _ => none, fun _ => none, fun _ => [], noIt, false, fun _ => none, fun _ => none⟩
theorem ev_ref01_isApart (J : Inv) (r0 r1 : Int) (q0 q1 : Int) (post : DV → Prop) : evFn Try.prog tab S26 ann_ref01_isApart J Try.f102 [.t (.a [.v (.int .i64 r0), .v (.int .i64 r1)]), .t (.a [.v (.int .i64 q0), .v (.int .i64 q1)])] post = vc_ref01_isApart r0 r1 q0 q1 post := by kernel_rfl
theorem fit_ref01_isApart : okFn ann_ref01_isApart Try.f102 = true := by kernel_rfl
theorem lp_ref01_isApart (J : Inv) (post : DV → Prop) : AllG J (loopsFn Try.prog tab S26 ann_ref01_isApart J Try.f102 post) = (True) := by kernel_rfl
theorem spec_ref01_isApart (r0 r1 : Int) (q0 q1 : Int) : vc_ref01_isApart r0 r1 q0 q1 (fun r => LeD r (.t (.c (.v (.bool (decide (r1 < q0) || decide (q1 < r0))))))) := by
 unfold vc_ref01_isApart
 refine cond_i (fun h => ⟨rfl, leB (by rw [h]; rfl)⟩) (fun h => leB (by rw [h]; rfl))
def con_ref01_isApart : Con := fun args => match args with
 | [.t (.a [.v (.int .i64 r0), .v (.int .i64 r1)]), .t (.a [.v (.int .i64 q0), .v (.int .i64 q1)])] => some (.t (.c (.v (.bool (decide (r1 < q0) || decide (q1 < r0))))), none, false)
 | _ => none
theorem ok_ref01_isApart : Ok Try.prog 102 con_ref01_isApart := by
 refine Ok.fn (ann := ann_ref01_isApart) mixed tabOK VS26 ValidIt.no (fn := Try.f102) (by kernel_rfl) (by kernel_rfl) fit_ref01_isApart fun args r pre fresh h hp => ?_
 unfold con_ref01_isApart at h
 split at h
 ·rename_i r0 r1 q0 q1
  cases h
  refine ⟨rfl, fun _ _ _ => False, _, LeA.refl _, Nat.le_of_ble_eq_true (by kernel_rfl), ?_, ?_⟩
  ·rw [ev_ref01_isApart]; exact spec_ref01_isApart r0 r1 q0 q1
  ·rw [lp_ref01_isApart]; trivial
 ·cases h
def S27 : Sum := addS S26 102 con_ref01_isApart
theorem VS27 : Valid Try.prog S27 := Valid.add VS26 ok_ref01_isApart
def vc_clock_DelayOf (c0 c1 : Int) (p0 p1 p2 p3 : Int) (post : DV → Prop) : Prop := (numsP 1 2 (genC [[.v (.int .i64 (cabE (⟨c0, c1⟩ : Cab)))], [.v (.int .i64 (pngE (⟨p0, p1, p2, p3⟩ : Png)))]]) ∧ (([(cabE (⟨c0, c1⟩ : Cab)), (pngE (⟨p0, p1, p2, p3⟩ : Png))] : List Int)).length ≤ 100) ∧ (cond ((firstNZ ([(cabE (⟨c0, c1⟩ : Cab)), (pngE (⟨p0, p1, p2, p3⟩ : Png))] : List Int)) != (0 : Int)) (post (.tu [.a [.v (.int .i64 0), .v (.int .i64 0)], .c (.v (.int .i64 (firstNZ ([(cabE (⟨c0, c1⟩ : Cab)), (pngE (⟨p0, p1, p2, p3⟩ : Png))] : List Int))))])) ((delOk (⟨c0, c1⟩ : Cab) (⟨p0, p1, p2, p3⟩ : Png)) ∧ (cond (!(canB (⟨c0, c1⟩ : Cab) (⟨p0, p1, p2, p3⟩ : Png))) (post (.tu [.a [.v (.int .i64 0), .v (.int .i64 0)], .c (.v (.int .i64 13))])) (post (.tu [.a [.v (.int .i64 ((dlR (⟨c0, c1⟩ : Cab) (⟨p0, p1, p2, p3⟩ : Png)).lo)), .v (.int .i64 ((dlR (⟨c0, c1⟩ : Cab) (⟨p0, p1, p2, p3⟩ : Png)).hi))], .c (.v (.int .i64 0))])))))
def ann_clock_DelayOf : Ann := ⟨fun r => lookA r [(1, ([[], [0], [], [0, 1, 2], [0, 1, 2, 3], [0, 1, 2, 3, 4], [0, 1, 2, 3, 4, 5]], [[10, 12, 13, 14], [12, 13, 14], [10, 12, 13, 14], [13, 14], [14], [], []]))], fun _ => none, fun _ => [], noIt, false, fun _ => none, fun _ => none⟩
theorem ev_clock_DelayOf (J : Inv) (c0 c1 : Int) (p0 p1 p2 p3 : Int) (post : DV → Prop) : evFn Try.prog tab S27 ann_clock_DelayOf J Try.f55 [.t (.a [.v (.int .i64 c0), .v (.int .i64 c1)]), .t (.a [.v (.int .i64 p0), .v (.int .i64 p1), .v (.int .i64 p2), .v (.int .i64 p3)])] post = vc_clock_DelayOf c0 c1 p0 p1 p2 p3 post := by kernel_rfl
theorem fit_clock_DelayOf : okFn ann_clock_DelayOf Try.f55 = true := by kernel_rfl
theorem lp_clock_DelayOf (J : Inv) (post : DV → Prop) : AllG J (loopsFn Try.prog tab S27 ann_clock_DelayOf J Try.f55 post) = (True) := by kernel_rfl
theorem spec_clock_DelayOf (c0 c1 : Int) (p0 p1 p2 p3 : Int) : vc_clock_DelayOf c0 c1 p0 p1 p2 p3 (fun r => LeD r (.tu [.a [.v (.int .i64 ((dlV (⟨c0, c1⟩ : Cab) (⟨p0, p1, p2, p3⟩ : Png)).lo)), .v (.int .i64 ((dlV (⟨c0, c1⟩ : Cab) (⟨p0, p1, p2, p3⟩ : Png)).hi))], .c (.v (.int .i64 (dlE (⟨c0, c1⟩ : Cab) (⟨p0, p1, p2, p3⟩ : Png))))])) := by
 unfold vc_clock_DelayOf
 refine ⟨⟨numsP_gen [_, _], Nat.le_of_ble_eq_true rfl⟩, cond_i (fun h => ?_) (fun h => ?_)⟩
 ·have h : cpE (⟨c0, c1⟩ : Cab) (⟨p0, p1, p2, p3⟩ : Png) ≠ 0 := by unfold cpE; simpa using h
  have e : dlE (⟨c0, c1⟩ : Cab) (⟨p0, p1, p2, p3⟩ : Png) = cpE (⟨c0, c1⟩ : Cab) (⟨p0, p1, p2, p3⟩ : Png) := if_neg h
  rw [show dlV (⟨c0, c1⟩ : Cab) (⟨p0, p1, p2, p3⟩ : Png) = ⟨0, 0⟩ from if_neg (by rw [e]; exact h), e]
  exact LeD.refl _
 ·have h : cpE (⟨c0, c1⟩ : Cab) (⟨p0, p1, p2, p3⟩ : Png) = 0 := by unfold cpE; simpa using h
  have e : dlE (⟨c0, c1⟩ : Cab) (⟨p0, p1, p2, p3⟩ : Png) = unl (canB (⟨c0, c1⟩ : Cab) (⟨p0, p1, p2, p3⟩ : Png)) 13 := if_pos h
  refine ⟨cpE_0.1 h, cond_i (fun g => ?_) (fun g => ?_)⟩
  ·have g : canB (⟨c0, c1⟩ : Cab) (⟨p0, p1, p2, p3⟩ : Png) = false := by simpa using g
   rw [g] at e
   rw [show dlV (⟨c0, c1⟩ : Cab) (⟨p0, p1, p2, p3⟩ : Png) = ⟨0, 0⟩ from if_neg (by rw [e]; decide), e]
   exact LeD.refl _
  ·have g : canB (⟨c0, c1⟩ : Cab) (⟨p0, p1, p2, p3⟩ : Png) = true := by simpa using g
   rw [g] at e
   rw [show dlV (⟨c0, c1⟩ : Cab) (⟨p0, p1, p2, p3⟩ : Png) = dlR (⟨c0, c1⟩ : Cab) (⟨p0, p1, p2, p3⟩ : Png) from if_pos e, e]
   exact LeD.refl _
def con_clock_DelayOf : Con := fun args => match args with
 | [.t (.a [.v (.int .i64 c0), .v (.int .i64 c1)]), .t (.a [.v (.int .i64 p0), .v (.int .i64 p1), .v (.int .i64 p2), .v (.int .i64 p3)])] => some (.tu [.a [.v (.int .i64 ((dlV (⟨c0, c1⟩ : Cab) (⟨p0, p1, p2, p3⟩ : Png)).lo)), .v (.int .i64 ((dlV (⟨c0, c1⟩ : Cab) (⟨p0, p1, p2, p3⟩ : Png)).hi))], .c (.v (.int .i64 (dlE (⟨c0, c1⟩ : Cab) (⟨p0, p1, p2, p3⟩ : Png))))], none, false)
 | _ => none
theorem ok_clock_DelayOf : Ok Try.prog 55 con_clock_DelayOf := by
 refine Ok.fn (ann := ann_clock_DelayOf) mixed tabOK VS27 ValidIt.no (fn := Try.f55) (by kernel_rfl) (by kernel_rfl) fit_clock_DelayOf fun args r pre fresh h hp => ?_
 unfold con_clock_DelayOf at h
 split at h
 ·rename_i c0 c1 p0 p1 p2 p3
  cases h
  refine ⟨rfl, fun _ _ _ => False, _, LeA.refl _, Nat.le_of_ble_eq_true (by kernel_rfl), ?_, ?_⟩
  ·rw [ev_clock_DelayOf]; exact spec_clock_DelayOf c0 c1 p0 p1 p2 p3
  ·rw [lp_clock_DelayOf]; trivial
 ·cases h
def S28 : Sum := addS S27 55 con_clock_DelayOf
theorem VS28 : Valid Try.prog S28 := Valid.add VS27 ok_clock_DelayOf
def vc_clock_TimeOf (c0 c1 : Int) (p0 p1 p2 p3 : Int) (post : DV → Prop) : Prop := cond ((dlE (⟨c0, c1⟩ : Cab) (⟨p0, p1, p2, p3⟩ : Png)) != (0 : Int)) (post (.tu [.a [.v (.int .i64 0), .v (.int .i64 0)], .c (.v (.int .i64 (dlE (⟨c0, c1⟩ : Cab) (⟨p0, p1, p2, p3⟩ : Png))))])) ((rgB (dlV (⟨c0, c1⟩ : Cab) (⟨p0, p1, p2, p3⟩ : Png)) ∧ -9000000000000 ≤ p0 ∧ p0 ≤ 9000000000000) ∧ (post (.tu [.a [.v (.int .i64 (((dlV (⟨c0, c1⟩ : Cab) (⟨p0, p1, p2, p3⟩ : Png)).lo) + p0)), .v (.int .i64 (((dlV (⟨c0, c1⟩ : Cab) (⟨p0, p1, p2, p3⟩ : Png)).hi) + p0))], .c (.v (.int .i64 0))])))
def ann_clock_TimeOf : Ann := ⟨fun _ => none, fun _ => none, fun _ => [], noIt, false, fun _ => none, fun _ => none⟩
theorem ev_clock_TimeOf (J : Inv) (c0 c1 : Int) (p0 p1 p2 p3 : Int) (post : DV → Prop) : evFn Try.prog tab S28 ann_clock_TimeOf J Try.f56 [.t (.a [.v (.int .i64 c0), .v (.int .i64 c1)]), .t (.a [.v (.int .i64 p0), .v (.int .i64 p1), .v (.int .i64 p2), .v (.int .i64 p3)])] post = vc_clock_TimeOf c0 c1 p0 p1 p2 p3 post := by kernel_rfl
theorem fit_clock_TimeOf : okFn ann_clock_TimeOf Try.f56 = true := by kernel_rfl
theorem lp_clock_TimeOf (J : Inv) (post : DV → Prop) : AllG J (loopsFn Try.prog tab S28 ann_clock_TimeOf J Try.f56 post) = (True) := by kernel_rfl
theorem spec_clock_TimeOf (c0 c1 : Int) (p0 p1 p2 p3 : Int) : vc_clock_TimeOf c0 c1 p0 p1 p2 p3 (fun r => LeD r (.tu [.a [.v (.int .i64 ((tmV (⟨c0, c1⟩ : Cab) (⟨p0, p1, p2, p3⟩ : Png)).lo)), .v (.int .i64 ((tmV (⟨c0, c1⟩ : Cab) (⟨p0, p1, p2, p3⟩ : Png)).hi))], .c (.v (.int .i64 (dlE (⟨c0, c1⟩ : Cab) (⟨p0, p1, p2, p3⟩ : Png))))])) := by
 unfold vc_clock_TimeOf
 refine cond_i (fun h => ?_) (fun h => ?_)
 ·have h : dlE (⟨c0, c1⟩ : Cab) (⟨p0, p1, p2, p3⟩ : Png) ≠ 0 := by simpa using h
  rw [show tmV (⟨c0, c1⟩ : Cab) (⟨p0, p1, p2, p3⟩ : Png) = ⟨0, 0⟩ from if_neg h]
  exact LeD.refl _
 ·have h : dlE (⟨c0, c1⟩ : Cab) (⟨p0, p1, p2, p3⟩ : Png) = 0 := by simpa using h
  have hd := dlE_0 h
  have r := del_rg hd.1
  have hq := hd.1.2
  unfold pngOk at hq
  simp only at hq
  rw [show tmV (⟨c0, c1⟩ : Cab) (⟨p0, p1, p2, p3⟩ : Png) = tmR (⟨c0, c1⟩ : Cab) (⟨p0, p1, p2, p3⟩ : Png) from if_pos h, show dlV (⟨c0, c1⟩ : Cab) (⟨p0, p1, p2, p3⟩ : Png) = dlR (⟨c0, c1⟩ : Cab) (⟨p0, p1, p2, p3⟩ : Png) from if_pos h, h, Int.add_comm, Int.add_comm _ p0]
  refine ⟨?_, LeD.refl _⟩
  unfold rgB dlR
  simp only
  omega
def con_clock_TimeOf : Con := fun args => match args with
 | [.t (.a [.v (.int .i64 c0), .v (.int .i64 c1)]), .t (.a [.v (.int .i64 p0), .v (.int .i64 p1), .v (.int .i64 p2), .v (.int .i64 p3)])] => some (.tu [.a [.v (.int .i64 ((tmV (⟨c0, c1⟩ : Cab) (⟨p0, p1, p2, p3⟩ : Png)).lo)), .v (.int .i64 ((tmV (⟨c0, c1⟩ : Cab) (⟨p0, p1, p2, p3⟩ : Png)).hi))], .c (.v (.int .i64 (dlE (⟨c0, c1⟩ : Cab) (⟨p0, p1, p2, p3⟩ : Png))))], none, false)
 | _ => none
theorem ok_clock_TimeOf : Ok Try.prog 56 con_clock_TimeOf := by
 refine Ok.fn (ann := ann_clock_TimeOf) mixed tabOK VS28 ValidIt.no (fn := Try.f56) (by kernel_rfl) (by kernel_rfl) fit_clock_TimeOf fun args r pre fresh h hp => ?_
 unfold con_clock_TimeOf at h
 split at h
 ·rename_i c0 c1 p0 p1 p2 p3
  cases h
  refine ⟨rfl, fun _ _ _ => False, _, LeA.refl _, Nat.le_of_ble_eq_true (by kernel_rfl), ?_, ?_⟩
  ·rw [ev_clock_TimeOf]; exact spec_clock_TimeOf c0 c1 p0 p1 p2 p3
  ·rw [lp_clock_TimeOf]; trivial
 ·cases h
def S29 : Sum := addS S28 56 con_clock_TimeOf
theorem VS29 : Valid Try.prog S29 := Valid.add VS28 ok_clock_TimeOf
end Go.Proofs.Ytkifmfmenobhnaa