/- Texts of this claim, together. -/
import Derived.Test.YtlapeoboekchpaaGreatDoorTS4
import Derived.Test.YtlapeoboekchpaaGreatDoorTS5

set_option linter.unusedVariables false
set_option linter.unusedSimpArgs false
namespace Go.Proofs.YtlapeoboekchpaaGreatDoor
open Go.RowKit Ev
def rgB (r : Rg) : Prop := (-18000000000000 ≤ r.lo ∧ r.lo ≤ 18000000000000) ∧ -18000000000000 ≤ r.hi ∧ r.hi ≤ 18000000000000
theorem tdiv_rg {d : Int} (n : Int) (h : 0 < d) : (Int.tdiv n d).natAbs ≤ n.natAbs := Int.natAbs_tdiv_le_natAbs n d
theorem ediv_rg {d : Int} (n : Int) (h : 0 < d) : (n / d).natAbs ≤ n.natAbs := by
 rcases Int.le_total 0 n with q | q
 ·have h1 := Int.ediv_nonneg q (Int.le_of_lt h)
  have h2 := Int.ediv_le_self d q
  omega
 ·have h1 : n ≤ n / d := by
   rw [Int.le_ediv_iff_mul_le h]
   have := Int.mul_nonneg (show 0 ≤ -n by omega) (show 0 ≤ d - 1 by omega)
   rw [Int.neg_mul, Int.mul_sub] at this
   omega
  have h2 : n / d ≤ 0 := by
   have := Int.ediv_le_ediv h q
   rwa [Int.zero_ediv] at this
  omega
theorem fl_eq {d : Int} (n : Int) (h : 0 < d) : (if Int.tmod n d < 0 then Int.tdiv n d - 1 else Int.tdiv n d) = n / d := by
 rcases Int.le_total 0 n with q | q
 ·rw [if_neg (by have := Int.tmod_nonneg d q; omega), Int.tdiv_eq_ediv_of_nonneg q]
 ·obtain ⟨m, rfl⟩ : ∃ m : Int, n = -m := ⟨-n, by omega⟩
  have hm : 0 ≤ m := by omega
  rw [Int.neg_tmod, Int.neg_tdiv, Int.tdiv_eq_ediv_of_nonneg hm, Int.tmod_eq_emod_of_nonneg hm, Int.neg_ediv]
  have := Int.emod_nonneg m (show d ≠ 0 by omega)
  by_cases e : d ∣ m
  ·rw [if_pos e, if_neg (by have := Int.emod_eq_zero_of_dvd e; omega)]; omega
  ·rw [if_neg e, Int.sign_eq_one_of_pos h, if_pos (by
    have : m % d ≠ 0 := fun g => e (Int.dvd_of_emod_eq_zero g)
    omega)]
def vc_base_Within (a : Int) (b : Int) (c : Int) (post : DV → Prop) : Prop := cond (decide (b ≤ a)) (post (.t (.c (.v (.bool (decide (a ≤ c))))))) ((false = false) ∧ (post (.t (.c (.v (.bool false))))))
def ann_base_Within : Ann := ⟨fun _ => none, fun _ => none, fun _ => [], noIt, false, fun _ => none, fun _ => none⟩
theorem ev_base_Within (J : Inv) (a : Int) (b : Int) (c : Int) (post : DV → Prop) : evFn Tryz.prog tab noS ann_base_Within J Tryz.f22 [.t (.c (.v (.int .i64 a))), .t (.c (.v (.int .i64 b))), .t (.c (.v (.int .i64 c)))] post = vc_base_Within a b c post := by kernel_rfl
theorem fit_base_Within : okFn ann_base_Within Tryz.f22 = true := by kernel_rfl
theorem lp_base_Within (J : Inv) (post : DV → Prop) : AllG J (loopsFn Tryz.prog tab noS ann_base_Within J Tryz.f22 post) = (True) := by kernel_rfl
theorem spec_base_Within (a : Int) (b : Int) (c : Int) : vc_base_Within a b c (fun r => LeD r (.t (.c (.v (.bool (inB a b c)))))) := by
 unfold vc_base_Within
 refine cond_i (fun h => leB ?_) (fun h => ⟨rfl, leB ?_⟩)
 ·unfold inB; rw [h]; rfl
 ·unfold inB; rw [h]; rfl
def con_base_Within : Con := fun args => match args with
 | [.t (.c (.v (.int .i64 a))), .t (.c (.v (.int .i64 b))), .t (.c (.v (.int .i64 c)))] => some (.t (.c (.v (.bool (inB a b c)))), none, false)
 | _ => none
theorem ok_base_Within : Ok Tryz.prog 22 con_base_Within := by
 refine Ok.fn (ann := ann_base_Within) mixed tabOK Valid.no ValidIt.no (fn := Tryz.f22) (by kernel_rfl) (by kernel_rfl) fit_base_Within fun args r pre fresh h hp => ?_
 unfold con_base_Within at h
 split at h
 ·rename_i a b c
  cases h
  refine ⟨rfl, fun _ _ _ => False, _, LeA.refl _, Nat.le_of_ble_eq_true (by kernel_rfl), ?_, ?_⟩
  ·rw [ev_base_Within]; exact spec_base_Within a b c
  ·rw [lp_base_Within]; trivial
 ·cases h
def S1 : Sum := addS noS 22 con_base_Within
theorem VS1 : Valid Tryz.prog S1 := Valid.add Valid.no ok_base_Within
def vc_clock_within (a : Int) (b : Int) (c : Int) (post : DV → Prop) : Prop := cond (decide (b ≤ a)) (post (.t (.c (.v (.bool (decide (a ≤ c))))))) ((false = false) ∧ (post (.t (.c (.v (.bool false))))))
def ann_clock_within : Ann := ⟨fun _ => none, fun _ => none, fun _ => [], noIt, false, fun _ => none, fun _ => none⟩
theorem ev_clock_within (J : Inv) (a : Int) (b : Int) (c : Int) (post : DV → Prop) : evFn Tryz.prog tab S1 ann_clock_within J Tryz.f67 [.t (.c (.v (.int .i64 a))), .t (.c (.v (.int .i64 b))), .t (.c (.v (.int .i64 c)))] post = vc_clock_within a b c post := by kernel_rfl
theorem fit_clock_within : okFn ann_clock_within Tryz.f67 = true := by kernel_rfl
theorem lp_clock_within (J : Inv) (post : DV → Prop) : AllG J (loopsFn Tryz.prog tab S1 ann_clock_within J Tryz.f67 post) = (True) := by kernel_rfl
theorem spec_clock_within (a : Int) (b : Int) (c : Int) : vc_clock_within a b c (fun r => LeD r (.t (.c (.v (.bool (inB a b c)))))) := by
 unfold vc_clock_within
 refine cond_i (fun h => leB ?_) (fun h => ⟨rfl, leB ?_⟩)
 ·unfold inB; rw [h]; rfl
 ·unfold inB; rw [h]; rfl
def con_clock_within : Con := fun args => match args with
 | [.t (.c (.v (.int .i64 a))), .t (.c (.v (.int .i64 b))), .t (.c (.v (.int .i64 c)))] => some (.t (.c (.v (.bool (inB a b c)))), none, false)
 | _ => none
theorem ok_clock_within : Ok Tryz.prog 67 con_clock_within := by
 refine Ok.fn (ann := ann_clock_within) mixed tabOK VS1 ValidIt.no (fn := Tryz.f67) (by kernel_rfl) (by kernel_rfl) fit_clock_within fun args r pre fresh h hp => ?_
 unfold con_clock_within at h
 split at h
 ·rename_i a b c
  cases h
  refine ⟨rfl, fun _ _ _ => False, _, LeA.refl _, Nat.le_of_ble_eq_true (by kernel_rfl), ?_, ?_⟩
  ·rw [ev_clock_within]; exact spec_clock_within a b c
  ·rw [lp_clock_within]; trivial
 ·cases h
def S2 : Sum := addS S1 67 con_clock_within
theorem VS2 : Valid Tryz.prog S2 := Valid.add VS1 ok_clock_within
def vc_clock_unless (b : Bool) (n : Int) (post : DV → Prop) : Prop := cond b (post (.t (.c (.v (.int .i64 0))))) (post (.t (.c (.v (.int .i64 n)))))
def ann_clock_unless : Ann := ⟨fun _ => none, fun _ => none, fun _ => [], noIt, false, fun _ => none, fun _ => none⟩
theorem ev_clock_unless (J : Inv) (b : Bool) (n : Int) (post : DV → Prop) : evFn Tryz.prog tab S2 ann_clock_unless J Tryz.f68 [.t (.c (.v (.bool b))), .t (.c (.v (.int .i64 n)))] post = vc_clock_unless b n post := by kernel_rfl
theorem fit_clock_unless : okFn ann_clock_unless Tryz.f68 = true := by kernel_rfl
theorem lp_clock_unless (J : Inv) (post : DV → Prop) : AllG J (loopsFn Tryz.prog tab S2 ann_clock_unless J Tryz.f68 post) = (True) := by kernel_rfl
theorem spec_clock_unless (b : Bool) (n : Int) : vc_clock_unless b n (fun r => LeD r (.t (.c (.v (.int .i64 (unl b n)))))) := by
 unfold vc_clock_unless
 exact cond_i (fun h => leI (by rw [h]; rfl)) (fun h => leI (by rw [h]; rfl))
def con_clock_unless : Con := fun args => match args with
 | [.t (.c (.v (.bool b))), .t (.c (.v (.int .i64 n)))] => some (.t (.c (.v (.int .i64 (unl b n)))), none, false)
 | _ => none
theorem ok_clock_unless : Ok Tryz.prog 68 con_clock_unless := by
 refine Ok.fn (ann := ann_clock_unless) mixed tabOK VS2 ValidIt.no (fn := Tryz.f68) (by kernel_rfl) (by kernel_rfl) fit_clock_unless fun args r pre fresh h hp => ?_
 unfold con_clock_unless at h
 split at h
 ·rename_i b n
  cases h
  refine ⟨rfl, fun _ _ _ => False, _, LeA.refl _, Nat.le_of_ble_eq_true (by kernel_rfl), ?_, ?_⟩
  ·rw [ev_clock_unless]; exact spec_clock_unless b n
  ·rw [lp_clock_unless]; trivial
 ·cases h
def S3 : Sum := addS S2 68 con_clock_unless
theorem VS3 : Valid Tryz.prog S3 := Valid.add VS2 ok_clock_unless
def mk_clock_first_0 (l : List Int) (v0_0 : Int) : DS := ⟨[none, none, none, none, none, some (.t (.c (.sl 1 l.length (intsC l)))), some (.t (.c (.v (.int .i64 ((l.length : Nat) : Int))))), some (.t (.c (.v (.int .i64 v0_0)))), none, none, none, none, none, none, none], [none, none, none, none, none, none, none, none, none, none, none, none, none, none, none]⟩
def vc_clock_first (J : Inv) (l : List Int) (post : DV → Prop) : Prop := ∃ n, J 0 (n :: []) (mk_clock_first_0 l 0)
def ann_clock_first : Ann := ⟨fun _ => none, fun b => lookA b [(0, (none, some ⟨[5, 6, 7], [], []⟩))], fun _ => [], noIt, false, fun _ => none, fun _ => none⟩
theorem ev_clock_first (J : Inv) (l : List Int) (post : DV → Prop) : evFn Tryz.prog tab S3 ann_clock_first J Tryz.f59 [.t (.c (.sl 1 l.length (intsC l)))] post = vc_clock_first J l post := by kernel_rfl
theorem fit_clock_first : okFn ann_clock_first Tryz.f59 = true := by kernel_rfl
def rd_clock_first_0 (J : Inv) (l : List Int) (v0_0 : Int) (nn0 : Nat) (post : DV → Prop) : Prop := cond (decide (v0_0 < ((l.length : Nat) : Int))) ((0 ≤ v0_0 ∧ v0_0 < ((l.length : Nat) : Int)) ∧ (cond ((l.getD v0_0.toNat 0) != (0 : Int)) (post (.t (.c (.v (.int .i64 (l.getD v0_0.toNat 0)))))) (lt (IntKind.i64.wrap (v0_0 + (1 : Int))) fun x1 => J 0 (nn0 :: []) (mk_clock_first_0 l x1)))) (post (.t (.c (.v (.int .i64 0)))))
theorem er_clock_first_0 (J : Inv) (l : List Int) (v0_0 : Int) (nn0 : Nat) (post : DV → Prop) : round Tryz.prog tab S3 ann_clock_first J Tryz.f59 post 0 (nn0 :: []) (mk_clock_first_0 l v0_0) = rd_clock_first_0 J l v0_0 nn0 post := by kernel_rfl
theorem lp_clock_first (J : Inv) (post : DV → Prop) : AllG J (loopsFn Tryz.prog tab S3 ann_clock_first J Tryz.f59 post) = (((∀ F s, ¬ J 0 (0 :: F) s) ∧ ∀ n F s, J 0 ((n + 1) :: F) s → round Tryz.prog tab S3 ann_clock_first J Tryz.f59 post 0 (n :: F) s) ∧ True) := by kernel_rfl
def J_clock_first (l : List Int) : Inv := fun b F s => match b, F with
 | 0, [nn0] => ∃ (v0_0 : Int), s = mk_clock_first_0 l v0_0 ∧ (0 ≤ v0_0 ∧ v0_0 ≤ l.length ∧ (nn0 : Int) + v0_0 = l.length + 1 ∧ ∀ j : Nat, (j : Int) < v0_0 → l.getD j 0 = 0)
 | _, _ => False
theorem rnd_clock_first_0 (l : List Int) (v0_0 : Int) (nn0 : Nat) (hp : (l).length ≤ 100) (hi : 0 ≤ v0_0 ∧ v0_0 ≤ l.length ∧ ((nn0 + 1) : Int) + v0_0 = l.length + 1 ∧ ∀ j : Nat, (j : Int) < v0_0 → l.getD j 0 = 0) : rd_clock_first_0 (J_clock_first l) l v0_0 nn0 (fun r => LeD r (.t (.c (.v (.int .i64 (firstNZ l)))))) := by
 obtain ⟨i1, i2, i3, i4⟩ := hi
 obtain ⟨k, rfl⟩ : ∃ k : Nat, v0_0 = k := ⟨v0_0.toNat, by omega⟩
 have hk : (k : Int).toNat = k := rfl
 unfold rd_clock_first_0
 rw [hk]
 have el : firstNZ l = scan (fun i => l.getD i 0) l.length := by
  unfold scan
  congr 1
  apply List.ext_getElem?
  intro i
  by_cases hi : i < l.length
  ·simp [hi, List.getD]
  ·rw [List.getElem?_eq_none (by omega), List.getElem?_eq_none (by simpa using hi)]
 refine cond_i (fun h => ⟨by have := of_decide_eq_true h; omega, cond_i (fun e => leI ?_) (fun e => lt_i fun x hx => ?_)⟩) (fun h => leI ?_)
 ·have h := of_decide_eq_true h
  rw [el, scan_at (k := k) (fun j hj => i4 j (by omega)) (by omega) (by simpa using e)]
 ·have h := of_decide_eq_true h
  rw [IntWalk.i64_in _ (by have := l.length; omega)] at hx
  subst hx
  refine ⟨_, rfl, by omega, by omega, by omega, fun j hj => ?_⟩
  by_cases q : j = k
  ·rw [q]; simpa using e
  ·exact i4 j (by omega)
 ·have h := of_decide_eq_false h
  rw [el, scan_end fun j hj => i4 j (by omega)]
theorem zero_clock_first_0 (l : List Int) (v0_0 : Int)  (hi : 0 ≤ v0_0 ∧ v0_0 ≤ l.length ∧ (0 : Int) + v0_0 = l.length + 1 ∧ ∀ j : Nat, (j : Int) < v0_0 → l.getD j 0 = 0) : False := by
 omega
theorem spec_clock_first (l : List Int) (hp : (l).length ≤ 100) : vc_clock_first (J_clock_first l) l (fun r => LeD r (.t (.c (.v (.int .i64 (firstNZ l)))))) := by
 unfold vc_clock_first
 exact ⟨l.length + 1, 0, rfl, by omega, by omega, by omega, fun j hj => by omega⟩
theorem all_clock_first (l : List Int) (hp : (l).length ≤ 100) : AllG (J_clock_first l) (loopsFn Tryz.prog tab S3 ann_clock_first (J_clock_first l) Tryz.f59 (fun r => LeD r (.t (.c (.v (.int .i64 (firstNZ l))))))) := by
 rw [lp_clock_first]
 refine ⟨⟨?_, ?_⟩, trivial⟩
 ·intro F s h
  obtain _ | ⟨g, F⟩ := F
  case cons => exact h.elim
  obtain ⟨w0, rfl, hi⟩ := h
  exact zero_clock_first_0 l w0 hi
 ·intro n F s h
  obtain _ | ⟨g, F⟩ := F
  case cons => exact h.elim
  obtain ⟨w0, rfl, hi⟩ := h
  rw [er_clock_first_0]
  exact rnd_clock_first_0 l _ _ hp hi
def con_clock_first : Con := fun args => match args with
 | [.t (.c (.sl 1 n_l c_l))] => some (.t (.c (.v (.int .i64 (firstNZ (listC n_l mkInt c_l))))), some (numsP 1 n_l c_l ∧ ((listC n_l mkInt c_l)).length ≤ 100), false)
 | _ => none
theorem ok_clock_first : Ok Tryz.prog 59 con_clock_first := by
 refine Ok.fn (ann := ann_clock_first) mixed tabOK VS3 ValidIt.no (fn := Tryz.f59) (by kernel_rfl) (by kernel_rfl) fit_clock_first fun args r pre fresh h hp => ?_
 unfold con_clock_first at h
 split at h
 ·rename_i n_l c_l
  cases h
  obtain ⟨hp0, hp⟩ := hp
  refine ⟨rfl, J_clock_first (listC n_l mkInt c_l), [.t (.c (.sl 1 ((listC n_l mkInt c_l).length) (intsC (listC n_l mkInt c_l))))], ?_, Nat.le_of_ble_eq_true (by kernel_rfl), ?_, ?_⟩
  ·exact (LeA_cons (leT_c ((leL_int hp0))) LeA_nil)
  ·rw [ev_clock_first]; exact spec_clock_first (listC n_l mkInt c_l) hp
  ·exact all_clock_first (listC n_l mkInt c_l) hp
 ·cases h
def S4 : Sum := addS S3 59 con_clock_first
theorem VS4 : Valid Tryz.prog S4 := Valid.add VS3 ok_clock_first
def vc_clock_isTick (n : Int) (post : DV → Prop) : Prop := post (.t (.c (.v (.bool (inB n (0 : Int) (1000000000000 : Int))))))
def ann_clock_isTick : Ann := ⟨fun _ => none, fun _ => none, fun _ => [], noIt, false, fun _ => none, fun _ => none⟩
theorem ev_clock_isTick (J : Inv) (n : Int) (post : DV → Prop) : evFn Tryz.prog tab S4 ann_clock_isTick J Tryz.f92 [.t (.c (.v (.int .i64 n)))] post = vc_clock_isTick n post := by kernel_rfl
theorem fit_clock_isTick : okFn ann_clock_isTick Tryz.f92 = true := by kernel_rfl
theorem lp_clock_isTick (J : Inv) (post : DV → Prop) : AllG J (loopsFn Tryz.prog tab S4 ann_clock_isTick J Tryz.f92 post) = (True) := by kernel_rfl
theorem spec_clock_isTick (n : Int) : vc_clock_isTick n (fun r => LeD r (.t (.c (.v (.bool (tkB n)))))) := by
 exact LeD.refl _
def con_clock_isTick : Con := fun args => match args with
 | [.t (.c (.v (.int .i64 n)))] => some (.t (.c (.v (.bool (tkB n)))), none, false)
 | _ => none
theorem ok_clock_isTick : Ok Tryz.prog 92 con_clock_isTick := by
 refine Ok.fn (ann := ann_clock_isTick) mixed tabOK VS4 ValidIt.no (fn := Tryz.f92) (by kernel_rfl) (by kernel_rfl) fit_clock_isTick fun args r pre fresh h hp => ?_
 unfold con_clock_isTick at h
 split at h
 ·rename_i n
  cases h
  refine ⟨rfl, fun _ _ _ => False, _, LeA.refl _, Nat.le_of_ble_eq_true (by kernel_rfl), ?_, ?_⟩
  ·rw [ev_clock_isTick]; exact spec_clock_isTick n
  ·rw [lp_clock_isTick]; trivial
 ·cases h
def S5 : Sum := addS S4 92 con_clock_isTick
theorem VS5 : Valid Tryz.prog S5 := Valid.add VS4 ok_clock_isTick
def vc_ref01_IsTick (n : Int) (post : DV → Prop) : Prop := post (.t (.c (.v (.bool (inB n (0 : Int) (1000000000000 : Int))))))
def ann_ref01_IsTick : Ann := ⟨fun _ => none, fun _ => none, fun _ => [], noIt, false, fun _ => none, fun _ => none⟩
theorem ev_ref01_IsTick (J : Inv) (n : Int) (post : DV → Prop) : evFn Tryz.prog tab S5 ann_ref01_IsTick J Tryz.f36 [.t (.c (.v (.int .i64 n)))] post = vc_ref01_IsTick n post := by kernel_rfl
theorem fit_ref01_IsTick : okFn ann_ref01_IsTick Tryz.f36 = true := by kernel_rfl
theorem lp_ref01_IsTick (J : Inv) (post : DV → Prop) : AllG J (loopsFn Tryz.prog tab S5 ann_ref01_IsTick J Tryz.f36 post) = (True) := by kernel_rfl
theorem spec_ref01_IsTick (n : Int) : vc_ref01_IsTick n (fun r => LeD r (.t (.c (.v (.bool (tkB n)))))) := by
 exact LeD.refl _
def con_ref01_IsTick : Con := fun args => match args with
 | [.t (.c (.v (.int .i64 n)))] => some (.t (.c (.v (.bool (tkB n)))), none, false)
 | _ => none
theorem ok_ref01_IsTick : Ok Tryz.prog 36 con_ref01_IsTick := by
 refine Ok.fn (ann := ann_ref01_IsTick) mixed tabOK VS5 ValidIt.no (fn := Tryz.f36) (by kernel_rfl) (by kernel_rfl) fit_ref01_IsTick fun args r pre fresh h hp => ?_
 unfold con_ref01_IsTick at h
 split at h
 ·rename_i n
  cases h
  refine ⟨rfl, fun _ _ _ => False, _, LeA.refl _, Nat.le_of_ble_eq_true (by kernel_rfl), ?_, ?_⟩
  ·rw [ev_ref01_IsTick]; exact spec_ref01_IsTick n
  ·rw [lp_ref01_IsTick]; trivial
 ·cases h
def S6 : Sum := addS S5 36 con_ref01_IsTick
theorem VS6 : Valid Tryz.prog S6 := Valid.add VS5 ok_ref01_IsTick
def vc_clock_floor (n : Int) (d : Int) (post : DV → Prop) : Prop := lt (IntKind.i64.wrap (Int.tdiv n d)) fun x1 => (IntKind.i64 = IntKind.i64 ∧ d ≠ 0) ∧ (lt (Int.tmod n d) fun x2 => (IntKind.i64 = IntKind.i64 ∧ d ≠ 0) ∧ (cond (decide (x2 < (0 : Int))) (lt (IntKind.i64.wrap (x1 - (1 : Int))) fun x3 => post (.t (.c (.v (.int .i64 x3))))) (post (.t (.c (.v (.int .i64 x1)))))))
def ann_clock_floor : Ann := ⟨fun _ => none, fun _ => none, fun _ => [], noIt, false, fun _ => none, fun _ => none⟩
theorem ev_clock_floor (J : Inv) (n : Int) (d : Int) (post : DV → Prop) : evFn Tryz.prog tab S6 ann_clock_floor J Tryz.f74 [.t (.c (.v (.int .i64 n))), .t (.c (.v (.int .i64 d)))] post = vc_clock_floor n d post := by kernel_rfl
theorem fit_clock_floor : okFn ann_clock_floor Tryz.f74 = true := by kernel_rfl
theorem lp_clock_floor (J : Inv) (post : DV → Prop) : AllG J (loopsFn Tryz.prog tab S6 ann_clock_floor J Tryz.f74 post) = (True) := by kernel_rfl
theorem spec_clock_floor (n : Int) (d : Int) (hp : 0 < d ∧ -4000000000000000 ≤ n ∧ n ≤ 4000000000000000) : vc_clock_floor n d (fun r => LeD r (.t (.c (.v (.int .i64 (n / d)))))) := by
 obtain ⟨h1, h2⟩ := hp
 unfold vc_clock_floor
 have r := tdiv_rg n h1
 have e := fl_eq n h1
 refine lt_i fun x1 g1 => ⟨⟨rfl, by omega⟩, lt_i fun x2 g2 => ⟨⟨rfl, by omega⟩, cond_i (fun h => lt_i fun x3 g3 => leI ?_) (fun h => leI ?_)⟩⟩
 all_goals
  rw [wi (by omega)] at g1
  subst g1 g2
 ·rw [if_pos (of_decide_eq_true h)] at e
  rw [wi (by omega)] at g3
  omega
 ·rw [if_neg (of_decide_eq_false h)] at e
  exact e
def con_clock_floor : Con := fun args => match args with
 | [.t (.c (.v (.int .i64 n))), .t (.c (.v (.int .i64 d)))] => some (.t (.c (.v (.int .i64 (n / d)))), some (0 < d ∧ -4000000000000000 ≤ n ∧ n ≤ 4000000000000000), false)
 | _ => none
theorem ok_clock_floor : Ok Tryz.prog 74 con_clock_floor := by
 refine Ok.fn (ann := ann_clock_floor) mixed tabOK VS6 ValidIt.no (fn := Tryz.f74) (by kernel_rfl) (by kernel_rfl) fit_clock_floor fun args r pre fresh h hp => ?_
 unfold con_clock_floor at h
 split at h
 ·rename_i n d
  cases h
  refine ⟨rfl, fun _ _ _ => False, _, LeA.refl _, Nat.le_of_ble_eq_true (by kernel_rfl), ?_, ?_⟩
  ·rw [ev_clock_floor]; exact spec_clock_floor n d hp
  ·rw [lp_clock_floor]; trivial
 ·cases h
def S7 : Sum := addS S6 74 con_clock_floor
theorem VS7 : Valid Tryz.prog S7 := Valid.add VS6 ok_clock_floor
def S8 : Sum := S7
theorem VS8 : Valid Tryz.prog S8 := VS7
def vc_clock_ceil (n : Int) (d : Int) (post : DV → Prop) : Prop := lt (IntKind.i64.wrap ((0 : Int) - n)) fun x1 => (0 < d ∧ -4000000000000000 ≤ x1 ∧ x1 ≤ 4000000000000000) ∧ (lt (IntKind.i64.wrap ((0 : Int) - (x1 / d))) fun x2 => post (.t (.c (.v (.int .i64 x2)))))
def ann_clock_ceil : Ann := ⟨fun _ => none, fun _ => none, fun _ => [], noIt, false, fun _ => none, fun _ => none⟩
theorem ev_clock_ceil (J : Inv) (n : Int) (d : Int) (post : DV → Prop) : evFn Tryz.prog tab S8 ann_clock_ceil J Tryz.f164 [.t (.c (.v (.int .i64 n))), .t (.c (.v (.int .i64 d)))] post = vc_clock_ceil n d post := by kernel_rfl
theorem fit_clock_ceil : okFn ann_clock_ceil Tryz.f164 = true := by kernel_rfl
theorem lp_clock_ceil (J : Inv) (post : DV → Prop) : AllG J (loopsFn Tryz.prog tab S8 ann_clock_ceil J Tryz.f164 post) = (True) := by kernel_rfl
theorem spec_clock_ceil (n : Int) (d : Int) (hp : 0 < d ∧ -4000000000000000 ≤ n ∧ n ≤ 4000000000000000) : vc_clock_ceil n d (fun r => LeD r (.t (.c (.v (.int .i64 (-((-n) / d))))))) := by
 unfold vc_clock_ceil
 have r := ediv_rg (-n) hp.1
 refine lt_i fun x1 g1 => ?_
 rw [wi (by omega)] at g1
 rw [Int.zero_sub] at g1
 subst g1
 refine ⟨⟨hp.1, by omega⟩, lt_i fun x2 g2 => leI ?_⟩
 rw [wi (by omega)] at g2
 omega
def con_clock_ceil : Con := fun args => match args with
 | [.t (.c (.v (.int .i64 n))), .t (.c (.v (.int .i64 d)))] => some (.t (.c (.v (.int .i64 (-((-n) / d))))), some (0 < d ∧ -4000000000000000 ≤ n ∧ n ≤ 4000000000000000), false)
 | _ => none
theorem ok_clock_ceil : Ok Tryz.prog 164 con_clock_ceil := by
 refine Ok.fn (ann := ann_clock_ceil) mixed tabOK VS8 ValidIt.no (fn := Tryz.f164) (by kernel_rfl) (by kernel_rfl) fit_clock_ceil fun args r pre fresh h hp => ?_
 unfold con_clock_ceil at h
 split at h
 ·rename_i n d
  cases h
  refine ⟨rfl, fun _ _ _ => False, _, LeA.refl _, Nat.le_of_ble_eq_true (by kernel_rfl), ?_, ?_⟩
  ·rw [ev_clock_ceil]; exact spec_clock_ceil n d hp
  ·rw [lp_clock_ceil]; trivial
 ·cases h
def S9 : Sum := addS S8 164 con_clock_ceil
theorem VS9 : Valid Tryz.prog S9 := Valid.add VS8 ok_clock_ceil
def S10 : Sum := S9
theorem VS10 : Valid Tryz.prog S10 := VS9
def S11 : Sum := S10
theorem VS11 : Valid Tryz.prog S11 := VS10
def vc_clock_CheckPing (p0 p1 p2 p3 : Int) (post : DV → Prop) : Prop := cond (tkB p0) (cond (tkB p1) (cond (tkB p2) (cond (decide (p2 ≥ p1)) ((numsP 1 2 (genC [[.v (.int .i64 (unl (tkB p3) (2 : Int)))], [.v (.int .i64 (unl (decide (p3 ≥ p0)) (9 : Int)))]]) ∧ (([(unl (tkB p3) (2 : Int)), (unl (decide (p3 ≥ p0)) (9 : Int))] : List Int)).length ≤ 100) ∧ (post (.t (.c (.v (.int .i64 (firstNZ ([(unl (tkB p3) (2 : Int)), (unl (decide (p3 ≥ p0)) (9 : Int))] : List Int)))))))) ((false = false) ∧ ((numsP 1 2 (genC [[.v (.int .i64 (unl (tkB p3) (2 : Int)))], [.v (.int .i64 (unl false (9 : Int)))]]) ∧ (([(unl (tkB p3) (2 : Int)), (unl false (9 : Int))] : List Int)).length ≤ 100) ∧ (post (.t (.c (.v (.int .i64 (firstNZ ([(unl (tkB p3) (2 : Int)), (unl false (9 : Int))] : List Int)))))))))) ((false = false) ∧ (cond (decide (p2 ≥ p1)) ((numsP 1 2 (genC [[.v (.int .i64 (unl false (2 : Int)))], [.v (.int .i64 (unl (decide (p3 ≥ p0)) (9 : Int)))]]) ∧ (([(unl false (2 : Int)), (unl (decide (p3 ≥ p0)) (9 : Int))] : List Int)).length ≤ 100) ∧ (post (.t (.c (.v (.int .i64 (firstNZ ([(unl false (2 : Int)), (unl (decide (p3 ≥ p0)) (9 : Int))] : List Int)))))))) ((false = false) ∧ ((numsP 1 2 (genC [[.v (.int .i64 (unl false (2 : Int)))], [.v (.int .i64 (unl false (9 : Int)))]]) ∧ (([(unl false (2 : Int)), (unl false (9 : Int))] : List Int)).length ≤ 100) ∧ (post (.t (.c (.v (.int .i64 (firstNZ ([(unl false (2 : Int)), (unl false (9 : Int))] : List Int)))))))))))) ((false = false) ∧ ((false = false) ∧ (cond (decide (p2 ≥ p1)) ((numsP 1 2 (genC [[.v (.int .i64 (unl false (2 : Int)))], [.v (.int .i64 (unl (decide (p3 ≥ p0)) (9 : Int)))]]) ∧ (([(unl false (2 : Int)), (unl (decide (p3 ≥ p0)) (9 : Int))] : List Int)).length ≤ 100) ∧ (post (.t (.c (.v (.int .i64 (firstNZ ([(unl false (2 : Int)), (unl (decide (p3 ≥ p0)) (9 : Int))] : List Int)))))))) ((false = false) ∧ ((numsP 1 2 (genC [[.v (.int .i64 (unl false (2 : Int)))], [.v (.int .i64 (unl false (9 : Int)))]]) ∧ (([(unl false (2 : Int)), (unl false (9 : Int))] : List Int)).length ≤ 100) ∧ (post (.t (.c (.v (.int .i64 (firstNZ ([(unl false (2 : Int)), (unl false (9 : Int))] : List Int))))))))))))) ((false = false) ∧ ((false = false) ∧ ((false = false) ∧ (cond (decide (p2 ≥ p1)) ((numsP 1 2 (genC [[.v (.int .i64 (unl false (2 : Int)))], [.v (.int .i64 (unl (decide (p3 ≥ p0)) (9 : Int)))]]) ∧ (([(unl false (2 : Int)), (unl (decide (p3 ≥ p0)) (9 : Int))] : List Int)).length ≤ 100) ∧ (post (.t (.c (.v (.int .i64 (firstNZ ([(unl false (2 : Int)), (unl (decide (p3 ≥ p0)) (9 : Int))] : List Int)))))))) ((false = false) ∧ ((numsP 1 2 (genC [[.v (.int .i64 (unl false (2 : Int)))], [.v (.int .i64 (unl false (9 : Int)))]]) ∧ (([(unl false (2 : Int)), (unl false (9 : Int))] : List Int)).length ≤ 100) ∧ (post (.t (.c (.v (.int .i64 (firstNZ ([(unl false (2 : Int)), (unl false (9 : Int))] : List Int)))))))))))))
def ann_clock_CheckPing : Ann := ⟨fun r => lookA r [(2, ([[], [0], [], [2], [], [4], [2, 3, 4, 5], [0, 1, 2, 3, 4, 5, 6], [0, 1, 2, 3, 4, 5, 6, 7], [0, 1, 2, 3, 4, 5, 6, 7, 8], [0, 1, 2, 3, 4, 5, 6, 7], [0, 1, 2, 3, 4, 5, 6, 7, 10], [0, 1, 2, 3, 4, 5, 6, 7, 8, 9, 10, 11], [0, 1, 2, 3, 4, 5, 6, 7, 8, 9, 10, 11, 12], [0, 1, 2, 3, 4, 5, 6, 7, 8, 9, 10, 11, 12, 13], [0, 1, 2, 3, 4, 5, 6, 7, 8, 9, 10, 11, 12, 13, 14], [0, 1, 2, 3, 4, 5, 6, 7, 8, 9, 10, 11, 12, 13, 14, 15], [0, 1, 2, 3, 4, 5, 6, 7, 8, 9, 10, 11, 12, 13, 14, 15, 16]], [[23, 36, 37, 38], [36, 37, 38], [23, 36, 37, 38], [23, 36, 37, 38], [23, 36, 37, 38], [23, 36, 37, 38], [23, 36, 37, 38], [36, 37, 38], [36, 37, 38], [36, 37, 38], [36, 37, 38], [36, 37, 38], [36, 37, 38], [36, 37, 38], [37, 38], [38], [], []]))], fun _ => none, fun _ => [], noIt, false, fun _ => none, fun _ => none⟩
theorem ev_clock_CheckPing (J : Inv) (p0 p1 p2 p3 : Int) (post : DV → Prop) : evFn Tryz.prog tab S11 ann_clock_CheckPing J Tryz.f50 [.t (.a [.v (.int .i64 p0), .v (.int .i64 p1), .v (.int .i64 p2), .v (.int .i64 p3)])] post = vc_clock_CheckPing p0 p1 p2 p3 post := by kernel_rfl
theorem fit_clock_CheckPing : okFn ann_clock_CheckPing Tryz.f50 = true := by kernel_rfl
theorem lp_clock_CheckPing (J : Inv) (post : DV → Prop) : AllG J (loopsFn Tryz.prog tab S11 ann_clock_CheckPing J Tryz.f50 post) = (True) := by kernel_rfl
theorem spec_clock_CheckPing (p0 p1 p2 p3 : Int) : vc_clock_CheckPing p0 p1 p2 p3 (fun r => LeD r (.t (.c (.v (.int .i64 (pngE (⟨p0, p1, p2, p3⟩ : Png))))))) := by
 unfold vc_clock_CheckPing
 repeat' with_reducible first | (refine cond_i (fun h => ?_) (fun h => ?_)) | (refine And.intro ?_ ?_)
 all_goals first | rfl | (exact numsP_gen [_, _]) | (exact Nat.le_of_ble_eq_true rfl) | (refine leI ?_)
 all_goals (try simp_all [pngE, unl, firstNZ])
 all_goals (repeat' split)
 all_goals first | rfl | omega | simp_all
def con_clock_CheckPing : Con := fun args => match args with
 | [.t (.a [.v (.int .i64 p0), .v (.int .i64 p1), .v (.int .i64 p2), .v (.int .i64 p3)])] => some (.t (.c (.v (.int .i64 (pngE (⟨p0, p1, p2, p3⟩ : Png))))), none, false)
 | _ => none
theorem ok_clock_CheckPing : Ok Tryz.prog 50 con_clock_CheckPing := by
 refine Ok.fn (ann := ann_clock_CheckPing) mixed tabOK VS11 ValidIt.no (fn := Tryz.f50) (by kernel_rfl) (by kernel_rfl) fit_clock_CheckPing fun args r pre fresh h hp => ?_
 unfold con_clock_CheckPing at h
 split at h
 ·rename_i p0 p1 p2 p3
  cases h
  refine ⟨rfl, fun _ _ _ => False, _, LeA.refl _, Nat.le_of_ble_eq_true (by kernel_rfl), ?_, ?_⟩
  ·rw [ev_clock_CheckPing]; exact spec_clock_CheckPing p0 p1 p2 p3
  ·rw [lp_clock_CheckPing]; trivial
 ·cases h
def S12 : Sum := addS S11 50 con_clock_CheckPing
theorem VS12 : Valid Tryz.prog S12 := Valid.add VS11 ok_clock_CheckPing
def vc_ref01_PingErr (p0 p1 p2 p3 : Int) (post : DV → Prop) : Prop := cond (!(tkB p0)) ((true = true) ∧ ((true = true) ∧ ((true = true) ∧ (post (.t (.c (.v (.int .i64 2)))))))) (cond (!(tkB p1)) ((true = true) ∧ ((true = true) ∧ (post (.t (.c (.v (.int .i64 2))))))) (cond (!(tkB p2)) ((true = true) ∧ (post (.t (.c (.v (.int .i64 2)))))) (cond (!(tkB p3)) (post (.t (.c (.v (.int .i64 2))))) (cond (decide (p2 < p1)) ((true = true) ∧ (post (.t (.c (.v (.int .i64 9)))))) (cond (decide (p3 < p0)) (post (.t (.c (.v (.int .i64 9))))) (post (.t (.c (.v (.int .i64 0))))))))))
def ann_ref01_PingErr : Ann := ⟨fun _ => none, fun _ => none, fun _ => [], noIt, false, fun _ => none, fun _ => none⟩
theorem ev_ref01_PingErr (J : Inv) (p0 p1 p2 p3 : Int) (post : DV → Prop) : evFn Tryz.prog tab S12 ann_ref01_PingErr J Tryz.f18 [.t (.a [.v (.int .i64 p0), .v (.int .i64 p1), .v (.int .i64 p2), .v (.int .i64 p3)])] post = vc_ref01_PingErr p0 p1 p2 p3 post := by kernel_rfl
theorem fit_ref01_PingErr : okFn ann_ref01_PingErr Tryz.f18 = true := by kernel_rfl
theorem lp_ref01_PingErr (J : Inv) (post : DV → Prop) : AllG J (loopsFn Tryz.prog tab S12 ann_ref01_PingErr J Tryz.f18 post) = (True) := by kernel_rfl
theorem spec_ref01_PingErr (p0 p1 p2 p3 : Int) : vc_ref01_PingErr p0 p1 p2 p3 (fun r => LeD r (.t (.c (.v (.int .i64 (pngE (⟨p0, p1, p2, p3⟩ : Png))))))) := by
 unfold vc_ref01_PingErr
 repeat' with_reducible first | (refine cond_i (fun h => ?_) (fun h => ?_)) | (refine And.intro ?_ ?_)
 all_goals first | rfl | (exact numsP_gen [_, _]) | (exact Nat.le_of_ble_eq_true rfl) | (refine leI ?_)
 all_goals (try simp_all [pngE, unl, firstNZ])
 all_goals (repeat' split)
 all_goals first | rfl | omega | simp_all
def con_ref01_PingErr : Con := fun args => match args with
 | [.t (.a [.v (.int .i64 p0), .v (.int .i64 p1), .v (.int .i64 p2), .v (.int .i64 p3)])] => some (.t (.c (.v (.int .i64 (pngE (⟨p0, p1, p2, p3⟩ : Png))))), none, false)
 | _ => none
theorem ok_ref01_PingErr : Ok Tryz.prog 18 con_ref01_PingErr := by
 refine Ok.fn (ann := ann_ref01_PingErr) mixed tabOK VS12 ValidIt.no (fn := Tryz.f18) (by kernel_rfl) (by kernel_rfl) fit_ref01_PingErr fun args r pre fresh h hp => ?_
 unfold con_ref01_PingErr at h
 split at h
 ·rename_i p0 p1 p2 p3
  cases h
  refine ⟨rfl, fun _ _ _ => False, _, LeA.refl _, Nat.le_of_ble_eq_true (by kernel_rfl), ?_, ?_⟩
  ·rw [ev_ref01_PingErr]; exact spec_ref01_PingErr p0 p1 p2 p3
  ·rw [lp_ref01_PingErr]; trivial
 ·cases h
def S13 : Sum := addS S12 18 con_ref01_PingErr
theorem VS13 : Valid Tryz.prog S13 := Valid.add VS12 ok_ref01_PingErr
def vc_clock_isDrift (n : Int) (post : DV → Prop) : Prop := post (.t (.c (.v (.bool (inB n (0 : Int) (1000 : Int))))))
def ann_clock_isDrift : Ann := ⟨fun _ => none, fun _ => none, fun _ => [], noIt, false, fun _ => none, fun _ => none⟩
theorem ev_clock_isDrift (J : Inv) (n : Int) (post : DV → Prop) : evFn Tryz.prog tab S13 ann_clock_isDrift J Tryz.f177 [.t (.c (.v (.int .i64 n)))] post = vc_clock_isDrift n post := by kernel_rfl
theorem fit_clock_isDrift : okFn ann_clock_isDrift Tryz.f177 = true := by kernel_rfl
theorem lp_clock_isDrift (J : Inv) (post : DV → Prop) : AllG J (loopsFn Tryz.prog tab S13 ann_clock_isDrift J Tryz.f177 post) = (True) := by kernel_rfl
theorem spec_clock_isDrift (n : Int) : vc_clock_isDrift n (fun r => LeD r (.t (.c (.v (.bool (inB n 0 1000)))))) := by
 exact LeD.refl _
def con_clock_isDrift : Con := fun args => match args with
 | [.t (.c (.v (.int .i64 n)))] => some (.t (.c (.v (.bool (inB n 0 1000)))), none, false)
 | _ => none
theorem ok_clock_isDrift : Ok Tryz.prog 177 con_clock_isDrift := by
 refine Ok.fn (ann := ann_clock_isDrift) mixed tabOK VS13 ValidIt.no (fn := Tryz.f177) (by kernel_rfl) (by kernel_rfl) fit_clock_isDrift fun args r pre fresh h hp => ?_
 unfold con_clock_isDrift at h
 split at h
 ·rename_i n
  cases h
  refine ⟨rfl, fun _ _ _ => False, _, LeA.refl _, Nat.le_of_ble_eq_true (by kernel_rfl), ?_, ?_⟩
  ·rw [ev_clock_isDrift]; exact spec_clock_isDrift n
  ·rw [lp_clock_isDrift]; trivial
 ·cases h
def S14 : Sum := addS S13 177 con_clock_isDrift
theorem VS14 : Valid Tryz.prog S14 := Valid.add VS13 ok_clock_isDrift
def vc_clock_slack (d : Int) (n : Int) (post : DV → Prop) : Prop := lt (IntKind.i64.wrap ((0 : Int) - n)) fun x1 => lt ((if x1 > n then x1 else n)) fun x2 => lt (IntKind.i64.wrap (x2 * d)) fun x3 => (0 < (1000000 : Int) ∧ -4000000000000000 ≤ x3 ∧ x3 ≤ 4000000000000000) ∧ (post (.t (.c (.v (.int .i64 (-((-x3) / (1000000 : Int))))))))
def ann_clock_slack : Ann := ⟨fun _ => none, fun _ => none, fun _ => [], noIt, false, fun _ => none, fun _ => none⟩
theorem ev_clock_slack (J : Inv) (d : Int) (n : Int) (post : DV → Prop) : evFn Tryz.prog tab S14 ann_clock_slack J Tryz.f133 [.t (.c (.v (.int .i64 d))), .t (.c (.v (.int .i64 n)))] post = vc_clock_slack d n post := by kernel_rfl
theorem fit_clock_slack : okFn ann_clock_slack Tryz.f133 = true := by kernel_rfl
theorem lp_clock_slack (J : Inv) (post : DV → Prop) : AllG J (loopsFn Tryz.prog tab S14 ann_clock_slack J Tryz.f133 post) = (True) := by kernel_rfl
theorem spec_clock_slack (d : Int) (n : Int) (hp : 0 ≤ d ∧ d ≤ 1000 ∧ -4000000000000 ≤ n ∧ n ≤ 4000000000000) : vc_clock_slack d n (fun r => LeD r (.t (.c (.v (.int .i64 (slackI d n)))))) := by
 unfold vc_clock_slack
 obtain ⟨d1, d2, n1, n2⟩ := hp
 have s := slack_rg (d := d) (n := n) ⟨d1, d2⟩ ⟨n1, n2⟩
 refine lt_i fun x1 g1 => lt_i fun x2 g2 => lt_i fun x3 g3 => ?_
 rw [wi (by omega)] at g1
 have e : x2 = (n.natAbs : Int) := by split at g2 <;> omega
 rw [e, wi (by omega)] at g3
 exact ⟨by omega, leI (by rw [← g3]; rfl)⟩
def con_clock_slack : Con := fun args => match args with
 | [.t (.c (.v (.int .i64 d))), .t (.c (.v (.int .i64 n)))] => some (.t (.c (.v (.int .i64 (slackI d n)))), some (0 ≤ d ∧ d ≤ 1000 ∧ -4000000000000 ≤ n ∧ n ≤ 4000000000000), false)
 | _ => none
theorem ok_clock_slack : Ok Tryz.prog 133 con_clock_slack := by
 refine Ok.fn (ann := ann_clock_slack) mixed tabOK VS14 ValidIt.no (fn := Tryz.f133) (by kernel_rfl) (by kernel_rfl) fit_clock_slack fun args r pre fresh h hp => ?_
 unfold con_clock_slack at h
 split at h
 ·rename_i d n
  cases h
  refine ⟨rfl, fun _ _ _ => False, _, LeA.refl _, Nat.le_of_ble_eq_true (by kernel_rfl), ?_, ?_⟩
  ·rw [ev_clock_slack]; exact spec_clock_slack d n hp
  ·rw [lp_clock_slack]; trivial
 ·cases h
def S15 : Sum := addS S14 133 con_clock_slack
theorem VS15 : Valid Tryz.prog S15 := Valid.add VS14 ok_clock_slack
def vc_clock_cableErr (c0 c1 : Int) (post : DV → Prop) : Prop := cond (inB c0 0 1000) (post (.t (.c (.v (.int .i64 (unl (inB c1 (0 : Int) (1000000 : Int)) (2 : Int))))))) ((false = false) ∧ (post (.t (.c (.v (.int .i64 (unl false (2 : Int))))))))
def ann_clock_cableErr : Ann := ⟨fun _ => none, fun _ => none, fun _ => [], noIt, false, fun _ => none, fun _ => none⟩
theorem ev_clock_cableErr (J : Inv) (c0 c1 : Int) (post : DV → Prop) : evFn Tryz.prog tab S15 ann_clock_cableErr J Tryz.f163 [.t (.a [.v (.int .i64 c0), .v (.int .i64 c1)])] post = vc_clock_cableErr c0 c1 post := by kernel_rfl
theorem fit_clock_cableErr : okFn ann_clock_cableErr Tryz.f163 = true := by kernel_rfl
theorem lp_clock_cableErr (J : Inv) (post : DV → Prop) : AllG J (loopsFn Tryz.prog tab S15 ann_clock_cableErr J Tryz.f163 post) = (True) := by kernel_rfl
theorem spec_clock_cableErr (c0 c1 : Int) : vc_clock_cableErr c0 c1 (fun r => LeD r (.t (.c (.v (.int .i64 (cabE (⟨c0, c1⟩ : Cab))))))) := by
 unfold vc_clock_cableErr
 repeat' with_reducible first | (refine cond_i (fun h => ?_) (fun h => ?_)) | (refine And.intro ?_ ?_)
 all_goals first | rfl | (exact numsP_gen [_, _]) | (exact Nat.le_of_ble_eq_true rfl) | (refine leI ?_)
 all_goals (try simp_all [cabE, unl, firstNZ])
 all_goals (repeat' split)
 all_goals first | rfl | omega | simp_all
def con_clock_cableErr : Con := fun args => match args with
 | [.t (.a [.v (.int .i64 c0), .v (.int .i64 c1)])] => some (.t (.c (.v (.int .i64 (cabE (⟨c0, c1⟩ : Cab))))), none, false)
 | _ => none
theorem ok_clock_cableErr : Ok Tryz.prog 163 con_clock_cableErr := by
 refine Ok.fn (ann := ann_clock_cableErr) mixed tabOK VS15 ValidIt.no (fn := Tryz.f163) (by kernel_rfl) (by kernel_rfl) fit_clock_cableErr fun args r pre fresh h hp => ?_
 unfold con_clock_cableErr at h
 split at h
 ·rename_i c0 c1
  cases h
  refine ⟨rfl, fun _ _ _ => False, _, LeA.refl _, Nat.le_of_ble_eq_true (by kernel_rfl), ?_, ?_⟩
  ·rw [ev_clock_cableErr]; exact spec_clock_cableErr c0 c1
  ·rw [lp_clock_cableErr]; trivial
 ·cases h
def S16 : Sum := addS S15 163 con_clock_cableErr
theorem VS16 : Valid Tryz.prog S16 := Valid.add VS15 ok_clock_cableErr
def S17 : Sum := S16
theorem VS17 : Valid Tryz.prog S17 := VS16
def vc_clock_delay (c0 c1 : Int) (p0 p1 p2 p3 : Int) (post : DV → Prop) : Prop := lt (IntKind.i64.wrap (p2 - p1)) fun x1 => (0 ≤ c0 ∧ c0 ≤ 1000 ∧ -4000000000000 ≤ x1 ∧ x1 ≤ 4000000000000) ∧ (lt (IntKind.i64.wrap (p3 - p0)) fun x2 => lt (IntKind.i64.wrap (x2 - x1)) fun x3 => lt (IntKind.i64.wrap (x3 - (slackI c0 x1))) fun x4 => lt (IntKind.i64.wrap (x4 - c1)) fun x5 => (0 < (2 : Int) ∧ -4000000000000000 ≤ x5 ∧ x5 ≤ 4000000000000000) ∧ (lt ((if (x5 / (2 : Int)) > (0 : Int) then (x5 / (2 : Int)) else (0 : Int))) fun x6 => lt (IntKind.i64.wrap (x3 + (slackI c0 x1))) fun x7 => lt (IntKind.i64.wrap (x3 + (slackI c0 x1))) fun x8 => lt (IntKind.i64.wrap (x8 + c1)) fun x9 => (0 < (2 : Int) ∧ -4000000000000000 ≤ x9 ∧ x9 ≤ 4000000000000000) ∧ (lt ((if (-((-x9) / (2 : Int))) < x7 then (-((-x9) / (2 : Int))) else x7)) fun x10 => lt (IntKind.i64.wrap (x3 + (slackI c0 x1))) fun x11 => post (.tu [.a [.v (.int .i64 x6), .v (.int .i64 x10)], .c (.v (.bool (decide (x11 ≥ (0 : Int)))))]))))
def ann_clock_delay : Ann := ⟨fun r => lookA r [(4, ([[], [], [0, 1], [], [3], [0, 1, 2, 3, 4], [0, 1, 2, 3, 4, 5], [0, 1, 2, 3, 4, 5, 6], [], [], [8, 9], [], [], [11, 12], [], [14], [11, 12, 13, 14, 15], [0, 1, 2, 3, 4, 5, 6, 11, 12, 13, 14, 15, 16], [0, 1, 2, 3, 4, 5, 6, 8, 9, 10, 11, 12, 13, 14, 15, 16, 17], [0, 1, 2, 3, 4, 5, 6, 7, 8, 9, 10, 11, 12, 13, 14, 15, 16, 17, 18], [], [], [20, 21], [20, 21, 22], [0, 1, 2, 3, 4, 5, 6, 7, 8, 9, 10, 11, 12, 13, 14, 15, 16, 17, 18, 19], [0, 1, 2, 3, 4, 5, 6, 7, 8, 9, 10, 11, 12, 13, 14, 15, 16, 17, 18, 19, 20, 21, 22, 23, 24]], [[31, 42], [31, 42], [31, 42], [31, 42], [31, 42], [31, 42], [42], [42], [31, 42], [31, 42], [31, 42], [31, 42], [31, 42], [31, 42], [31, 42], [31, 42], [31, 42], [], [], [], [31, 42], [31, 42], [31, 42], [31, 42], [], []]))], fun _ => none, fun _ => [], noIt, false, fun _ => none, fun _ => none⟩
theorem ev_clock_delay (J : Inv) (c0 c1 : Int) (p0 p1 p2 p3 : Int) (post : DV → Prop) : evFn Tryz.prog tab S17 ann_clock_delay J Tryz.f130 [.t (.a [.v (.int .i64 c0), .v (.int .i64 c1)]), .t (.a [.v (.int .i64 p0), .v (.int .i64 p1), .v (.int .i64 p2), .v (.int .i64 p3)])] post = vc_clock_delay c0 c1 p0 p1 p2 p3 post := by kernel_rfl
theorem fit_clock_delay : okFn ann_clock_delay Tryz.f130 = true := by kernel_rfl
theorem lp_clock_delay (J : Inv) (post : DV → Prop) : AllG J (loopsFn Tryz.prog tab S17 ann_clock_delay J Tryz.f130 post) = (True) := by kernel_rfl
theorem spec_clock_delay (c0 c1 : Int) (p0 p1 p2 p3 : Int) (hp : delOk (⟨c0, c1⟩ : Cab) (⟨p0, p1, p2, p3⟩ : Png)) : vc_clock_delay c0 c1 p0 p1 p2 p3 (fun r => LeD r (.tu [.a [.v (.int .i64 ((dlR (⟨c0, c1⟩ : Cab) (⟨p0, p1, p2, p3⟩ : Png)).lo)), .v (.int .i64 ((dlR (⟨c0, c1⟩ : Cab) (⟨p0, p1, p2, p3⟩ : Png)).hi))], .c (.v (.bool (canB (⟨c0, c1⟩ : Cab) (⟨p0, p1, p2, p3⟩ : Png))))])) := by
 have r := del_rg hp
 obtain ⟨⟨⟨c1_, c2_⟩, c3_, c4_⟩, ⟨h1, h2, h3⟩, h4, h5, h6⟩ := hp
 simp only at c1_ c2_ c3_ c4_ h1 h2 h3 h4 h5 h6
 obtain ⟨r1, r2, r3⟩ := r
 obtain ⟨u, hu⟩ : ∃ u, u = ((⟨c0, c1⟩ : Cab)).sl (⟨p0, p1, p2, p3⟩ : Png) := ⟨_, rfl⟩
 obtain ⟨t, ht⟩ : ∃ t, t = ((⟨c0, c1⟩ : Cab)).ov (⟨p0, p1, p2, p3⟩ : Png) := ⟨_, rfl⟩
 have hs : slackI c0 (p2 - p1) = u := hu.symm
 have ho : p3 - p0 - (p2 - p1) = t := ht.symm
 have hs' := hu.symm
 have ho' := ht.symm
 rw [← hu] at r1
 rw [← ht] at r2
 unfold vc_clock_delay
 refine lt_i fun x1 g1 => ?_
 rw [wi (by omega)] at g1
 subst g1
 refine ⟨by omega, lt_i fun x2 g2 => lt_i fun x3 g3 => lt_i fun x4 g4 => lt_i fun x5 g5 => ⟨?_, lt_i fun x6 g6 => lt_i fun x7 g7 => lt_i fun x8 g8 => lt_i fun x9 g9 => ⟨?_, lt_i fun x10 g10 => lt_i fun x11 g11 => ?_⟩⟩⟩
 all_goals
  rw [wi (by omega)] at g2
  subst g2
  rw [wi (by omega)] at g3
  subst g3
  rw [hs, ho] at *
  rw [wi (by omega)] at g4
  subst g4
  rw [wi (by omega)] at g5
  subst g5
 ·omega
 all_goals
  rw [wi (by omega)] at g7 g8
  subst g7 g8
  rw [wi (by omega)] at g9
  subst g9
 ·omega
 rw [wi (by omega)] at g11
 subst g11
 rw [mx_if] at g6
 rw [mn_if] at g10
 subst g6 g10
 unfold dlR canB Cab.dlo Cab.dhi
 rw [hs', ho', Int.max_comm, Int.min_comm]
 exact LeD.refl _
def con_clock_delay : Con := fun args => match args with
 | [.t (.a [.v (.int .i64 c0), .v (.int .i64 c1)]), .t (.a [.v (.int .i64 p0), .v (.int .i64 p1), .v (.int .i64 p2), .v (.int .i64 p3)])] => some (.tu [.a [.v (.int .i64 ((dlR (⟨c0, c1⟩ : Cab) (⟨p0, p1, p2, p3⟩ : Png)).lo)), .v (.int .i64 ((dlR (⟨c0, c1⟩ : Cab) (⟨p0, p1, p2, p3⟩ : Png)).hi))], .c (.v (.bool (canB (⟨c0, c1⟩ : Cab) (⟨p0, p1, p2, p3⟩ : Png))))], some (delOk (⟨c0, c1⟩ : Cab) (⟨p0, p1, p2, p3⟩ : Png)), false)
 | _ => none
theorem ok_clock_delay : Ok Tryz.prog 130 con_clock_delay := by
 refine Ok.fn (ann := ann_clock_delay) mixed tabOK VS17 ValidIt.no (fn := Tryz.f130) (by kernel_rfl) (by kernel_rfl) fit_clock_delay fun args r pre fresh h hp => ?_
 unfold con_clock_delay at h
 split at h
 ·rename_i c0 c1 p0 p1 p2 p3
  cases h
  refine ⟨rfl, fun _ _ _ => False, _, LeA.refl _, Nat.le_of_ble_eq_true (by kernel_rfl), ?_, ?_⟩
  ·rw [ev_clock_delay]; exact spec_clock_delay c0 c1 p0 p1 p2 p3 hp
  ·rw [lp_clock_delay]; trivial
 ·cases h
def S18 : Sum := addS S17 130 con_clock_delay
theorem VS18 : Valid Tryz.prog S18 := Valid.add VS17 ok_clock_delay
def vc_clock_plus (r0 r1 : Int) (n : Int) (post : DV → Prop) : Prop := lt (IntKind.i64.wrap (r0 + n)) fun x1 => lt (IntKind.i64.wrap (r1 + n)) fun x2 => post (.t (.a [.v (.int .i64 x1), .v (.int .i64 x2)]))
def ann_clock_plus : Ann := ⟨fun _ => none, fun _ => none, fun _ => [], noIt, false, fun _ => none, fun _ => none⟩
theorem ev_clock_plus (J : Inv) (r0 r1 : Int) (n : Int) (post : DV → Prop) : evFn Tryz.prog tab S18 ann_clock_plus J Tryz.f131 [.t (.a [.v (.int .i64 r0), .v (.int .i64 r1)]), .t (.c (.v (.int .i64 n)))] post = vc_clock_plus r0 r1 n post := by kernel_rfl
theorem fit_clock_plus : okFn ann_clock_plus Tryz.f131 = true := by kernel_rfl
theorem lp_clock_plus (J : Inv) (post : DV → Prop) : AllG J (loopsFn Tryz.prog tab S18 ann_clock_plus J Tryz.f131 post) = (True) := by kernel_rfl
theorem spec_clock_plus (r0 r1 : Int) (n : Int) (hp : rgB (⟨r0, r1⟩ : Rg) ∧ -9000000000000 ≤ n ∧ n ≤ 9000000000000) : vc_clock_plus r0 r1 n (fun r => LeD r (.t (.a [.v (.int .i64 (r0 + n)), .v (.int .i64 (r1 + n))]))) := by
 obtain ⟨⟨a1, a2⟩, a3⟩ := hp
 simp only at a1 a2
 unfold vc_clock_plus
 refine lt_i fun x1 g1 => lt_i fun x2 g2 => ?_
 rw [wi (by omega)] at g1 g2
 subst g1 g2
 exact LeD.refl _
def con_clock_plus : Con := fun args => match args with
 | [.t (.a [.v (.int .i64 r0), .v (.int .i64 r1)]), .t (.c (.v (.int .i64 n)))] => some (.t (.a [.v (.int .i64 (r0 + n)), .v (.int .i64 (r1 + n))]), some (rgB (⟨r0, r1⟩ : Rg) ∧ -9000000000000 ≤ n ∧ n ≤ 9000000000000), false)
 | _ => none
theorem ok_clock_plus : Ok Tryz.prog 131 con_clock_plus := by
 refine Ok.fn (ann := ann_clock_plus) mixed tabOK VS18 ValidIt.no (fn := Tryz.f131) (by kernel_rfl) (by kernel_rfl) fit_clock_plus fun args r pre fresh h hp => ?_
 unfold con_clock_plus at h
 split at h
 ·rename_i r0 r1 n
  cases h
  refine ⟨rfl, fun _ _ _ => False, _, LeA.refl _, Nat.le_of_ble_eq_true (by kernel_rfl), ?_, ?_⟩
  ·rw [ev_clock_plus]; exact spec_clock_plus r0 r1 n hp
  ·rw [lp_clock_plus]; trivial
 ·cases h
def S19 : Sum := addS S18 131 con_clock_plus
theorem VS19 : Valid Tryz.prog S19 := Valid.add VS18 ok_clock_plus
def vc_clock_wider (r0 r1 : Int) (n : Int) (post : DV → Prop) : Prop := lt (IntKind.i64.wrap (r0 - n)) fun x1 => lt (IntKind.i64.wrap (r1 + n)) fun x2 => post (.t (.a [.v (.int .i64 x1), .v (.int .i64 x2)]))
def ann_clock_wider : Ann := ⟨fun _ => none, fun _ => none, fun _ => [], noIt, false, fun _ => none, fun _ => none⟩
theorem ev_clock_wider (J : Inv) (r0 r1 : Int) (n : Int) (post : DV → Prop) : evFn Tryz.prog tab S19 ann_clock_wider J Tryz.f132 [.t (.a [.v (.int .i64 r0), .v (.int .i64 r1)]), .t (.c (.v (.int .i64 n)))] post = vc_clock_wider r0 r1 n post := by kernel_rfl
theorem fit_clock_wider : okFn ann_clock_wider Tryz.f132 = true := by kernel_rfl
theorem lp_clock_wider (J : Inv) (post : DV → Prop) : AllG J (loopsFn Tryz.prog tab S19 ann_clock_wider J Tryz.f132 post) = (True) := by kernel_rfl
theorem spec_clock_wider (r0 r1 : Int) (n : Int) (hp : rgB (⟨r0, r1⟩ : Rg) ∧ -9000000000000 ≤ n ∧ n ≤ 9000000000000) : vc_clock_wider r0 r1 n (fun r => LeD r (.t (.a [.v (.int .i64 (r0 - n)), .v (.int .i64 (r1 + n))]))) := by
 obtain ⟨⟨a1, a2⟩, a3⟩ := hp
 simp only at a1 a2
 unfold vc_clock_wider
 refine lt_i fun x1 g1 => lt_i fun x2 g2 => ?_
 rw [wi (by omega)] at g1 g2
 subst g1 g2
 exact LeD.refl _
def con_clock_wider : Con := fun args => match args with
 | [.t (.a [.v (.int .i64 r0), .v (.int .i64 r1)]), .t (.c (.v (.int .i64 n)))] => some (.t (.a [.v (.int .i64 (r0 - n)), .v (.int .i64 (r1 + n))]), some (rgB (⟨r0, r1⟩ : Rg) ∧ -9000000000000 ≤ n ∧ n ≤ 9000000000000), false)
 | _ => none
theorem ok_clock_wider : Ok Tryz.prog 132 con_clock_wider := by
 refine Ok.fn (ann := ann_clock_wider) mixed tabOK VS19 ValidIt.no (fn := Tryz.f132) (by kernel_rfl) (by kernel_rfl) fit_clock_wider fun args r pre fresh h hp => ?_
 unfold con_clock_wider at h
 split at h
 ·rename_i r0 r1 n
  cases h
  refine ⟨rfl, fun _ _ _ => False, _, LeA.refl _, Nat.le_of_ble_eq_true (by kernel_rfl), ?_, ?_⟩
  ·rw [ev_clock_wider]; exact spec_clock_wider r0 r1 n hp
  ·rw [lp_clock_wider]; trivial
 ·cases h
def S20 : Sum := addS S19 132 con_clock_wider
theorem VS20 : Valid Tryz.prog S20 := Valid.add VS19 ok_clock_wider
def vc_clock_common (r0 r1 : Int) (q0 q1 : Int) (post : DV → Prop) : Prop := lt ((if q0 > r0 then q0 else r0)) fun x1 => lt ((if q1 < r1 then q1 else r1)) fun x2 => post (.t (.a [.v (.int .i64 x1), .v (.int .i64 x2)]))
def ann_clock_common : Ann := ⟨fun _ => none, fun _ => none, fun _ => [], noIt, false, fun _ => none, fun _ => none⟩
theorem ev_clock_common (J : Inv) (r0 r1 : Int) (q0 q1 : Int) (post : DV → Prop) : evFn Tryz.prog tab S20 ann_clock_common J Tryz.f107 [.t (.a [.v (.int .i64 r0), .v (.int .i64 r1)]), .t (.a [.v (.int .i64 q0), .v (.int .i64 q1)])] post = vc_clock_common r0 r1 q0 q1 post := by kernel_rfl
theorem fit_clock_common : okFn ann_clock_common Tryz.f107 = true := by kernel_rfl
theorem lp_clock_common (J : Inv) (post : DV → Prop) : AllG J (loopsFn Tryz.prog tab S20 ann_clock_common J Tryz.f107 post) = (True) := by kernel_rfl
theorem spec_clock_common (r0 r1 : Int) (q0 q1 : Int) : vc_clock_common r0 r1 q0 q1 (fun r => LeD r (.t (.a [.v (.int .i64 ((meetR (⟨r0, r1⟩ : Rg) (⟨q0, q1⟩ : Rg)).lo)), .v (.int .i64 ((meetR (⟨r0, r1⟩ : Rg) (⟨q0, q1⟩ : Rg)).hi))]))) := by
 unfold vc_clock_common
 refine lt_i fun x1 g1 => lt_i fun x2 g2 => ?_
 rw [mx_if] at g1
 rw [mn_if] at g2
 subst g1 g2
 exact LeD.refl _
def con_clock_common : Con := fun args => match args with
 | [.t (.a [.v (.int .i64 r0), .v (.int .i64 r1)]), .t (.a [.v (.int .i64 q0), .v (.int .i64 q1)])] => some (.t (.a [.v (.int .i64 ((meetR (⟨r0, r1⟩ : Rg) (⟨q0, q1⟩ : Rg)).lo)), .v (.int .i64 ((meetR (⟨r0, r1⟩ : Rg) (⟨q0, q1⟩ : Rg)).hi))]), none, false)
 | _ => none
theorem ok_clock_common : Ok Tryz.prog 107 con_clock_common := by
 refine Ok.fn (ann := ann_clock_common) mixed tabOK VS20 ValidIt.no (fn := Tryz.f107) (by kernel_rfl) (by kernel_rfl) fit_clock_common fun args r pre fresh h hp => ?_
 unfold con_clock_common at h
 split at h
 ·rename_i r0 r1 q0 q1
  cases h
  refine ⟨rfl, fun _ _ _ => False, _, LeA.refl _, Nat.le_of_ble_eq_true (by kernel_rfl), ?_, ?_⟩
  ·rw [ev_clock_common]; exact spec_clock_common r0 r1 q0 q1
  ·rw [lp_clock_common]; trivial
 ·cases h
def S21 : Sum := addS S20 107 con_clock_common
theorem VS21 : Valid Tryz.prog S21 := Valid.add VS20 ok_clock_common
end Go.Proofs.YtlapeoboekchpaaGreatDoor
set_option linter.unusedVariables false
set_option linter.unusedSimpArgs false
namespace Go.Proofs.YtlapeoboekchpaaGreatDoor
open Go.RowKit Ev
def trk (c : Cab) (l : List Png) (s : List Rg) : Prop := trOk c l ∧ (∀ i, i < l.length → canB c (pngAt l i) = true) ∧ s = allT c l
def trN (c : Cab) (l : List Png) (s : List Rg) : Prop := s = [] ∨ trk c l s
def paV (c : Cab) (l : List Png) (s : List Rg) : List Int := if s.length = 0 then [] else prL c l
theorem trN_trk {c : Cab} {l : List Png} {s : List Rg} {k : Nat} (h : trN c l s) (hk : k < s.length) : trk c l s := by
 rcases h with rfl | h
 ·simp at hk
 ·exact h
def apN (c : Cab) (l : List Png) (i k : Nat) : Prop := ∀ a b, (a < i ∨ (a = i ∧ b < k)) → a < b → b < l.length → apB c (pngAt l a) (pngAt l b) = false
theorem apN_next {c : Cab} {l : List Png} {i : Nat} (h : apN c l i 0) : apN c l i (i + 1) := fun a b h1 h2 h3 => h a b (by omega) h2 h3
theorem apN_row {c : Cab} {l : List Png} {i : Nat} (h : apN c l i l.length) : apN c l (i + 1) 0 := fun a b h1 h2 h3 => h a b (by omega) h2 h3
theorem apN_step {c : Cab} {l : List Png} {i k : Nat} (h : apN c l i k) (g : apB c (pngAt l i) (pngAt l k) = false) : apN c l i (k + 1) := fun a b h1 h2 h3 => by
 by_cases e : a = i ∧ b = k
 ·rw [e.1, e.2]; exact g
 ·exact h a b (by omega) h2 h3
theorem apN_pB {c : Cab} {l : List Png} {i k : Nat} (h : apN c l i k) (hk : k ≤ l.length) {j : Nat} (hj : j < i * l.length + k) : pB c l j = false := by
 unfold pB
 by_cases e : j / l.length < j % l.length
 ·have hn : 0 < l.length := by
   rcases Nat.eq_zero_or_pos l.length with q | q
   ·rw [q] at e; simp at e
    have : k = 0 := by omega
    rw [q, this] at hj; omega
   ·exact q
  have ej : j / l.length * l.length + j % l.length = j := by rw [Nat.mul_comm]; exact Nat.div_add_mod j l.length
  have hm := Nat.mod_lt j hn
  rw [h (j / l.length) (j % l.length) ?_ e hm, Bool.and_false]
  by_cases a : j / l.length < i
  ·exact Or.inl a
  ·refine Or.inr ?_
   have b : j / l.length = i := by
    rcases (by omega : j / l.length = i ∨ i + 1 ≤ j / l.length) with b | b
    ·exact b
    ·have := Nat.mul_le_mul_right l.length b
     rw [Nat.add_mul, Nat.one_mul] at this
     omega
   rw [b] at ej
   exact ⟨b, by omega⟩
 ·rw [decide_eq_false e]; rfl
theorem apN_none {c : Cab} {l : List Png} (h : apN c l l.length 0) : prL c l = [] := prL_none fun j hj => apN_pB h (Nat.zero_le _) (by omega)
theorem apN_at {c : Cab} {l : List Png} {i k : Nat} (hi : i < k) (hk : k < l.length) (g : apB c (pngAt l i) (pngAt l k) = true) (h : apN c l i k) : prL c l = [(i : Int), (k : Int)] := prL_at hi hk g fun j hj => apN_pB h (by omega) hj
theorem opT_all {c : Cab} {l : List Png} (h : trE c l = 0) (g : badI c l < 0) : opT c l = allT c l := by unfold opT allT; rw [if_pos h, (bad_none g).2]
theorem trk_all {c : Cab} {l : List Png} (h : trE c l = 0) (g : badI c l < 0) : trk c l (allT c l) := ⟨trE_0.1 h, (bad_none g).1, rfl⟩
theorem paV_all {c : Cab} {l : List Png} (h : trE c l = 0) : paV c l (allT c l) = prL c l := by
 have := (trE_0.1 h).2.1
 unfold paV
 rw [if_neg (by rw [allT_len]; omega)]
theorem opT_trN {c : Cab} (l : List Png) (h : opB c l < 0) : trN c l (opT c l) := by
 by_cases g : trE c l = 0
 ·rw [show opB c l = badI c l from if_pos g] at h
  rw [opT_all g h]
  exact Or.inr (trk_all g h)
 ·exact Or.inl (if_neg g)
theorem ob_false {c : Cab} {l : List Png} {n : Int} (h : ¬ opB c l < 0) : firstNZ [trE c l, unl (tkB n) 2, unl false 13] = obE c l n := by
 unfold obE
 by_cases g : trE c l = 0
 ·rw [show opB c l = badI c l from if_pos g] at h
  rw [show clB c l = false by unfold clB; rw [decide_eq_false h]; rfl]
 ·simp [firstNZ, g]
theorem ob_true {c : Cab} {l : List Png} {n : Int} (h : opB c l < 0) : firstNZ [trE c l, unl (tkB n) 2, unl (((paV c l (opT c l)).length : Int) == 0) 13] = obE c l n := by
 unfold obE
 by_cases g : trE c l = 0
 ·rw [show opB c l = badI c l from if_pos g] at h
  rw [opT_all g h, paV_all g, show clB c l = decide (((prL c l).length : Int) = 0) by unfold clB; rw [decide_eq_true h, Bool.true_and]]
  rfl
 ·simp [firstNZ, g]
theorem ob_ok {c : Cab} {l : List Png} {n : Int} (h : obE c l n = 0) : trk c l (opT c l) ∧ 0 ≤ n ∧ n ≤ 1000000000000 := by
 obtain ⟨h1, h2, h3⟩ := fn3 (show firstNZ [trE c l, unl (tkB n) 2, unl (clB c l) 13] = 0 from h)
 rw [unl_0 (by decide)] at h2 h3
 unfold clB at h3
 rw [Bool.and_eq_true, decide_eq_true_eq] at h3
 rw [opT_all h1 h3.1]
 exact ⟨trk_all h1 h3.1, tkB_iff.1 h2⟩
theorem le_tu3 {a a' b b' d d' : TV} (h1 : LeD (.t a) (.t a')) (h2 : LeD (.t b) (.t b')) (h3 : LeD (.t d) (.t d')) : LeD (.tu [a, b, d]) (.tu [a', b', d']) := by
 rintro w N v ⟨vs, e, g⟩
 match vs, g with
 | [x, y, z], g => exact ⟨[x, y, z], e, h1 w N x g.1, h2 w N y g.2.1, h3 w N z g.2.2.1, trivial⟩
 | [], g => exact g.elim
 | [_], g => exact g.2.elim
 | [_, _], g => exact g.2.2.elim
 | _ :: _ :: _ :: _ :: _, g => exact g.2.2.2.elim
theorem leC_rgs (l : List Rg) : LeC1 (.sl 2 (l.map rgCv).length (genC (l.map rgCv))) (.sl 2 l.length (rgsC l)) := by
 rw [List.length_map]
 exact leSlC fun i j hi hj => by
  rw [show genC (l.map rgCv) i j = rgsC l i j by
   unfold genC rgsC rgAt
   rcases (by omega : j = 0 ∨ j = 1) with rfl | rfl <;> simp [List.getD_eq_getElem?_getD, List.getElem?_map, List.getElem?_eq_getElem hi, rgCv]]
  exact LeC1.refl _
def mk_clock_CheckTrack_0 (c0 : Int) (c1 : Int) (l : List Png) (v0_0 : Int) : DS := ⟨[none, some (.t (.c (.p 1 0))), none, none, none, none, none, none, none, none, none, none, none, none, none, none, none, none, none, none, none, none, none, none, none, none, none, none, none, some (.t (.c (.sl 4 l.length (pngsC l)))), some (.t (.c (.v (.int .i64 ((l.length : Nat) : Int))))), some (.t (.c (.v (.int .i64 v0_0)))), none, none, none, none, none, none, none, none, none, none, none, none, none, none, none, none, none, none, none, none, none, none, none, none, none, none, none, none, none, none, none, none, none, none, none, none, none, none], [none, some (.box 77 [.v (.int .i64 c0), .v (.int .i64 c1), .sl 4 l.length (pngsC l)]), none, none, none, none, none, none, none, none, none, none, none, none, none, none, none, none, none, none, none, none, none, none, none, none, none, none, none, none, none, none, none, none, none, none, none, none, none, none, none, none, none, none, none, none, none, none, none, none, none, none, none, none, none, none, none, none, none, none, none, none, none, none, none, none, none, none, none, none]⟩
def vc_clock_CheckTrack (J : Inv) (c0 : Int) (c1 : Int) (l : List Png) (post : DV → Prop) : Prop := (numsP 1 3 (genC [[.v (.int .i64 (cabE (⟨c0, c1⟩ : Cab)))], [.v (.int .i64 (unl (decide (((l.length : Nat) : Int) > (0 : Int))) (10 : Int)))], [.v (.int .i64 (unl (decide (((l.length : Nat) : Int) ≤ (12 : Int))) (8 : Int)))]]) ∧ (([(cabE (⟨c0, c1⟩ : Cab)), (unl (decide (((l.length : Nat) : Int) > (0 : Int))) (10 : Int)), (unl (decide (((l.length : Nat) : Int) ≤ (12 : Int))) (8 : Int))] : List Int)).length ≤ 100) ∧ (cond ((firstNZ ([(cabE (⟨c0, c1⟩ : Cab)), (unl (decide (((l.length : Nat) : Int) > (0 : Int))) (10 : Int)), (unl (decide (((l.length : Nat) : Int) ≤ (12 : Int))) (8 : Int))] : List Int)) != (0 : Int)) (post (.tu [.c (.v (.int .i64 0)), .c (.v (.int .i64 (firstNZ ([(cabE (⟨c0, c1⟩ : Cab)), (unl (decide (((l.length : Nat) : Int) > (0 : Int))) (10 : Int)), (unl (decide (((l.length : Nat) : Int) ≤ (12 : Int))) (8 : Int))] : List Int))))])) (∃ n, J 0 (n :: []) (mk_clock_CheckTrack_0 c0 c1 l 0)))
def ann_clock_CheckTrack : Ann := ⟨fun r => lookA r [(1, ([[], [0], [0, 1], [], [3], [3, 4], [3, 4, 5], [0, 1, 2, 3, 4, 5, 6], [], [8], [8, 9], [8, 9, 10], [0, 1, 2, 3, 4, 5, 6, 7, 8, 9, 10, 11], [0, 1, 2, 3, 4, 5, 6, 7, 8, 9, 10, 11, 12], [0, 1, 2, 3, 4, 5, 6, 7, 8, 9, 10, 11, 12, 13], [0, 1, 2, 3, 4, 5, 6, 7, 8, 9, 10, 11, 12, 13, 14]], [[12, 17, 22, 23, 24], [12, 17, 22, 23, 24], [17, 22, 23, 24], [12, 17, 22, 23, 24], [12, 17, 22, 23, 24], [12, 17, 22, 23, 24], [12, 17, 22, 23, 24], [22, 23, 24], [12, 17, 22, 23, 24], [12, 17, 22, 23, 24], [12, 17, 22, 23, 24], [12, 17, 22, 23, 24], [23, 24], [24], [], []]))], fun b => lookA b [(0, (none, some ⟨[1, 29, 30, 31], [1], []⟩))], fun _ => [], noIt, false, fun r => lookA r [(8, (3, [8]))], fun _ => none⟩
theorem ev_clock_CheckTrack (J : Inv) (c0 : Int) (c1 : Int) (l : List Png) (post : DV → Prop) : evFn Tryz.prog tab S21 ann_clock_CheckTrack J Tryz.f129 [.t (.a [.v (.int .i64 c0), .v (.int .i64 c1), .sl 4 l.length (pngsC l)])] post = vc_clock_CheckTrack J c0 c1 l post := by kernel_rfl
theorem fit_clock_CheckTrack : okFn ann_clock_CheckTrack Tryz.f129 = true := by kernel_rfl
def rd_clock_CheckTrack_0 (J : Inv) (c0 : Int) (c1 : Int) (l : List Png) (v0_0 : Int) (nn0 : Nat) (post : DV → Prop) : Prop := cond (decide (v0_0 < ((l.length : Nat) : Int))) ((0 ≤ v0_0 ∧ v0_0 < ((l.length : Nat) : Int)) ∧ (lt (IntKind.i64.wrap (v0_0 - (1 : Int))) fun x1 => lt ((if x1 > (0 : Int) then x1 else (0 : Int))) fun x2 => (0 ≤ x2 ∧ x2 < ((l.length : Nat) : Int)) ∧ ((cond (v0_0 == (0 : Int)) ((true = true) ∧ (True)) (cond (decide (((pngAt l v0_0.toNat).sent) ≥ ((pngAt l x2.toNat).back))) (True) ((false = false) ∧ (True)))) ∧ (lt ((bif (v0_0 == (0 : Int)) then true else (bif decide (((pngAt l v0_0.toNat).sent) ≥ ((pngAt l x2.toNat).back)) then decide (((pngAt l v0_0.toNat).arr) ≥ ((pngAt l x2.toNat).ans)) else false))) fun x3 => (numsP 1 2 (genC [[.v (.int .i64 (pngE (pngAt l v0_0.toNat)))], [.v (.int .i64 (unl x3 (9 : Int)))]]) ∧ (([(pngE (pngAt l v0_0.toNat)), (unl x3 (9 : Int))] : List Int)).length ≤ 100) ∧ (cond ((firstNZ ([(pngE (pngAt l v0_0.toNat)), (unl x3 (9 : Int))] : List Int)) != (0 : Int)) (post (.tu [.c (.v (.int .i64 v0_0)), .c (.v (.int .i64 (firstNZ ([(pngE (pngAt l v0_0.toNat)), (unl x3 (9 : Int))] : List Int))))])) (lt (IntKind.i64.wrap (v0_0 + (1 : Int))) fun x4 => J 0 (nn0 :: []) (mk_clock_CheckTrack_0 c0 c1 l x4))))))) (post (.tu [.c (.v (.int .i64 0)), .c (.v (.int .i64 0))]))
theorem er_clock_CheckTrack_0 (J : Inv) (c0 : Int) (c1 : Int) (l : List Png) (v0_0 : Int) (nn0 : Nat) (post : DV → Prop) : round Tryz.prog tab S21 ann_clock_CheckTrack J Tryz.f129 post 0 (nn0 :: []) (mk_clock_CheckTrack_0 c0 c1 l v0_0) = rd_clock_CheckTrack_0 J c0 c1 l v0_0 nn0 post := by kernel_rfl
theorem lp_clock_CheckTrack (J : Inv) (post : DV → Prop) : AllG J (loopsFn Tryz.prog tab S21 ann_clock_CheckTrack J Tryz.f129 post) = (((∀ F s, ¬ J 0 (0 :: F) s) ∧ ∀ n F s, J 0 ((n + 1) :: F) s → round Tryz.prog tab S21 ann_clock_CheckTrack J Tryz.f129 post 0 (n :: F) s) ∧ True) := by kernel_rfl
def J_clock_CheckTrack (c0 : Int) (c1 : Int) (l : List Png) : Inv := fun b F s => match b, F with
 | 0, [nn0] => ∃ (v0_0 : Int), s = mk_clock_CheckTrack_0 c0 c1 l v0_0 ∧ (hdE (⟨c0, c1⟩ : Cab) l = 0 ∧ 0 ≤ v0_0 ∧ v0_0 ≤ l.length ∧ (nn0 : Int) + v0_0 = l.length + 1 ∧ ∀ j : Nat, (j : Int) < v0_0 → stpE l j = 0)
 | _, _ => False
theorem rnd_clock_CheckTrack_0 (c0 : Int) (c1 : Int) (l : List Png) (v0_0 : Int) (nn0 : Nat) (hi : hdE (⟨c0, c1⟩ : Cab) l = 0 ∧ 0 ≤ v0_0 ∧ v0_0 ≤ l.length ∧ ((nn0 + 1) : Int) + v0_0 = l.length + 1 ∧ ∀ j : Nat, (j : Int) < v0_0 → stpE l j = 0) : rd_clock_CheckTrack_0 (J_clock_CheckTrack c0 c1 l) c0 c1 l v0_0 nn0 (fun r => LeD r (.tu [.c (.v (.int .i64 (trI (⟨c0, c1⟩ : Cab) l))), .c (.v (.int .i64 (trE (⟨c0, c1⟩ : Cab) l)))])) := by
 obtain ⟨q, i1, i2, i3, i4⟩ := hi
 obtain ⟨k, rfl⟩ : ∃ k : Nat, v0_0 = k := ⟨v0_0.toNat, by omega⟩
 have hk : (k : Int).toNat = k := rfl
 have z := hdE_0.1 q
 unfold rd_clock_CheckTrack_0
 rw [hk]
 refine cond_i (fun h => ?_) (fun h => ?_)
 ·have hlt : k < l.length := by have := of_decide_eq_true h; omega
  refine ⟨by omega, lt_i fun x1 h1 => lt_i fun x2 h2 => ?_⟩
  rw [wi (by omega)] at h1
  obtain ⟨m, hm⟩ : ∃ m : Nat, x2 = m := ⟨x2.toNat, by split at h2 <;> omega⟩
  have hm2 : m = k - 1 := by split at h2 <;> omega
  subst hm
  subst hm2
  have hm3 : ((k - 1 : Nat) : Int).toNat = k - 1 := rfl
  rw [hm3]
  clear h2
  refine ⟨by omega, ?_, lt_i fun x3 h3 => ⟨⟨numsP_gen [_, _], Nat.le_of_ble_eq_true rfl⟩, ?_⟩⟩
  ·exact cond_i (fun _ => ⟨rfl, trivial⟩) (fun _ => cond_i (fun _ => trivial) (fun _ => ⟨rfl, trivial⟩))
  ·have e : firstNZ [pngE (pngAt l k), unl x3 9] = stpE l k := by
    rw [← h3]
    unfold stpE
    have e1 : ((k : Int) == 0) = decide ((k : Int) = 0) := rfl
    rw [e1]
    cases decide ((k : Int) = 0) <;> cases decide ((pngAt l k).sent ≥ (pngAt l (k - 1)).back) <;> rfl
   rw [e]
   refine cond_i (fun g => ?_) (fun g => lt_i fun x hx => ?_)
   ·have g : stpE l k ≠ 0 := by simpa using g
    exact le2 ((if_pos q).trans (scanI_at (fun j hj => i4 j (by omega)) hlt g)).symm ((if_pos q).trans (scan_at (fun j hj => i4 j (by omega)) hlt g)).symm
   ·have g : stpE l k = 0 := by simpa using g
    rw [wi (by omega)] at hx
    subst hx
    refine ⟨_, rfl, q, by omega, by omega, by omega, fun j hj => ?_⟩
    by_cases c : j = k
    ·rw [c]; exact g
    ·exact i4 j (by omega)
 ·have h := of_decide_eq_false h
  exact le2 ((if_pos q).trans (scanI_end fun j hj => i4 j (by omega))).symm ((if_pos q).trans (scan_end fun j hj => i4 j (by omega))).symm
theorem zero_clock_CheckTrack_0 (c0 : Int) (c1 : Int) (l : List Png) (v0_0 : Int)  (hi : hdE (⟨c0, c1⟩ : Cab) l = 0 ∧ 0 ≤ v0_0 ∧ v0_0 ≤ l.length ∧ (0 : Int) + v0_0 = l.length + 1 ∧ ∀ j : Nat, (j : Int) < v0_0 → stpE l j = 0) : False := by
 omega
theorem spec_clock_CheckTrack (c0 : Int) (c1 : Int) (l : List Png) : vc_clock_CheckTrack (J_clock_CheckTrack c0 c1 l) c0 c1 l (fun r => LeD r (.tu [.c (.v (.int .i64 (trI (⟨c0, c1⟩ : Cab) l))), .c (.v (.int .i64 (trE (⟨c0, c1⟩ : Cab) l)))])) := by
 unfold vc_clock_CheckTrack
 refine ⟨⟨numsP_gen [_, _, _], Nat.le_of_ble_eq_true rfl⟩, cond_i (fun h => ?_) (fun h => ?_)⟩
 ·have h : hdE (⟨c0, c1⟩ : Cab) l ≠ 0 := by unfold hdE; simpa using h
  exact le2 (if_neg h).symm (if_neg h).symm
 ·have h : hdE (⟨c0, c1⟩ : Cab) l = 0 := by unfold hdE; simpa using h
  exact ⟨l.length + 1, 0, rfl, h, by omega, by omega, by omega, fun j hj => by omega⟩
theorem all_clock_CheckTrack (c0 : Int) (c1 : Int) (l : List Png) : AllG (J_clock_CheckTrack c0 c1 l) (loopsFn Tryz.prog tab S21 ann_clock_CheckTrack (J_clock_CheckTrack c0 c1 l) Tryz.f129 (fun r => LeD r (.tu [.c (.v (.int .i64 (trI (⟨c0, c1⟩ : Cab) l))), .c (.v (.int .i64 (trE (⟨c0, c1⟩ : Cab) l)))]))) := by
 rw [lp_clock_CheckTrack]
 refine ⟨⟨?_, ?_⟩, trivial⟩
 ·intro F s h
  obtain _ | ⟨g, F⟩ := F
  case cons => exact h.elim
  obtain ⟨w0, rfl, hi⟩ := h
  exact zero_clock_CheckTrack_0 c0 c1 l w0 hi
 ·intro n F s h
  obtain _ | ⟨g, F⟩ := F
  case cons => exact h.elim
  obtain ⟨w0, rfl, hi⟩ := h
  rw [er_clock_CheckTrack_0]
  exact rnd_clock_CheckTrack_0 c0 c1 l _ _ hi
def con_clock_CheckTrack : Con := fun args => match args with
 | [.t (.a [.v (.int .i64 c0), .v (.int .i64 c1), .sl 4 n_l c_l])] => some (.tu [.c (.v (.int .i64 (trI (⟨c0, c1⟩ : Cab) (listC n_l mkPng c_l)))), .c (.v (.int .i64 (trE (⟨c0, c1⟩ : Cab) (listC n_l mkPng c_l))))], some (numsP 4 n_l c_l), false)
 | _ => none
theorem ok_clock_CheckTrack : Ok Tryz.prog 129 con_clock_CheckTrack := by
 refine Ok.fn (ann := ann_clock_CheckTrack) mixed tabOK VS21 ValidIt.no (fn := Tryz.f129) (by kernel_rfl) (by kernel_rfl) fit_clock_CheckTrack fun args r pre fresh h hp => ?_
 unfold con_clock_CheckTrack at h
 split at h
 ·rename_i c0 c1 n_l c_l
  cases h
  have hp0 := hp
  refine ⟨rfl, J_clock_CheckTrack c0 c1 (listC n_l mkPng c_l), [.t (.a [.v (.int .i64 c0), .v (.int .i64 c1), .sl 4 ((listC n_l mkPng c_l).length) (pngsC (listC n_l mkPng c_l))])], ?_, Nat.le_of_ble_eq_true (by kernel_rfl), ?_, ?_⟩
  ·exact (LeA_cons (leT_a (LeCs.cons (LeC1.refl _) (LeCs.cons (LeC1.refl _) (LeCs.cons ((leL_Png hp0)) LeCs.nil)))) LeA_nil)
  ·rw [ev_clock_CheckTrack]; exact spec_clock_CheckTrack c0 c1 (listC n_l mkPng c_l)
  ·exact all_clock_CheckTrack c0 c1 (listC n_l mkPng c_l)
 ·cases h
def Sb22 : Sum := addS S21 129 con_clock_CheckTrack
theorem VSb22 : Valid Tryz.prog Sb22 := Valid.add VS21 ok_clock_CheckTrack
def mk_clock_open_0 (c0 : Int) (c1 : Int) (l : List Png) (v0_0 : List (List CV)) (v0_1 : List (List CV)) (v0_2 : Int) : DS := ⟨[none, some (.t (.c (.p 1 0))), some (.t (.c (.p 2 0))), none, none, some (.t (.c (.p 5 0))), none, none, none, none, none, none, none, none, none, none, none, none, none, none, none, none, none, none, some (.t (.c (.sl 4 l.length (pngsC l)))), some (.t (.c (.v (.int .i64 ((l.length : Nat) : Int))))), some (.t (.c (.v (.int .i64 v0_2)))), none, none, none, none, none, none, none, none, none, none, none, none, none, none, none, none, none, none, none, none, none, none, none, none, none, none], [some (.gen 51 2 v0_0), some (.box 77 [.v (.int .i64 c0), .v (.int .i64 c1), .sl 4 l.length (pngsC l)]), some (.box 136 [.v (.int .i64 0), .v (.int .i64 0), .v (.slice none 0 0), .os 0]), some (.gen 51 2 v0_1), none, some (.box 136 [.v (.int .i64 c0), .v (.int .i64 c1), .sl 4 l.length (pngsC l), .os 3]), none, none, none, none, none, none, none, none, none, none, none, none, none, none, none, none, none, none, none, none, none, none, none, none, none, none, none, none, none, none, none, none, none, none, none, none, none, none, none, none, none, none, none, none, none, none, none]⟩
def vc_clock_open (J : Inv) (c0 : Int) (c1 : Int) (l : List Png) (post : DV → Prop) : Prop := (numsP 4 l.length (pngsC l)) ∧ (cond ((trE (⟨c0, c1⟩ : Cab) (listC l.length mkPng (pngsC l))) != (0 : Int)) (post (.tu [.a [.v (.int .i64 c0), .v (.int .i64 c1), .sl 4 l.length (pngsC l), .v (.slice none 0 0)], .c (.v (.int .i64 (-1))), .c (.v (.int .i64 (trE (⟨c0, c1⟩ : Cab) (listC l.length mkPng (pngsC l)))))])) (∃ n, J 0 (n :: []) (mk_clock_open_0 c0 c1 l ([]) ([]) 0)))
def ann_clock_open : Ann := ⟨fun r => lookA r [(11, ([[], [0], [], [], [3], [2, 3, 4], [2, 3, 4, 5], [0, 1, 2, 3, 4, 5, 6], [0, 1, 2, 3, 4, 5, 6, 7], [0, 1, 2, 3, 4, 5, 6, 7, 8]], [[47, 48], [47, 48], [47, 48], [47, 48], [47, 48], [48], [], [], [], []]))], fun b => lookA b [(0, (none, some ⟨[1, 2, 5, 24, 25, 26], [1, 2, 5], []⟩))], fun b => (lookA b [(0, [(2, 3, 0, .gen 51 2 []), (5, 3, 3, .gen 51 2 [])])]).getD [], noIt, false, fun _ => none, fun _ => none⟩
theorem ev_clock_open (J : Inv) (c0 : Int) (c1 : Int) (l : List Png) (post : DV → Prop) : evFn Tryz.prog tab Sb22 ann_clock_open J Tryz.f104 [.t (.a [.v (.int .i64 c0), .v (.int .i64 c1), .sl 4 l.length (pngsC l)])] post = vc_clock_open J c0 c1 l post := by kernel_rfl
theorem fit_clock_open : okFn ann_clock_open Tryz.f104 = true := by kernel_rfl
def rd_clock_open_0 (J : Inv) (c0 : Int) (c1 : Int) (l : List Png) (v0_0 : List (List CV)) (v0_1 : List (List CV)) (v0_2 : Int) (nn0 : Nat) (post : DV → Prop) : Prop := cond (decide (v0_2 < ((l.length : Nat) : Int))) ((0 ≤ v0_2 ∧ v0_2 < ((l.length : Nat) : Int)) ∧ ((delOk (⟨c0, c1⟩ : Cab) (pngAt l v0_2.toNat)) ∧ (cond (!(canB (⟨c0, c1⟩ : Cab) (pngAt l v0_2.toNat))) (post (.tu [.a [.v (.int .i64 c0), .v (.int .i64 c1), .sl 4 l.length (pngsC l), .sl 2 v0_1.length (genC v0_1)], .c (.v (.int .i64 v0_2)), .c (.v (.int .i64 0))])) ((rgB (dlR (⟨c0, c1⟩ : Cab) (pngAt l v0_2.toNat)) ∧ -9000000000000 ≤ ((pngAt l v0_2.toNat).sent) ∧ ((pngAt l v0_2.toNat).sent) ≤ 9000000000000) ∧ ((roomP 16 (v0_1.length + ([[.v (.int .i64 (((dlR (⟨c0, c1⟩ : Cab) (pngAt l v0_2.toNat)).lo) + ((pngAt l v0_2.toNat).sent))), .v (.int .i64 (((dlR (⟨c0, c1⟩ : Cab) (pngAt l v0_2.toNat)).hi) + ((pngAt l v0_2.toNat).sent)))]] : List (List CV)).length)) ∧ (lt (IntKind.i64.wrap (v0_2 + (1 : Int))) fun x1 => J 0 (nn0 :: []) (mk_clock_open_0 c0 c1 l v0_0 (v0_1 ++ ([[.v (.int .i64 (((dlR (⟨c0, c1⟩ : Cab) (pngAt l v0_2.toNat)).lo) + ((pngAt l v0_2.toNat).sent))), .v (.int .i64 (((dlR (⟨c0, c1⟩ : Cab) (pngAt l v0_2.toNat)).hi) + ((pngAt l v0_2.toNat).sent)))]] : List (List CV))) x1))))))) (post (.tu [.a [.v (.int .i64 c0), .v (.int .i64 c1), .sl 4 l.length (pngsC l), .sl 2 v0_1.length (genC v0_1)], .c (.v (.int .i64 (-1))), .c (.v (.int .i64 0))]))
theorem er_clock_open_0 (J : Inv) (c0 : Int) (c1 : Int) (l : List Png) (v0_0 : List (List CV)) (v0_1 : List (List CV)) (v0_2 : Int) (nn0 : Nat) (post : DV → Prop) : round Tryz.prog tab Sb22 ann_clock_open J Tryz.f104 post 0 (nn0 :: []) (mk_clock_open_0 c0 c1 l v0_0 v0_1 v0_2) = rd_clock_open_0 J c0 c1 l v0_0 v0_1 v0_2 nn0 post := by kernel_rfl
theorem lp_clock_open (J : Inv) (post : DV → Prop) : AllG J (loopsFn Tryz.prog tab Sb22 ann_clock_open J Tryz.f104 post) = (((∀ F s, ¬ J 0 (0 :: F) s) ∧ ∀ n F s, J 0 ((n + 1) :: F) s → round Tryz.prog tab Sb22 ann_clock_open J Tryz.f104 post 0 (n :: F) s) ∧ True) := by kernel_rfl
def J_clock_open (c0 : Int) (c1 : Int) (l : List Png) : Inv := fun b F s => match b, F with
 | 0, [nn0] => ∃ (v0_0 : List (List CV)) (v0_1 : List (List CV)) (v0_2 : Int), s = mk_clock_open_0 c0 c1 l v0_0 v0_1 v0_2 ∧ (trE (⟨c0, c1⟩ : Cab) l = 0 ∧ 0 ≤ v0_2 ∧ v0_2 ≤ l.length ∧ (nn0 : Int) + v0_2 = l.length + 1 ∧ (∀ j : Nat, (j : Int) < v0_2 → canB (⟨c0, c1⟩ : Cab) (pngAt l j) = true) ∧ v0_1 = ((l.take v0_2.toNat).map (tmR (⟨c0, c1⟩ : Cab))).map rgCv)
 | _, _ => False
theorem rnd_clock_open_0 (c0 : Int) (c1 : Int) (l : List Png) (v0_0 : List (List CV)) (v0_1 : List (List CV)) (v0_2 : Int) (nn0 : Nat) (hi : trE (⟨c0, c1⟩ : Cab) l = 0 ∧ 0 ≤ v0_2 ∧ v0_2 ≤ l.length ∧ ((nn0 + 1) : Int) + v0_2 = l.length + 1 ∧ (∀ j : Nat, (j : Int) < v0_2 → canB (⟨c0, c1⟩ : Cab) (pngAt l j) = true) ∧ v0_1 = ((l.take v0_2.toNat).map (tmR (⟨c0, c1⟩ : Cab))).map rgCv) : rd_clock_open_0 (J_clock_open c0 c1 l) c0 c1 l v0_0 v0_1 v0_2 nn0 (fun r => LeD r (.tu [.a [.v (.int .i64 c0), .v (.int .i64 c1), .sl 4 l.length (pngsC l), .sl 2 ((opT (⟨c0, c1⟩ : Cab) l).length) (rgsC (opT (⟨c0, c1⟩ : Cab) l))], .c (.v (.int .i64 (opB (⟨c0, c1⟩ : Cab) l))), .c (.v (.int .i64 (trE (⟨c0, c1⟩ : Cab) l)))])) := by
 obtain ⟨q, i1, i2, i3, i4, i5⟩ := hi
 obtain ⟨k, rfl⟩ : ∃ k : Nat, v0_2 = k := ⟨v0_2.toNat, by omega⟩
 have hk : (k : Int).toNat = k := rfl
 have z := trE_0.1 q
 have z2 := z.2.1
 rw [hk] at i5
 unfold rd_clock_open_0
 rw [hk]
 refine cond_i (fun h => ?_) (fun h => ?_)
 ·have hlt : k < l.length := by have := of_decide_eq_true h; omega
  have hd := z.del hlt
  have r := del_rg hd
  have hq := hd.2
  unfold pngOk at hq
  refine ⟨by omega, hd, cond_i (fun g => ?_) (fun g => ⟨?_, ?_, lt_i fun x hx => ?_⟩)⟩
  ·have g : canB (⟨c0, c1⟩ : Cab) (pngAt l k) = false := by simpa using g
   have e1 : opB (⟨c0, c1⟩ : Cab) l = k := by
    unfold opB
    rw [if_pos q]
    exact idxP_at (d := Png.zero) hlt (fun j hj => by have := i4 j (by omega); simpa [pngAt] using this) (by simpa [pngAt] using g)
   have e2 : opT (⟨c0, c1⟩ : Cab) l = (l.take k).map (tmR (⟨c0, c1⟩ : Cab)) := by
    unfold opT
    rw [if_pos q, takeWhile_at (k := k) (by omega) (fun j hj => i4 j (by omega)) (fun _ => g)]
   rw [e1, e2, i5, q]
   exact le_tu3 (leT_a (LeCs.cons (LeC1.refl _) (LeCs.cons (LeC1.refl _) (LeCs.cons (LeC1.refl _) (LeCs.cons (leC_rgs _) LeCs.nil))))) (LeD.refl _) (LeD.refl _)
  ·unfold rgB dlR; simp only; omega
  ·rw [i5]; unfold roomP maxLen; simp; omega
  ·have g : canB (⟨c0, c1⟩ : Cab) (pngAt l k) = true := by simpa using g
   rw [wi (by omega)] at hx
   subst hx
   refine ⟨_, _, _, rfl, q, by omega, by omega, by omega, fun j hj => ?_, ?_⟩
   ·by_cases c : j = k
    ·rw [c]; exact g
    ·exact i4 j (by omega)
   ·rw [show ((k : Int) + 1).toNat = k + 1 by omega, pngAt_take hlt, List.map_append, List.map_append, i5, Int.add_comm, Int.add_comm _ (pngAt l k).sent]
    rfl
 ·have h := of_decide_eq_false h
  have e : k = l.length := by omega
  have g : ∀ j, j < l.length → canB (⟨c0, c1⟩ : Cab) (pngAt l j) = true := fun j hj => i4 j (by omega)
  have e1 : opB (⟨c0, c1⟩ : Cab) l = -1 := by
   unfold opB
   rw [if_pos q]
   exact idxP_none (d := Png.zero) fun j hj => by have := g j hj; simpa [pngAt] using this
  have e2 : opT (⟨c0, c1⟩ : Cab) l = (l.take k).map (tmR (⟨c0, c1⟩ : Cab)) := by
   unfold opT
   rw [if_pos q, takeWhile_at (k := k) (by omega) (fun j hj => i4 j (by omega)) (fun hh => by omega)]
  rw [e1, e2, i5, q]
  exact le_tu3 (leT_a (LeCs.cons (LeC1.refl _) (LeCs.cons (LeC1.refl _) (LeCs.cons (LeC1.refl _) (LeCs.cons (leC_rgs _) LeCs.nil))))) (LeD.refl _) (LeD.refl _)
theorem zero_clock_open_0 (c0 : Int) (c1 : Int) (l : List Png) (v0_0 : List (List CV)) (v0_1 : List (List CV)) (v0_2 : Int)  (hi : trE (⟨c0, c1⟩ : Cab) l = 0 ∧ 0 ≤ v0_2 ∧ v0_2 ≤ l.length ∧ (0 : Int) + v0_2 = l.length + 1 ∧ (∀ j : Nat, (j : Int) < v0_2 → canB (⟨c0, c1⟩ : Cab) (pngAt l j) = true) ∧ v0_1 = ((l.take v0_2.toNat).map (tmR (⟨c0, c1⟩ : Cab))).map rgCv) : False := by
 omega
theorem spec_clock_open (c0 : Int) (c1 : Int) (l : List Png) : vc_clock_open (J_clock_open c0 c1 l) c0 c1 l (fun r => LeD r (.tu [.a [.v (.int .i64 c0), .v (.int .i64 c1), .sl 4 l.length (pngsC l), .sl 2 ((opT (⟨c0, c1⟩ : Cab) l).length) (rgsC (opT (⟨c0, c1⟩ : Cab) l))], .c (.v (.int .i64 (opB (⟨c0, c1⟩ : Cab) l))), .c (.v (.int .i64 (trE (⟨c0, c1⟩ : Cab) l)))])) := by
 unfold vc_clock_open
 simp only [pngs_listC, rgs_listC, ints_listC]
 refine ⟨numsP_pngs l, cond_i (fun h => ?_) (fun h => ?_)⟩
 ·have h : trE (⟨c0, c1⟩ : Cab) l ≠ 0 := by simpa using h
  rw [show opT (⟨c0, c1⟩ : Cab) l = [] from if_neg h, show opB (⟨c0, c1⟩ : Cab) l = -1 from if_neg h]
  exact le_tu3 (leT_a (LeCs.cons (LeC1.refl _) (LeCs.cons (LeC1.refl _) (LeCs.cons (LeC1.refl _) (LeCs.cons leC_nil LeCs.nil))))) (LeD.refl _) (LeD.refl _)
 ·have h : trE (⟨c0, c1⟩ : Cab) l = 0 := by simpa using h
  exact ⟨l.length + 1, [], [], 0, rfl, h, by omega, by omega, by omega, fun j hj => by omega, rfl⟩
theorem all_clock_open (c0 : Int) (c1 : Int) (l : List Png) : AllG (J_clock_open c0 c1 l) (loopsFn Tryz.prog tab Sb22 ann_clock_open (J_clock_open c0 c1 l) Tryz.f104 (fun r => LeD r (.tu [.a [.v (.int .i64 c0), .v (.int .i64 c1), .sl 4 l.length (pngsC l), .sl 2 ((opT (⟨c0, c1⟩ : Cab) l).length) (rgsC (opT (⟨c0, c1⟩ : Cab) l))], .c (.v (.int .i64 (opB (⟨c0, c1⟩ : Cab) l))), .c (.v (.int .i64 (trE (⟨c0, c1⟩ : Cab) l)))]))) := by
 rw [lp_clock_open]
 refine ⟨⟨?_, ?_⟩, trivial⟩
 ·intro F s h
  obtain _ | ⟨g, F⟩ := F
  case cons => exact h.elim
  obtain ⟨w0, w1, w2, rfl, hi⟩ := h
  exact zero_clock_open_0 c0 c1 l w0 w1 w2 hi
 ·intro n F s h
  obtain _ | ⟨g, F⟩ := F
  case cons => exact h.elim
  obtain ⟨w0, w1, w2, rfl, hi⟩ := h
  rw [er_clock_open_0]
  exact rnd_clock_open_0 c0 c1 l _ _ _ _ hi
def con_clock_open : Con := fun args => match args with
 | [.t (.a [.v (.int .i64 c0), .v (.int .i64 c1), .sl 4 n_l c_l])] => some (.tu [.a [.v (.int .i64 c0), .v (.int .i64 c1), .sl 4 ((listC n_l mkPng c_l).length) (pngsC (listC n_l mkPng c_l)), .sl 2 ((opT (⟨c0, c1⟩ : Cab) (listC n_l mkPng c_l)).length) (rgsC (opT (⟨c0, c1⟩ : Cab) (listC n_l mkPng c_l)))], .c (.v (.int .i64 (opB (⟨c0, c1⟩ : Cab) (listC n_l mkPng c_l)))), .c (.v (.int .i64 (trE (⟨c0, c1⟩ : Cab) (listC n_l mkPng c_l))))], some (numsP 4 n_l c_l), false)
 | _ => none
theorem ok_clock_open : Ok Tryz.prog 104 con_clock_open := by
 refine Ok.fn (ann := ann_clock_open) mixed tabOK VSb22 ValidIt.no (fn := Tryz.f104) (by kernel_rfl) (by kernel_rfl) fit_clock_open fun args r pre fresh h hp => ?_
 unfold con_clock_open at h
 split at h
 ·rename_i c0 c1 n_l c_l
  cases h
  have hp0 := hp
  refine ⟨rfl, J_clock_open c0 c1 (listC n_l mkPng c_l), [.t (.a [.v (.int .i64 c0), .v (.int .i64 c1), .sl 4 ((listC n_l mkPng c_l).length) (pngsC (listC n_l mkPng c_l))])], ?_, Nat.le_of_ble_eq_true (by kernel_rfl), ?_, ?_⟩
  ·exact (LeA_cons (leT_a (LeCs.cons (LeC1.refl _) (LeCs.cons (LeC1.refl _) (LeCs.cons ((leL_Png hp0)) LeCs.nil)))) LeA_nil)
  ·rw [ev_clock_open]; exact spec_clock_open c0 c1 (listC n_l mkPng c_l)
  ·exact all_clock_open c0 c1 (listC n_l mkPng c_l)
 ·cases h
def Sb23 : Sum := addS Sb22 104 con_clock_open
theorem VSb23 : Valid Tryz.prog Sb23 := Valid.add VSb22 ok_clock_open
def vc_clock_track_by (c0 : Int) (c1 : Int) (l : List Png) (ts : List Rg) (i : Int) (ct : Int) (post : DV → Prop) : Prop := (0 ≤ i ∧ i < ((l.length : Nat) : Int)) ∧ (lt (IntKind.i64.wrap (ct - ((pngAt l i.toNat).arr))) fun x1 => (0 ≤ i ∧ i < ((ts.length : Nat) : Int)) ∧ ((rgB (rgAt ts i.toNat) ∧ -9000000000000 ≤ x1 ∧ x1 ≤ 9000000000000) ∧ ((0 ≤ c0 ∧ c0 ≤ 1000 ∧ -4000000000000 ≤ x1 ∧ x1 ≤ 4000000000000) ∧ ((rgB (⟨(((rgAt ts i.toNat).lo) + x1), (((rgAt ts i.toNat).hi) + x1)⟩ : Rg) ∧ -9000000000000 ≤ (slackI c0 x1) ∧ (slackI c0 x1) ≤ 9000000000000) ∧ (post (.t (.a [.v (.int .i64 ((((rgAt ts i.toNat).lo) + x1) - (slackI c0 x1))), .v (.int .i64 ((((rgAt ts i.toNat).hi) + x1) + (slackI c0 x1)))])))))))
def ann_clock_track_by : Ann := ⟨fun r => lookA r [(2, ([[], [0], [], [0, 1, 2], [0, 1, 2, 3], [], [0, 1, 2, 3, 4, 5], [], [7], [7, 8], [7, 8, 9], [], [0, 1, 2, 3, 4, 5, 6, 7, 8, 9, 10, 11], [0, 1, 2, 3, 4, 5, 6, 7, 8, 9, 10, 11, 12], [0, 1, 2, 3, 4, 5, 6, 7, 8, 9, 10, 11, 12, 13]], [[23, 29, 30], [23, 29, 30], [23, 29, 30], [23, 29, 30], [23, 29, 30], [23, 29, 30], [29, 30], [23, 29, 30], [23, 29, 30], [23, 29, 30], [23, 29, 30], [23, 29, 30], [30], [], []]))], fun _ => none, fun _ => [], noIt, false, fun _ => none, fun _ => none⟩
theorem ev_clock_track_by (J : Inv) (c0 : Int) (c1 : Int) (l : List Png) (ts : List Rg) (i : Int) (ct : Int) (post : DV → Prop) : evFn Tryz.prog tab Sb23 ann_clock_track_by J Tryz.f106 [.t (.a [.v (.int .i64 c0), .v (.int .i64 c1), .sl 4 l.length (pngsC l), .sl 2 ts.length (rgsC ts)]), .t (.c (.v (.int .i64 i))), .t (.c (.v (.int .i64 ct)))] post = vc_clock_track_by c0 c1 l ts i ct post := by kernel_rfl
theorem fit_clock_track_by : okFn ann_clock_track_by Tryz.f106 = true := by kernel_rfl
theorem lp_clock_track_by (J : Inv) (post : DV → Prop) : AllG J (loopsFn Tryz.prog tab Sb23 ann_clock_track_by J Tryz.f106 post) = (True) := by kernel_rfl
theorem spec_clock_track_by (c0 : Int) (c1 : Int) (l : List Png) (ts : List Rg) (i : Int) (ct : Int) (hp : trk (⟨c0, c1⟩ : Cab) l ts ∧ (0 ≤ i ∧ i < (l).length) ∧ 0 ≤ ct ∧ ct ≤ 1000000000000) : vc_clock_track_by c0 c1 l ts i ct (fun r => LeD r (.t (.a [.v (.int .i64 ((byR (⟨c0, c1⟩ : Cab) (pngAt l i.toNat) ct).lo)), .v (.int .i64 ((byR (⟨c0, c1⟩ : Cab) (pngAt l i.toNat) ct).hi))]))) := by
 obtain ⟨⟨z, z1, z2⟩, ⟨i1, i2⟩, n1, n2⟩ := hp
 obtain ⟨k, rfl⟩ : ∃ k : Nat, i = k := ⟨i.toNat, by omega⟩
 have hk : (k : Int).toNat = k := rfl
 have hlt : k < l.length := by omega
 have hd := z.del hlt
 have r := del_rg hd
 have b := by_rg hd ⟨n1, by omega⟩
 have hq := hd.2
 have hc := hd.1
 unfold pngOk at hq
 unfold cabOk at hc
 simp only at hc
 have b2 := b.2.1
 simp only at b2
 unfold vc_clock_track_by
 rw [hk, z2, allT_len, allT_at hlt]
 refine ⟨by omega, lt_i fun x1 h1 => ?_⟩
 rw [wi (by omega)] at h1
 subst h1
 refine ⟨by omega, ⟨?_, by omega, by omega⟩, by omega, ⟨?_, by omega, by omega⟩, ?_⟩
 ·unfold rgB tmR; simp only; omega
 ·unfold rgB tmR; simp only; omega
 ·unfold byR Cab.blo Cab.bhi tmR
  exact LeD.refl _
def con_clock_track_by : Con := fun args => match args with
 | [.t (.a [.v (.int .i64 c0), .v (.int .i64 c1), .sl 4 n_l c_l, .sl 2 n_ts c_ts]), .t (.c (.v (.int .i64 i))), .t (.c (.v (.int .i64 ct)))] => some (.t (.a [.v (.int .i64 ((byR (⟨c0, c1⟩ : Cab) (pngAt (listC n_l mkPng c_l) i.toNat) ct).lo)), .v (.int .i64 ((byR (⟨c0, c1⟩ : Cab) (pngAt (listC n_l mkPng c_l) i.toNat) ct).hi))]), some (numsP 4 n_l c_l ∧ numsP 2 n_ts c_ts ∧ trk (⟨c0, c1⟩ : Cab) (listC n_l mkPng c_l) (listC n_ts mkRg c_ts) ∧ (0 ≤ i ∧ i < ((listC n_l mkPng c_l)).length) ∧ 0 ≤ ct ∧ ct ≤ 1000000000000), false)
 | _ => none
theorem ok_clock_track_by : Ok Tryz.prog 106 con_clock_track_by := by
 refine Ok.fn (ann := ann_clock_track_by) mixed tabOK VSb23 ValidIt.no (fn := Tryz.f106) (by kernel_rfl) (by kernel_rfl) fit_clock_track_by fun args r pre fresh h hp => ?_
 unfold con_clock_track_by at h
 split at h
 ·rename_i c0 c1 n_l c_l n_ts c_ts i ct
  cases h
  obtain ⟨hp0, hp1, hp⟩ := hp
  refine ⟨rfl, fun _ _ _ => False, [.t (.a [.v (.int .i64 c0), .v (.int .i64 c1), .sl 4 ((listC n_l mkPng c_l).length) (pngsC (listC n_l mkPng c_l)), .sl 2 ((listC n_ts mkRg c_ts).length) (rgsC (listC n_ts mkRg c_ts))]), .t (.c (.v (.int .i64 i))), .t (.c (.v (.int .i64 ct)))], ?_, Nat.le_of_ble_eq_true (by kernel_rfl), ?_, ?_⟩
  ·exact (LeA_cons (leT_a (LeCs.cons (LeC1.refl _) (LeCs.cons (LeC1.refl _) (LeCs.cons ((leL_Png hp0)) (LeCs.cons ((leL_Rg hp1)) LeCs.nil))))) (LeA_cons (LeD.refl _) (LeA_cons (LeD.refl _) LeA_nil)))
  ·rw [ev_clock_track_by]; exact spec_clock_track_by c0 c1 (listC n_l mkPng c_l) (listC n_ts mkRg c_ts) i ct hp
  ·rw [lp_clock_track_by]; trivial
 ·cases h
def Sb24 : Sum := addS Sb23 106 con_clock_track_by
theorem VSb24 : Valid Tryz.prog Sb24 := Valid.add VSb23 ok_clock_track_by
def mk_clock_track_at_0 (c0 : Int) (c1 : Int) (l : List Png) (ts : List Rg) (ct : Int) (v0_0 : Int) (v0_1 : Int) (v0_2 : Int) : DS := ⟨[none, some (.t (.c (.v (.int .i64 ct)))), some (.t (.c (.p 2 0))), none, some (.t (.c (.p 4 0))), some (.t (.c (.p 5 0))), none, none, none, none, none, none, some (.t (.c (.v (.int .i64 ((ts.length : Nat) : Int))))), some (.t (.c (.v (.int .i64 v0_2)))), none, none, none, none, none, none, none, none, none, none], [none, none, some (.box 136 [.v (.int .i64 c0), .v (.int .i64 c1), .sl 4 l.length (pngsC l), .sl 2 ts.length (rgsC ts)]), none, some (.box 51 [.v (.int .i64 0), .v (.int .i64 0)]), some (.box 51 [.v (.int .i64 v0_0), .v (.int .i64 v0_1)]), none, none, none, none, none, none, none, none, none, none, none, none, none, none, none, none, none, none]⟩
def vc_clock_track_at (J : Inv) (c0 : Int) (c1 : Int) (l : List Png) (ts : List Rg) (ct : Int) (post : DV → Prop) : Prop := (numsP 4 l.length (pngsC l) ∧ numsP 2 ts.length (rgsC ts) ∧ trk (⟨c0, c1⟩ : Cab) (listC l.length mkPng (pngsC l)) (listC ts.length mkRg (rgsC ts)) ∧ (0 ≤ (0 : Int) ∧ (0 : Int) < ((listC l.length mkPng (pngsC l))).length) ∧ 0 ≤ ct ∧ ct ≤ 1000000000000) ∧ (∃ n, J 0 (n :: []) (mk_clock_track_at_0 c0 c1 l ts ct ((byR (⟨c0, c1⟩ : Cab) (pngAt (listC l.length mkPng (pngsC l)) (0 : Int).toNat) ct).lo) ((byR (⟨c0, c1⟩ : Cab) (pngAt (listC l.length mkPng (pngsC l)) (0 : Int).toNat) ct).hi) 0))
def ann_clock_track_at : Ann := ⟨fun r => lookA r [(5, ([[], [], [], [], [1, 2, 3], [0, 1, 2, 3, 4], [0, 1, 2, 3, 4, 5]], [[20, 21], [20, 21], [20, 21], [20, 21], [21], [], []]))], fun b => lookA b [(0, (none, some ⟨[1, 2, 4, 5, 12, 13], [2, 4, 5], []⟩))], fun _ => [], noIt, false, fun _ => none, fun _ => none⟩
theorem ev_clock_track_at (J : Inv) (c0 : Int) (c1 : Int) (l : List Png) (ts : List Rg) (ct : Int) (post : DV → Prop) : evFn Tryz.prog tab Sb24 ann_clock_track_at J Tryz.f73 [.t (.a [.v (.int .i64 c0), .v (.int .i64 c1), .sl 4 l.length (pngsC l), .sl 2 ts.length (rgsC ts)]), .t (.c (.v (.int .i64 ct)))] post = vc_clock_track_at J c0 c1 l ts ct post := by kernel_rfl
theorem fit_clock_track_at : okFn ann_clock_track_at Tryz.f73 = true := by kernel_rfl
def rd_clock_track_at_0 (J : Inv) (c0 : Int) (c1 : Int) (l : List Png) (ts : List Rg) (ct : Int) (v0_0 : Int) (v0_1 : Int) (v0_2 : Int) (nn0 : Nat) (post : DV → Prop) : Prop := cond (decide (v0_2 < ((ts.length : Nat) : Int))) ((numsP 4 l.length (pngsC l) ∧ numsP 2 ts.length (rgsC ts) ∧ trk (⟨c0, c1⟩ : Cab) (listC l.length mkPng (pngsC l)) (listC ts.length mkRg (rgsC ts)) ∧ (0 ≤ v0_2 ∧ v0_2 < ((listC l.length mkPng (pngsC l))).length) ∧ 0 ≤ ct ∧ ct ≤ 1000000000000) ∧ (lt (IntKind.i64.wrap (v0_2 + (1 : Int))) fun x1 => J 0 (nn0 :: []) (mk_clock_track_at_0 c0 c1 l ts ct ((meetR (⟨v0_0, v0_1⟩ : Rg) (byR (⟨c0, c1⟩ : Cab) (pngAt (listC l.length mkPng (pngsC l)) v0_2.toNat) ct)).lo) ((meetR (⟨v0_0, v0_1⟩ : Rg) (byR (⟨c0, c1⟩ : Cab) (pngAt (listC l.length mkPng (pngsC l)) v0_2.toNat) ct)).hi) x1))) (post (.t (.a [.v (.int .i64 v0_0), .v (.int .i64 v0_1)])))
theorem er_clock_track_at_0 (J : Inv) (c0 : Int) (c1 : Int) (l : List Png) (ts : List Rg) (ct : Int) (v0_0 : Int) (v0_1 : Int) (v0_2 : Int) (nn0 : Nat) (post : DV → Prop) : round Tryz.prog tab Sb24 ann_clock_track_at J Tryz.f73 post 0 (nn0 :: []) (mk_clock_track_at_0 c0 c1 l ts ct v0_0 v0_1 v0_2) = rd_clock_track_at_0 J c0 c1 l ts ct v0_0 v0_1 v0_2 nn0 post := by kernel_rfl
theorem lp_clock_track_at (J : Inv) (post : DV → Prop) : AllG J (loopsFn Tryz.prog tab Sb24 ann_clock_track_at J Tryz.f73 post) = (((∀ F s, ¬ J 0 (0 :: F) s) ∧ ∀ n F s, J 0 ((n + 1) :: F) s → round Tryz.prog tab Sb24 ann_clock_track_at J Tryz.f73 post 0 (n :: F) s) ∧ True) := by kernel_rfl
def J_clock_track_at (c0 : Int) (c1 : Int) (l : List Png) (ts : List Rg) (ct : Int) : Inv := fun b F s => match b, F with
 | 0, [nn0] => ∃ (v0_0 : Int) (v0_1 : Int) (v0_2 : Int), s = mk_clock_track_at_0 c0 c1 l ts ct v0_0 v0_1 v0_2 ∧ ((trk (⟨c0, c1⟩ : Cab) l ts ∧ 0 ≤ ct ∧ ct ≤ 1000000000000) ∧ 0 ≤ v0_2 ∧ v0_2 ≤ l.length ∧ (nn0 : Int) + v0_2 = l.length + 1 ∧ (⟨v0_0, v0_1⟩ : Rg) = atK (⟨c0, c1⟩ : Cab) l ct (v0_2.toNat - 1))
 | _, _ => False
theorem rnd_clock_track_at_0 (c0 : Int) (c1 : Int) (l : List Png) (ts : List Rg) (ct : Int) (v0_0 : Int) (v0_1 : Int) (v0_2 : Int) (nn0 : Nat) (hp : trk (⟨c0, c1⟩ : Cab) l ts ∧ 0 ≤ ct ∧ ct ≤ 1000000000000) (hi : (trk (⟨c0, c1⟩ : Cab) l ts ∧ 0 ≤ ct ∧ ct ≤ 1000000000000) ∧ 0 ≤ v0_2 ∧ v0_2 ≤ l.length ∧ ((nn0 + 1) : Int) + v0_2 = l.length + 1 ∧ (⟨v0_0, v0_1⟩ : Rg) = atK (⟨c0, c1⟩ : Cab) l ct (v0_2.toNat - 1)) : rd_clock_track_at_0 (J_clock_track_at c0 c1 l ts ct) c0 c1 l ts ct v0_0 v0_1 v0_2 nn0 (fun r => LeD r (.t (.a [.v (.int .i64 ((atR (⟨c0, c1⟩ : Cab) l ct).lo)), .v (.int .i64 ((atR (⟨c0, c1⟩ : Cab) l ct).hi))]))) := by
 obtain ⟨q, i1, i2, i3, i4⟩ := hi
 obtain ⟨k, rfl⟩ : ∃ k : Nat, v0_2 = k := ⟨v0_2.toNat, by omega⟩
 have hk : (k : Int).toNat = k := rfl
 have z := q.1.1.2.1
 have hs : ts.length = l.length := by rw [q.1.2.2, allT_len]
 rw [hk] at i4
 unfold rd_clock_track_at_0
 simp only [pngs_listC, rgs_listC, ints_listC]
 rw [hk]
 refine cond_i (fun h => ?_) (fun h => ?_)
 ·have hlt : k < l.length := by have := of_decide_eq_true h; omega
  refine ⟨⟨numsP_pngs l, numsP_rgs ts, q.1, by omega, q.2⟩, lt_i fun x hx => ?_⟩
  rw [wi (by omega)] at hx
  subst hx
  refine ⟨_, _, _, rfl, q, by omega, by omega, by omega, ?_⟩
  rw [show ((k : Int) + 1).toNat - 1 = k by omega, i4]
  rcases Nat.eq_zero_or_pos k with c | c
  ·subst c
   exact meet_self _
  ·have e := atK_succ (c := (⟨c0, c1⟩ : Cab)) (l := l) (n := ct) (k := k - 1) (by omega)
   rw [show k - 1 + 1 = k by omega] at e
   exact e.symm
 ·have h := of_decide_eq_false h
  have e : k = l.length := by omega
  rw [e] at i4
  unfold atR
  rw [← i4]
  exact LeD.refl _
theorem zero_clock_track_at_0 (c0 : Int) (c1 : Int) (l : List Png) (ts : List Rg) (ct : Int) (v0_0 : Int) (v0_1 : Int) (v0_2 : Int)  (hi : (trk (⟨c0, c1⟩ : Cab) l ts ∧ 0 ≤ ct ∧ ct ≤ 1000000000000) ∧ 0 ≤ v0_2 ∧ v0_2 ≤ l.length ∧ (0 : Int) + v0_2 = l.length + 1 ∧ (⟨v0_0, v0_1⟩ : Rg) = atK (⟨c0, c1⟩ : Cab) l ct (v0_2.toNat - 1)) : False := by
 omega
theorem spec_clock_track_at (c0 : Int) (c1 : Int) (l : List Png) (ts : List Rg) (ct : Int) (hp : trk (⟨c0, c1⟩ : Cab) l ts ∧ 0 ≤ ct ∧ ct ≤ 1000000000000) : vc_clock_track_at (J_clock_track_at c0 c1 l ts ct) c0 c1 l ts ct (fun r => LeD r (.t (.a [.v (.int .i64 ((atR (⟨c0, c1⟩ : Cab) l ct).lo)), .v (.int .i64 ((atR (⟨c0, c1⟩ : Cab) l ct).hi))]))) := by
 unfold vc_clock_track_at
 simp only [pngs_listC, rgs_listC, ints_listC]
 have z := hp.1.1.2.1
 exact ⟨⟨numsP_pngs l, numsP_rgs ts, hp.1, by omega, hp.2⟩, l.length + 1, _, _, 0, rfl, hp, by omega, by omega, by omega, rfl⟩
theorem all_clock_track_at (c0 : Int) (c1 : Int) (l : List Png) (ts : List Rg) (ct : Int) (hp : trk (⟨c0, c1⟩ : Cab) l ts ∧ 0 ≤ ct ∧ ct ≤ 1000000000000) : AllG (J_clock_track_at c0 c1 l ts ct) (loopsFn Tryz.prog tab Sb24 ann_clock_track_at (J_clock_track_at c0 c1 l ts ct) Tryz.f73 (fun r => LeD r (.t (.a [.v (.int .i64 ((atR (⟨c0, c1⟩ : Cab) l ct).lo)), .v (.int .i64 ((atR (⟨c0, c1⟩ : Cab) l ct).hi))])))) := by
 rw [lp_clock_track_at]
 refine ⟨⟨?_, ?_⟩, trivial⟩
 ·intro F s h
  obtain _ | ⟨g, F⟩ := F
  case cons => exact h.elim
  obtain ⟨w0, w1, w2, rfl, hi⟩ := h
  exact zero_clock_track_at_0 c0 c1 l ts ct w0 w1 w2 hi
 ·intro n F s h
  obtain _ | ⟨g, F⟩ := F
  case cons => exact h.elim
  obtain ⟨w0, w1, w2, rfl, hi⟩ := h
  rw [er_clock_track_at_0]
  exact rnd_clock_track_at_0 c0 c1 l ts ct _ _ _ _ hp hi
def con_clock_track_at : Con := fun args => match args with
 | [.t (.a [.v (.int .i64 c0), .v (.int .i64 c1), .sl 4 n_l c_l, .sl 2 n_ts c_ts]), .t (.c (.v (.int .i64 ct)))] => some (.t (.a [.v (.int .i64 ((atR (⟨c0, c1⟩ : Cab) (listC n_l mkPng c_l) ct).lo)), .v (.int .i64 ((atR (⟨c0, c1⟩ : Cab) (listC n_l mkPng c_l) ct).hi))]), some (numsP 4 n_l c_l ∧ numsP 2 n_ts c_ts ∧ trk (⟨c0, c1⟩ : Cab) (listC n_l mkPng c_l) (listC n_ts mkRg c_ts) ∧ 0 ≤ ct ∧ ct ≤ 1000000000000), false)
 | _ => none
theorem ok_clock_track_at : Ok Tryz.prog 73 con_clock_track_at := by
 refine Ok.fn (ann := ann_clock_track_at) mixed tabOK VSb24 ValidIt.no (fn := Tryz.f73) (by kernel_rfl) (by kernel_rfl) fit_clock_track_at fun args r pre fresh h hp => ?_
 unfold con_clock_track_at at h
 split at h
 ·rename_i c0 c1 n_l c_l n_ts c_ts ct
  cases h
  obtain ⟨hp0, hp1, hp⟩ := hp
  refine ⟨rfl, J_clock_track_at c0 c1 (listC n_l mkPng c_l) (listC n_ts mkRg c_ts) ct, [.t (.a [.v (.int .i64 c0), .v (.int .i64 c1), .sl 4 ((listC n_l mkPng c_l).length) (pngsC (listC n_l mkPng c_l)), .sl 2 ((listC n_ts mkRg c_ts).length) (rgsC (listC n_ts mkRg c_ts))]), .t (.c (.v (.int .i64 ct)))], ?_, Nat.le_of_ble_eq_true (by kernel_rfl), ?_, ?_⟩
  ·exact (LeA_cons (leT_a (LeCs.cons (LeC1.refl _) (LeCs.cons (LeC1.refl _) (LeCs.cons ((leL_Png hp0)) (LeCs.cons ((leL_Rg hp1)) LeCs.nil))))) (LeA_cons (LeD.refl _) LeA_nil))
  ·rw [ev_clock_track_at]; exact spec_clock_track_at c0 c1 (listC n_l mkPng c_l) (listC n_ts mkRg c_ts) ct hp
  ·exact all_clock_track_at c0 c1 (listC n_l mkPng c_l) (listC n_ts mkRg c_ts) ct hp
 ·cases h
def Sb25 : Sum := addS Sb24 73 con_clock_track_at
theorem VSb25 : Valid Tryz.prog Sb25 := Valid.add VSb24 ok_clock_track_at
def mk_clock_track_pair_0 (c0 : Int) (c1 : Int) (l : List Png) (ts : List Rg) (v0_0 : Int) : DS := ⟨[none, some (.t (.c (.p 1 0))), none, none, none, none, none, none, some (.t (.c (.v (.int .i64 ((ts.length : Nat) : Int))))), some (.t (.c (.v (.int .i64 v0_0)))), none, none, none, none, none, none, none, none, none, none, none, none, none, none, none, none, none, none, none, none, none, none, none, none, none, none, none, none, none, none, none, none, none, none, none, none], [none, some (.box 136 [.v (.int .i64 c0), .v (.int .i64 c1), .sl 4 l.length (pngsC l), .sl 2 ts.length (rgsC ts)]), none, none, none, none, none, none, none, none, none, none, none, none, none, none, none, none, none, none, none, none, none, none, none, none, none, none, none, none, none, none, none, none, none, none, none, none, none, none, none, none, none, none, none, none]⟩
def mk_clock_track_pair_2 (c0 : Int) (c1 : Int) (l : List Png) (ts : List Rg) (v2_0 : Int) (v2_1 : Int) (v2_2 : Int) : DS := ⟨[none, some (.t (.c (.p 1 0))), none, some (.t (.c (.v (.int .i64 v2_0)))), some (.t (.c (.v (.int .i64 v2_1)))), none, none, none, some (.t (.c (.v (.int .i64 ((ts.length : Nat) : Int))))), some (.t (.c (.v (.int .i64 v2_2)))), none, none, none, none, none, none, none, none, none, none, none, none, none, none, none, none, none, none, none, none, none, none, none, none, none, none, none, none, none, none, none, none, none, none, none, none], [none, some (.box 136 [.v (.int .i64 c0), .v (.int .i64 c1), .sl 4 l.length (pngsC l), .sl 2 ts.length (rgsC ts)]), none, none, none, none, none, none, none, none, none, none, none, none, none, none, none, none, none, none, none, none, none, none, none, none, none, none, none, none, none, none, none, none, none, none, none, none, none, none, none, none, none, none, none, none]⟩
def vc_clock_track_pair (J : Inv) (c0 : Int) (c1 : Int) (l : List Png) (ts : List Rg) (post : DV → Prop) : Prop := ∃ n, J 0 (n :: []) (mk_clock_track_pair_0 c0 c1 l ts 0)
def ann_clock_track_pair : Ann := ⟨fun r => lookA r [(7, ([[], [0], [], [0, 1, 2], [0, 1, 2, 3], [], [], [], [7], [7, 8], [], [7, 8, 9, 10], [7, 8, 9, 10, 11], [7, 8, 9, 10, 11, 12], [5, 6, 7, 8, 9, 10, 11, 12, 13], [0, 1, 2, 3, 4, 5, 6, 7, 8, 9, 10, 11, 12, 13, 14], [], [0, 1, 2, 3, 4, 5, 6, 7, 8, 9, 10, 11, 12, 13, 14, 15, 16]], [[35, 36, 5], [35, 36, 5], [35, 36, 5], [35, 36, 5], [35, 36, 5], [35, 36, 5], [35, 36, 5], [35, 36, 5], [35, 36, 5], [35, 36, 5], [35, 36, 5], [35, 36, 5], [35, 36, 5], [35, 36, 5], [36, 5], [5], [35, 36], []]))], fun b => lookA b [(0, (none, some ⟨[1, 8, 9], [1], []⟩)), (2, (none, some ⟨[1, 3, 4, 8, 9], [1], []⟩))], fun _ => [], noIt, false, fun _ => none, fun _ => none⟩
theorem ev_clock_track_pair (J : Inv) (c0 : Int) (c1 : Int) (l : List Png) (ts : List Rg) (post : DV → Prop) : evFn Tryz.prog tab Sb25 ann_clock_track_pair J Tryz.f105 [.t (.a [.v (.int .i64 c0), .v (.int .i64 c1), .sl 4 l.length (pngsC l), .sl 2 ts.length (rgsC ts)])] post = vc_clock_track_pair J c0 c1 l ts post := by kernel_rfl
theorem fit_clock_track_pair : okFn ann_clock_track_pair Tryz.f105 = true := by kernel_rfl
def rd_clock_track_pair_0 (J : Inv) (c0 : Int) (c1 : Int) (l : List Png) (ts : List Rg) (v0_0 : Int) (nn0 : Nat) (post : DV → Prop) : Prop := cond (decide (v0_0 < ((ts.length : Nat) : Int))) (lt (IntKind.i64.wrap (v0_0 + (1 : Int))) fun x1 => ∃ n, J 2 (n :: nn0 :: []) (mk_clock_track_pair_2 c0 c1 l ts v0_0 x1 v0_0)) (post (.t (.c (.v (.slice none 0 0)))))
theorem er_clock_track_pair_0 (J : Inv) (c0 : Int) (c1 : Int) (l : List Png) (ts : List Rg) (v0_0 : Int) (nn0 : Nat) (post : DV → Prop) : round Tryz.prog tab Sb25 ann_clock_track_pair J Tryz.f105 post 0 (nn0 :: []) (mk_clock_track_pair_0 c0 c1 l ts v0_0) = rd_clock_track_pair_0 J c0 c1 l ts v0_0 nn0 post := by kernel_rfl
def rd_clock_track_pair_2 (J : Inv) (c0 : Int) (c1 : Int) (l : List Png) (ts : List Rg) (v2_0 : Int) (v2_1 : Int) (v2_2 : Int) (nn2 nn0 : Nat) (post : DV → Prop) : Prop := cond (decide (v2_1 < ((ts.length : Nat) : Int))) ((0 ≤ v2_1 ∧ v2_1 < ((ts.length : Nat) : Int)) ∧ ((0 ≤ v2_1 ∧ v2_1 < ((l.length : Nat) : Int)) ∧ ((numsP 4 l.length (pngsC l) ∧ numsP 2 ts.length (rgsC ts) ∧ trk (⟨c0, c1⟩ : Cab) (listC l.length mkPng (pngsC l)) (listC ts.length mkRg (rgsC ts)) ∧ (0 ≤ v2_0 ∧ v2_0 < ((listC l.length mkPng (pngsC l))).length) ∧ 0 ≤ ((pngAt l v2_1.toNat).arr) ∧ ((pngAt l v2_1.toNat).arr) ≤ 1000000000000) ∧ (cond (decide (((meetR (rgAt ts v2_1.toNat) (byR (⟨c0, c1⟩ : Cab) (pngAt (listC l.length mkPng (pngsC l)) v2_0.toNat) ((pngAt l v2_1.toNat).arr))).lo) > ((meetR (rgAt ts v2_1.toNat) (byR (⟨c0, c1⟩ : Cab) (pngAt (listC l.length mkPng (pngsC l)) v2_0.toNat) ((pngAt l v2_1.toNat).arr))).hi))) (post (.t (.c (.sl 1 2 (genC [[.v (.int .i64 v2_0)], [.v (.int .i64 v2_1)]]))))) (lt (IntKind.i64.wrap (v2_1 + (1 : Int))) fun x1 => J 2 (nn2 :: nn0 :: []) (mk_clock_track_pair_2 c0 c1 l ts v2_0 x1 v2_2)))))) (lt (IntKind.i64.wrap (v2_2 + (1 : Int))) fun x2 => J 0 (nn0 :: []) (mk_clock_track_pair_0 c0 c1 l ts x2))
theorem er_clock_track_pair_2 (J : Inv) (c0 : Int) (c1 : Int) (l : List Png) (ts : List Rg) (v2_0 : Int) (v2_1 : Int) (v2_2 : Int) (nn2 nn0 : Nat) (post : DV → Prop) : round Tryz.prog tab Sb25 ann_clock_track_pair J Tryz.f105 post 1 (nn2 :: nn0 :: []) (mk_clock_track_pair_2 c0 c1 l ts v2_0 v2_1 v2_2) = rd_clock_track_pair_2 J c0 c1 l ts v2_0 v2_1 v2_2 nn2 nn0 post := by kernel_rfl
theorem lp_clock_track_pair (J : Inv) (post : DV → Prop) : AllG J (loopsFn Tryz.prog tab Sb25 ann_clock_track_pair J Tryz.f105 post) = (((∀ F s, ¬ J 0 (0 :: F) s) ∧ ∀ n F s, J 0 ((n + 1) :: F) s → round Tryz.prog tab Sb25 ann_clock_track_pair J Tryz.f105 post 0 (n :: F) s) ∧ ((∀ F s, ¬ J 2 (0 :: F) s) ∧ ∀ n F s, J 2 ((n + 1) :: F) s → round Tryz.prog tab Sb25 ann_clock_track_pair J Tryz.f105 post 1 (n :: F) s) ∧ True) := by kernel_rfl
def J_clock_track_pair (c0 : Int) (c1 : Int) (l : List Png) (ts : List Rg) : Inv := fun b F s => match b, F with
 | 0, [nn0] => ∃ (v0_0 : Int), s = mk_clock_track_pair_0 c0 c1 l ts v0_0 ∧ (trN (⟨c0, c1⟩ : Cab) l ts ∧ 0 ≤ v0_0 ∧ v0_0 ≤ ts.length ∧ (nn0 : Int) + v0_0 = ts.length + 1 ∧ apN (⟨c0, c1⟩ : Cab) l v0_0.toNat 0)
 | 2, [nn2, nn0] => ∃ (v2_0 : Int) (v2_1 : Int) (v2_2 : Int), s = mk_clock_track_pair_2 c0 c1 l ts v2_0 v2_1 v2_2 ∧ (trk (⟨c0, c1⟩ : Cab) l ts ∧ (0 ≤ v2_0 ∧ v2_0 < ts.length ∧ (nn0 : Int) + v2_0 = ts.length) ∧ v2_2 = v2_0 ∧ (v2_0 < v2_1 ∧ v2_1 ≤ ts.length ∧ (nn2 : Int) + v2_1 = ts.length + 1) ∧ apN (⟨c0, c1⟩ : Cab) l v2_0.toNat v2_1.toNat)
 | _, _ => False
set_option maxHeartbeats 8000000 in
set_option maxRecDepth 100000 in
theorem rnd_clock_track_pair_0 (c0 : Int) (c1 : Int) (l : List Png) (ts : List Rg) (v0_0 : Int) (nn0 : Nat) (hp : trN (⟨c0, c1⟩ : Cab) l ts) (hi : trN (⟨c0, c1⟩ : Cab) l ts ∧ 0 ≤ v0_0 ∧ v0_0 ≤ ts.length ∧ ((nn0 + 1) : Int) + v0_0 = ts.length + 1 ∧ apN (⟨c0, c1⟩ : Cab) l v0_0.toNat 0) : rd_clock_track_pair_0 (J_clock_track_pair c0 c1 l ts) c0 c1 l ts v0_0 nn0 (fun r => LeD r (.t (.c (.sl 1 ((paV (⟨c0, c1⟩ : Cab) l ts).length) (intsC (paV (⟨c0, c1⟩ : Cab) l ts)))))) := by
 obtain ⟨q, i1, i2, i3, i4⟩ := hi
 obtain ⟨k, rfl⟩ : ∃ k : Nat, v0_0 = k := ⟨v0_0.toNat, by omega⟩
 have hk : (k : Int).toNat = k := rfl
 rw [hk] at i4
 unfold rd_clock_track_pair_0
 refine cond_i (fun h => ?_) (fun h => ?_)
 ·have hlt : k < ts.length := by have := of_decide_eq_true h; omega
  have t := trN_trk q hlt
  have z := t.1.2.1
  have hs : ts.length = l.length := by rw [t.2.2, allT_len]
  refine lt_i fun x hx => ?_
  rw [wi (by omega)] at hx
  subst hx
  refine ⟨ts.length - k, _, _, _, rfl, t, ⟨by omega, by omega, by omega⟩, rfl, by omega, ?_⟩
  rw [show ((k : Int) + 1).toNat = k + 1 by omega, hk]
  exact apN_next i4
 ·have h := of_decide_eq_false h
  have e : paV (⟨c0, c1⟩ : Cab) l ts = [] := by
   unfold paV
   split
   ·rfl
   ·rename_i c
    have t := trN_trk q (Nat.pos_of_ne_zero c)
    have hs : ts.length = l.length := by rw [t.2.2, allT_len]
    exact apN_none (by rw [← hs, show ts.length = k by omega]; exact i4)
  rw [e]
  exact le_nil
theorem zero_clock_track_pair_0 (c0 : Int) (c1 : Int) (l : List Png) (ts : List Rg) (v0_0 : Int)  (hi : trN (⟨c0, c1⟩ : Cab) l ts ∧ 0 ≤ v0_0 ∧ v0_0 ≤ ts.length ∧ (0 : Int) + v0_0 = ts.length + 1 ∧ apN (⟨c0, c1⟩ : Cab) l v0_0.toNat 0) : False := by
 omega
set_option maxHeartbeats 8000000 in
set_option maxRecDepth 100000 in
theorem rnd_clock_track_pair_2 (c0 : Int) (c1 : Int) (l : List Png) (ts : List Rg) (v2_0 : Int) (v2_1 : Int) (v2_2 : Int) (nn2 nn0 : Nat) (hp : trN (⟨c0, c1⟩ : Cab) l ts) (hi : trk (⟨c0, c1⟩ : Cab) l ts ∧ (0 ≤ v2_0 ∧ v2_0 < ts.length ∧ (nn0 : Int) + v2_0 = ts.length) ∧ v2_2 = v2_0 ∧ (v2_0 < v2_1 ∧ v2_1 ≤ ts.length ∧ ((nn2 + 1) : Int) + v2_1 = ts.length + 1) ∧ apN (⟨c0, c1⟩ : Cab) l v2_0.toNat v2_1.toNat) : rd_clock_track_pair_2 (J_clock_track_pair c0 c1 l ts) c0 c1 l ts v2_0 v2_1 v2_2 nn2 nn0 (fun r => LeD r (.t (.c (.sl 1 ((paV (⟨c0, c1⟩ : Cab) l ts).length) (intsC (paV (⟨c0, c1⟩ : Cab) l ts)))))) := by
 obtain ⟨t, i1, i0, i2, i4⟩ := hi
 obtain ⟨k, rfl⟩ : ∃ k : Nat, v2_0 = k := ⟨v2_0.toNat, by omega⟩
 have hk : (k : Int).toNat = k := rfl
 obtain ⟨m, rfl⟩ : ∃ m : Nat, v2_1 = m := ⟨v2_1.toNat, by omega⟩
 have hm : (m : Int).toNat = m := rfl
 rw [hk, hm] at i4
 subst i0
 have z := t.1.2.1
 have hs : ts.length = l.length := by rw [t.2.2, allT_len]
 unfold rd_clock_track_pair_2
 simp only [pngs_listC, rgs_listC, ints_listC]
 rw [hk, hm]
 refine cond_i (fun h => ?_) (fun h => lt_i fun x hx => ?_)
 ·have hlt : m < l.length := by have := of_decide_eq_true h; omega
  have hq := (t.1.del hlt).2
  unfold pngOk at hq
  have e : rgAt ts m = tmR (⟨c0, c1⟩ : Cab) (pngAt l m) := by rw [t.2.2, allT_at hlt]
  rw [e]
  refine ⟨by omega, by omega, ⟨numsP_pngs l, numsP_rgs ts, t, by omega, by omega, by omega⟩, cond_i (fun g => ?_) (fun g => lt_i fun x hx => ?_)⟩
  ·have e2 : paV (⟨c0, c1⟩ : Cab) l ts = [(k : Int), (m : Int)] := by
    unfold paV
    rw [if_neg (by omega)]
    exact apN_at (by omega) hlt g i4
   rw [e2]
   refine leSl fun i j hi hj => ?_
   obtain rfl : j = 0 := by omega
   rcases (by first | omega | (simp at hi; omega) : i = 0 ∨ i = 1) with rfl | rfl <;> rfl
  ·rw [wi (by omega)] at hx
   subst hx
   refine ⟨_, _, _, rfl, t, i1, rfl, by omega, ?_⟩
   rw [show ((m : Int) + 1).toNat = m + 1 by omega, hk]
   exact apN_step i4 g
 ·have h := of_decide_eq_false h
  rw [wi (by omega)] at hx
  subst hx
  refine ⟨_, rfl, Or.inr t, by omega, by omega, by omega, ?_⟩
  rw [show ((k : Int) + 1).toNat = k + 1 by omega]
  rw [show m = l.length by omega] at i4
  exact apN_row i4
theorem zero_clock_track_pair_2 (c0 : Int) (c1 : Int) (l : List Png) (ts : List Rg) (v2_0 : Int) (v2_1 : Int) (v2_2 : Int) (nn0 : Nat) (hi : trk (⟨c0, c1⟩ : Cab) l ts ∧ (0 ≤ v2_0 ∧ v2_0 < ts.length ∧ (nn0 : Int) + v2_0 = ts.length) ∧ v2_2 = v2_0 ∧ (v2_0 < v2_1 ∧ v2_1 ≤ ts.length ∧ (0 : Int) + v2_1 = ts.length + 1) ∧ apN (⟨c0, c1⟩ : Cab) l v2_0.toNat v2_1.toNat) : False := by
 omega
set_option maxHeartbeats 8000000 in
set_option maxRecDepth 100000 in
theorem spec_clock_track_pair (c0 : Int) (c1 : Int) (l : List Png) (ts : List Rg) (hp : trN (⟨c0, c1⟩ : Cab) l ts) : vc_clock_track_pair (J_clock_track_pair c0 c1 l ts) c0 c1 l ts (fun r => LeD r (.t (.c (.sl 1 ((paV (⟨c0, c1⟩ : Cab) l ts).length) (intsC (paV (⟨c0, c1⟩ : Cab) l ts)))))) := by
 unfold vc_clock_track_pair
 exact ⟨ts.length + 1, 0, rfl, hp, by omega, by omega, by omega, fun i k h1 h2 h3 => by omega⟩
theorem all_clock_track_pair (c0 : Int) (c1 : Int) (l : List Png) (ts : List Rg) (hp : trN (⟨c0, c1⟩ : Cab) l ts) : AllG (J_clock_track_pair c0 c1 l ts) (loopsFn Tryz.prog tab Sb25 ann_clock_track_pair (J_clock_track_pair c0 c1 l ts) Tryz.f105 (fun r => LeD r (.t (.c (.sl 1 ((paV (⟨c0, c1⟩ : Cab) l ts).length) (intsC (paV (⟨c0, c1⟩ : Cab) l ts))))))) := by
 rw [lp_clock_track_pair]
 refine ⟨⟨?_, ?_⟩, ⟨?_, ?_⟩, trivial⟩
 ·intro F s h
  obtain _ | ⟨g, F⟩ := F
  case cons => exact h.elim
  obtain ⟨w0, rfl, hi⟩ := h
  exact zero_clock_track_pair_0 c0 c1 l ts w0 hi
 ·intro n F s h
  obtain _ | ⟨g, F⟩ := F
  case cons => exact h.elim
  obtain ⟨w0, rfl, hi⟩ := h
  rw [er_clock_track_pair_0]
  exact rnd_clock_track_pair_0 c0 c1 l ts _ _ hp hi
 ·intro F s h
  obtain _ | ⟨f0, F⟩ := F
  ·exact h.elim
  obtain _ | ⟨g, F⟩ := F
  case cons => exact h.elim
  obtain ⟨w0, w1, w2, rfl, hi⟩ := h
  exact zero_clock_track_pair_2 c0 c1 l ts w0 w1 w2 _ hi
 ·intro n F s h
  obtain _ | ⟨f0, F⟩ := F
  ·exact h.elim
  obtain _ | ⟨g, F⟩ := F
  case cons => exact h.elim
  obtain ⟨w0, w1, w2, rfl, hi⟩ := h
  rw [er_clock_track_pair_2]
  exact rnd_clock_track_pair_2 c0 c1 l ts _ _ _ _ _ hp hi
def con_clock_track_pair : Con := fun args => match args with
 | [.t (.a [.v (.int .i64 c0), .v (.int .i64 c1), .sl 4 n_l c_l, .sl 2 n_ts c_ts])] => some (.t (.c (.sl 1 ((paV (⟨c0, c1⟩ : Cab) (listC n_l mkPng c_l) (listC n_ts mkRg c_ts)).length) (intsC (paV (⟨c0, c1⟩ : Cab) (listC n_l mkPng c_l) (listC n_ts mkRg c_ts))))), some (numsP 4 n_l c_l ∧ numsP 2 n_ts c_ts ∧ trN (⟨c0, c1⟩ : Cab) (listC n_l mkPng c_l) (listC n_ts mkRg c_ts)), false)
 | _ => none
theorem ok_clock_track_pair : Ok Tryz.prog 105 con_clock_track_pair := by
 refine Ok.fn (ann := ann_clock_track_pair) mixed tabOK VSb25 ValidIt.no (fn := Tryz.f105) (by kernel_rfl) (by kernel_rfl) fit_clock_track_pair fun args r pre fresh h hp => ?_
 unfold con_clock_track_pair at h
 split at h
 ·rename_i c0 c1 n_l c_l n_ts c_ts
  cases h
  obtain ⟨hp0, hp1, hp⟩ := hp
  refine ⟨rfl, J_clock_track_pair c0 c1 (listC n_l mkPng c_l) (listC n_ts mkRg c_ts), [.t (.a [.v (.int .i64 c0), .v (.int .i64 c1), .sl 4 ((listC n_l mkPng c_l).length) (pngsC (listC n_l mkPng c_l)), .sl 2 ((listC n_ts mkRg c_ts).length) (rgsC (listC n_ts mkRg c_ts))])], ?_, Nat.le_of_ble_eq_true (by kernel_rfl), ?_, ?_⟩
  ·exact (LeA_cons (leT_a (LeCs.cons (LeC1.refl _) (LeCs.cons (LeC1.refl _) (LeCs.cons ((leL_Png hp0)) (LeCs.cons ((leL_Rg hp1)) LeCs.nil))))) LeA_nil)
  ·rw [ev_clock_track_pair]; exact spec_clock_track_pair c0 c1 (listC n_l mkPng c_l) (listC n_ts mkRg c_ts) hp
  ·exact all_clock_track_pair c0 c1 (listC n_l mkPng c_l) (listC n_ts mkRg c_ts) hp
 ·cases h
def Sb26 : Sum := addS Sb25 105 con_clock_track_pair
theorem VSb26 : Valid Tryz.prog Sb26 := Valid.add VSb25 ok_clock_track_pair
def vc_clock_openBoth (c0 : Int) (c1 : Int) (l : List Png) (ct : Int) (post : DV → Prop) : Prop := (numsP 4 l.length (pngsC l)) ∧ (cond (decide ((opB (⟨c0, c1⟩ : Cab) (listC l.length mkPng (pngsC l))) < (0 : Int))) ((numsP 4 ((listC l.length mkPng (pngsC l)).length) (pngsC (listC l.length mkPng (pngsC l))) ∧ numsP 2 ((opT (⟨c0, c1⟩ : Cab) (listC l.length mkPng (pngsC l))).length) (rgsC (opT (⟨c0, c1⟩ : Cab) (listC l.length mkPng (pngsC l)))) ∧ trN (⟨c0, c1⟩ : Cab) (listC ((listC l.length mkPng (pngsC l)).length) mkPng (pngsC (listC l.length mkPng (pngsC l)))) (listC ((opT (⟨c0, c1⟩ : Cab) (listC l.length mkPng (pngsC l))).length) mkRg (rgsC (opT (⟨c0, c1⟩ : Cab) (listC l.length mkPng (pngsC l)))))) ∧ ((numsP 1 3 (genC [[.v (.int .i64 (trE (⟨c0, c1⟩ : Cab) (listC l.length mkPng (pngsC l))))], [.v (.int .i64 (unl (tkB ct) (2 : Int)))], [.v (.int .i64 (unl ((((paV (⟨c0, c1⟩ : Cab) (listC ((listC l.length mkPng (pngsC l)).length) mkPng (pngsC (listC l.length mkPng (pngsC l)))) (listC ((opT (⟨c0, c1⟩ : Cab) (listC l.length mkPng (pngsC l))).length) mkRg (rgsC (opT (⟨c0, c1⟩ : Cab) (listC l.length mkPng (pngsC l)))))).length : Nat) : Int) == (0 : Int)) (13 : Int)))]]) ∧ (([(trE (⟨c0, c1⟩ : Cab) (listC l.length mkPng (pngsC l))), (unl (tkB ct) (2 : Int)), (unl ((((paV (⟨c0, c1⟩ : Cab) (listC ((listC l.length mkPng (pngsC l)).length) mkPng (pngsC (listC l.length mkPng (pngsC l)))) (listC ((opT (⟨c0, c1⟩ : Cab) (listC l.length mkPng (pngsC l))).length) mkRg (rgsC (opT (⟨c0, c1⟩ : Cab) (listC l.length mkPng (pngsC l)))))).length : Nat) : Int) == (0 : Int)) (13 : Int))] : List Int)).length ≤ 100) ∧ (post (.tu [.a [.v (.int .i64 c0), .v (.int .i64 c1), .sl 4 ((listC l.length mkPng (pngsC l)).length) (pngsC (listC l.length mkPng (pngsC l))), .sl 2 ((opT (⟨c0, c1⟩ : Cab) (listC l.length mkPng (pngsC l))).length) (rgsC (opT (⟨c0, c1⟩ : Cab) (listC l.length mkPng (pngsC l))))], .c (.v (.int .i64 (firstNZ ([(trE (⟨c0, c1⟩ : Cab) (listC l.length mkPng (pngsC l))), (unl (tkB ct) (2 : Int)), (unl ((((paV (⟨c0, c1⟩ : Cab) (listC ((listC l.length mkPng (pngsC l)).length) mkPng (pngsC (listC l.length mkPng (pngsC l)))) (listC ((opT (⟨c0, c1⟩ : Cab) (listC l.length mkPng (pngsC l))).length) mkRg (rgsC (opT (⟨c0, c1⟩ : Cab) (listC l.length mkPng (pngsC l)))))).length : Nat) : Int) == (0 : Int)) (13 : Int))] : List Int))))])))) ((false = false) ∧ ((numsP 1 3 (genC [[.v (.int .i64 (trE (⟨c0, c1⟩ : Cab) (listC l.length mkPng (pngsC l))))], [.v (.int .i64 (unl (tkB ct) (2 : Int)))], [.v (.int .i64 (unl false (13 : Int)))]]) ∧ (([(trE (⟨c0, c1⟩ : Cab) (listC l.length mkPng (pngsC l))), (unl (tkB ct) (2 : Int)), (unl false (13 : Int))] : List Int)).length ≤ 100) ∧ (post (.tu [.a [.v (.int .i64 c0), .v (.int .i64 c1), .sl 4 ((listC l.length mkPng (pngsC l)).length) (pngsC (listC l.length mkPng (pngsC l))), .sl 2 ((opT (⟨c0, c1⟩ : Cab) (listC l.length mkPng (pngsC l))).length) (rgsC (opT (⟨c0, c1⟩ : Cab) (listC l.length mkPng (pngsC l))))], .c (.v (.int .i64 (firstNZ ([(trE (⟨c0, c1⟩ : Cab) (listC l.length mkPng (pngsC l))), (unl (tkB ct) (2 : Int)), (unl false (13 : Int))] : List Int))))])))))
def ann_clock_openBoth : Ann := ⟨fun r => lookA r [(2, ([[], [], [], [2], [2, 3], [], [5], [2, 3, 4, 5, 6], [2, 3, 4, 5, 6, 7], [2, 3, 4, 5, 6, 7, 8], [2, 3, 4, 5, 6, 7, 8, 9], [2, 3, 4, 5, 6, 7, 8, 9, 10], [2, 3, 4, 5, 6, 7, 8, 9, 10, 11], [2, 3, 4, 5, 6, 7, 8, 9, 10, 11, 12], [1, 2, 3, 4, 5, 6, 7, 8, 9, 10, 11, 12, 13], [1, 2, 3, 4, 5, 6, 7, 8, 9, 10, 11, 12, 13, 14], [0, 1, 2, 3, 4, 5, 6, 7, 8, 9, 10, 11, 12, 13, 14, 15], [0, 1, 2, 3, 4, 5, 6, 7, 8, 9, 10, 11, 12, 13, 14, 15, 16]], [[18, 19, 24, 28, 29, 30], [18, 19, 24, 28, 29, 30], [18, 19, 24, 28, 29, 30], [19, 24, 28, 29, 30], [24, 28, 29, 30], [18, 19, 24, 28, 29, 30], [18, 19, 24, 28, 29, 30], [24, 28, 29, 30], [24, 28, 29, 30], [28, 29, 30], [28, 29, 30], [28, 29, 30], [28, 29, 30], [29, 30], [30], [], [], []]))], fun _ => none, fun _ => [], noIt, false, fun _ => none, fun _ => none⟩
theorem ev_clock_openBoth (J : Inv) (c0 : Int) (c1 : Int) (l : List Png) (ct : Int) (post : DV → Prop) : evFn Tryz.prog tab Sb26 ann_clock_openBoth J Tryz.f72 [.t (.a [.v (.int .i64 c0), .v (.int .i64 c1), .sl 4 l.length (pngsC l)]), .t (.c (.v (.int .i64 ct)))] post = vc_clock_openBoth c0 c1 l ct post := by kernel_rfl
theorem fit_clock_openBoth : okFn ann_clock_openBoth Tryz.f72 = true := by kernel_rfl
theorem lp_clock_openBoth (J : Inv) (post : DV → Prop) : AllG J (loopsFn Tryz.prog tab Sb26 ann_clock_openBoth J Tryz.f72 post) = (True) := by kernel_rfl
theorem spec_clock_openBoth (c0 : Int) (c1 : Int) (l : List Png) (ct : Int) : vc_clock_openBoth c0 c1 l ct (fun r => LeD r (.tu [.a [.v (.int .i64 c0), .v (.int .i64 c1), .sl 4 l.length (pngsC l), .sl 2 ((opT (⟨c0, c1⟩ : Cab) l).length) (rgsC (opT (⟨c0, c1⟩ : Cab) l))], .c (.v (.int .i64 (obE (⟨c0, c1⟩ : Cab) l ct)))])) := by
 unfold vc_clock_openBoth
 simp only [pngs_listC, rgs_listC, ints_listC]
 refine ⟨numsP_pngs l, cond_i (fun h => ?_) (fun h => ?_)⟩
 ·have h := of_decide_eq_true h
  refine ⟨⟨numsP_pngs _, numsP_rgs _, opT_trN l h⟩, ⟨numsP_gen [_, _, _], Nat.le_of_ble_eq_true rfl⟩, ?_⟩
  rw [ob_true h]
  exact LeD.refl _
 ·have h := of_decide_eq_false h
  refine ⟨by trivial, ⟨numsP_gen [_, _, _], Nat.le_of_ble_eq_true rfl⟩, ?_⟩
  rw [ob_false h]
  exact LeD.refl _
def con_clock_openBoth : Con := fun args => match args with
 | [.t (.a [.v (.int .i64 c0), .v (.int .i64 c1), .sl 4 n_l c_l]), .t (.c (.v (.int .i64 ct)))] => some (.tu [.a [.v (.int .i64 c0), .v (.int .i64 c1), .sl 4 ((listC n_l mkPng c_l).length) (pngsC (listC n_l mkPng c_l)), .sl 2 ((opT (⟨c0, c1⟩ : Cab) (listC n_l mkPng c_l)).length) (rgsC (opT (⟨c0, c1⟩ : Cab) (listC n_l mkPng c_l)))], .c (.v (.int .i64 (obE (⟨c0, c1⟩ : Cab) (listC n_l mkPng c_l) ct)))], some (numsP 4 n_l c_l), false)
 | _ => none
theorem ok_clock_openBoth : Ok Tryz.prog 72 con_clock_openBoth := by
 refine Ok.fn (ann := ann_clock_openBoth) mixed tabOK VSb26 ValidIt.no (fn := Tryz.f72) (by kernel_rfl) (by kernel_rfl) fit_clock_openBoth fun args r pre fresh h hp => ?_
 unfold con_clock_openBoth at h
 split at h
 ·rename_i c0 c1 n_l c_l ct
  cases h
  have hp0 := hp
  refine ⟨rfl, fun _ _ _ => False, [.t (.a [.v (.int .i64 c0), .v (.int .i64 c1), .sl 4 ((listC n_l mkPng c_l).length) (pngsC (listC n_l mkPng c_l))]), .t (.c (.v (.int .i64 ct)))], ?_, Nat.le_of_ble_eq_true (by kernel_rfl), ?_, ?_⟩
  ·exact (LeA_cons (leT_a (LeCs.cons (LeC1.refl _) (LeCs.cons (LeC1.refl _) (LeCs.cons ((leL_Png hp0)) LeCs.nil)))) (LeA_cons (LeD.refl _) LeA_nil))
  ·rw [ev_clock_openBoth]; exact spec_clock_openBoth c0 c1 (listC n_l mkPng c_l) ct
  ·rw [lp_clock_openBoth]; trivial
 ·cases h
def Sb27 : Sum := addS Sb26 72 con_clock_openBoth
theorem VSb27 : Valid Tryz.prog Sb27 := Valid.add VSb26 ok_clock_openBoth
def vc_clock_TimeAt (c0 : Int) (c1 : Int) (l : List Png) (ct : Int) (post : DV → Prop) : Prop := (numsP 4 l.length (pngsC l)) ∧ (cond ((obE (⟨c0, c1⟩ : Cab) (listC l.length mkPng (pngsC l)) ct) != (0 : Int)) (post (.tu [.a [.v (.int .i64 0), .v (.int .i64 0)], .c (.v (.int .i64 (obE (⟨c0, c1⟩ : Cab) (listC l.length mkPng (pngsC l)) ct)))])) ((numsP 4 ((listC l.length mkPng (pngsC l)).length) (pngsC (listC l.length mkPng (pngsC l))) ∧ numsP 2 ((opT (⟨c0, c1⟩ : Cab) (listC l.length mkPng (pngsC l))).length) (rgsC (opT (⟨c0, c1⟩ : Cab) (listC l.length mkPng (pngsC l)))) ∧ trk (⟨c0, c1⟩ : Cab) (listC ((listC l.length mkPng (pngsC l)).length) mkPng (pngsC (listC l.length mkPng (pngsC l)))) (listC ((opT (⟨c0, c1⟩ : Cab) (listC l.length mkPng (pngsC l))).length) mkRg (rgsC (opT (⟨c0, c1⟩ : Cab) (listC l.length mkPng (pngsC l))))) ∧ 0 ≤ ct ∧ ct ≤ 1000000000000) ∧ (post (.tu [.a [.v (.int .i64 ((atR (⟨c0, c1⟩ : Cab) (listC ((listC l.length mkPng (pngsC l)).length) mkPng (pngsC (listC l.length mkPng (pngsC l)))) ct).lo)), .v (.int .i64 ((atR (⟨c0, c1⟩ : Cab) (listC ((listC l.length mkPng (pngsC l)).length) mkPng (pngsC (listC l.length mkPng (pngsC l)))) ct).hi))], .c (.v (.int .i64 0))]))))
def ann_clock_TimeAt : Ann := ⟨fun _ => none, fun _ => none, fun _ => [], noIt, false, fun _ => none, fun _ => none⟩
theorem ev_clock_TimeAt (J : Inv) (c0 : Int) (c1 : Int) (l : List Png) (ct : Int) (post : DV → Prop) : evFn Tryz.prog tab Sb27 ann_clock_TimeAt J Tryz.f33 [.t (.a [.v (.int .i64 c0), .v (.int .i64 c1), .sl 4 l.length (pngsC l)]), .t (.c (.v (.int .i64 ct)))] post = vc_clock_TimeAt c0 c1 l ct post := by kernel_rfl
theorem fit_clock_TimeAt : okFn ann_clock_TimeAt Tryz.f33 = true := by kernel_rfl
theorem lp_clock_TimeAt (J : Inv) (post : DV → Prop) : AllG J (loopsFn Tryz.prog tab Sb27 ann_clock_TimeAt J Tryz.f33 post) = (True) := by kernel_rfl
theorem spec_clock_TimeAt (c0 : Int) (c1 : Int) (l : List Png) (ct : Int) : vc_clock_TimeAt c0 c1 l ct (fun r => LeD r (.tu [.a [.v (.int .i64 ((taV (⟨c0, c1⟩ : Cab) l ct).lo)), .v (.int .i64 ((taV (⟨c0, c1⟩ : Cab) l ct).hi))], .c (.v (.int .i64 (obE (⟨c0, c1⟩ : Cab) l ct)))])) := by
 unfold vc_clock_TimeAt
 simp only [pngs_listC, rgs_listC, ints_listC]
 refine ⟨numsP_pngs l, cond_i (fun h => ?_) (fun h => ?_)⟩
 ·have h : obE (⟨c0, c1⟩ : Cab) l ct ≠ 0 := by simpa using h
  rw [show taV (⟨c0, c1⟩ : Cab) l ct = ⟨0, 0⟩ from if_neg h]
  exact LeD.refl _
 ·have h : obE (⟨c0, c1⟩ : Cab) l ct = 0 := by simpa using h
  obtain ⟨t, k1, k2⟩ := ob_ok h
  rw [show taV (⟨c0, c1⟩ : Cab) l ct = atR (⟨c0, c1⟩ : Cab) l ct from if_pos h, h]
  exact ⟨⟨numsP_pngs _, numsP_rgs _, t, k1, k2⟩, LeD.refl _⟩
def con_clock_TimeAt : Con := fun args => match args with
 | [.t (.a [.v (.int .i64 c0), .v (.int .i64 c1), .sl 4 n_l c_l]), .t (.c (.v (.int .i64 ct)))] => some (.tu [.a [.v (.int .i64 ((taV (⟨c0, c1⟩ : Cab) (listC n_l mkPng c_l) ct).lo)), .v (.int .i64 ((taV (⟨c0, c1⟩ : Cab) (listC n_l mkPng c_l) ct).hi))], .c (.v (.int .i64 (obE (⟨c0, c1⟩ : Cab) (listC n_l mkPng c_l) ct)))], some (numsP 4 n_l c_l), false)
 | _ => none
theorem ok_clock_TimeAt : Ok Tryz.prog 33 con_clock_TimeAt := by
 refine Ok.fn (ann := ann_clock_TimeAt) mixed tabOK VSb27 ValidIt.no (fn := Tryz.f33) (by kernel_rfl) (by kernel_rfl) fit_clock_TimeAt fun args r pre fresh h hp => ?_
 unfold con_clock_TimeAt at h
 split at h
 ·rename_i c0 c1 n_l c_l ct
  cases h
  have hp0 := hp
  refine ⟨rfl, fun _ _ _ => False, [.t (.a [.v (.int .i64 c0), .v (.int .i64 c1), .sl 4 ((listC n_l mkPng c_l).length) (pngsC (listC n_l mkPng c_l))]), .t (.c (.v (.int .i64 ct)))], ?_, Nat.le_of_ble_eq_true (by kernel_rfl), ?_, ?_⟩
  ·exact (LeA_cons (leT_a (LeCs.cons (LeC1.refl _) (LeCs.cons (LeC1.refl _) (LeCs.cons ((leL_Png hp0)) LeCs.nil)))) (LeA_cons (LeD.refl _) LeA_nil))
  ·rw [ev_clock_TimeAt]; exact spec_clock_TimeAt c0 c1 (listC n_l mkPng c_l) ct
  ·rw [lp_clock_TimeAt]; trivial
 ·cases h
def Sb28 : Sum := addS Sb27 33 con_clock_TimeAt
theorem VSb28 : Valid Tryz.prog Sb28 := Valid.add VSb27 ok_clock_TimeAt
def Sb29 : Sum := Sb28
theorem VSb29 : Valid Tryz.prog Sb29 := VSb28
end Go.Proofs.YtlapeoboekchpaaGreatDoor
set_option linter.unusedVariables false
set_option linter.unusedSimpArgs false
namespace Go.Proofs.YtlapeoboekchpaaGreatDoor
open Go.RowKit Ev
def Sc30 : Sum := Sb29
theorem VSc30 : Valid Tryz.prog Sc30 := VSb29
def Sc31 : Sum := Sc30
theorem VSc31 : Valid Tryz.prog Sc31 := VSc30
end Go.Proofs.YtlapeoboekchpaaGreatDoor