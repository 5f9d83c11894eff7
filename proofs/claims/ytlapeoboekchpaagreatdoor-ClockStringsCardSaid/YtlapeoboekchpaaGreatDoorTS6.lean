/- Texts of this claim, together. -/
import Derived.Test.YtlapeoboekchpaaGreatDoorTS4
import Derived.Test.YtlapeoboekchpaaGreatDoorTS5

set_option linter.unusedVariables false
set_option linter.unusedSimpArgs false
namespace Go.Proofs.YtlapeoboekchpaaGreatDoor
open Go.RowKit Ev
def rgB (r : Rg) : Prop := (-18000000000000 ≤ r.lo ∧ r.lo ≤ 18000000000000) ∧ -18000000000000 ≤ r.hi ∧ r.hi ≤ 18000000000000
theorem tdiv_rg {d : Int} (n : Int) (h : 0 < d) : (Int.tdiv n d).natAbs ≤ n.natAbs := Int.natAbs_tdiv_le_natAbs n d
theorem ediv_rg {d : Int} (n : Int) (h : 0 < d) : (n / d).natAbs ≤ n.natAbs := by
 rcases Int.le_total 0 n with q | q
 ·have h1 := Int.ediv_nonneg q (Int.le_of_lt h)
  have h2 := Int.ediv_le_self d q
  omega
 ·have h1 : n ≤ n / d := by
   rw [Int.le_ediv_iff_mul_le h]
   have := Int.mul_nonneg (show 0 ≤ -n by omega) (show 0 ≤ d - 1 by omega)
   rw [Int.neg_mul, Int.mul_sub] at this
   omega
  have h2 : n / d ≤ 0 := by
   have := Int.ediv_le_ediv h q
   rwa [Int.zero_ediv] at this
  omega
theorem fl_eq {d : Int} (n : Int) (h : 0 < d) : (if Int.tmod n d < 0 then Int.tdiv n d - 1 else Int.tdiv n d) = n / d := by
 rcases Int.le_total 0 n with q | q
 ·rw [if_neg (by have := Int.tmod_nonneg d q; omega), Int.tdiv_eq_ediv_of_nonneg q]
 ·obtain ⟨m, rfl⟩ : ∃ m : Int, n = -m := ⟨-n, by omega⟩
  have hm : 0 ≤ m := by omega
  rw [Int.neg_tmod, Int.neg_tdiv, Int.tdiv_eq_ediv_of_nonneg hm, Int.tmod_eq_emod_of_nonneg hm, Int.neg_ediv]
  have := Int.emod_nonneg m (show d ≠ 0 by omega)
  by_cases e : d ∣ m
  ·rw [if_pos e, if_neg (by have := Int.emod_eq_zero_of_dvd e; omega)]; omega
  ·rw [if_neg e, Int.sign_eq_one_of_pos h, if_pos (by
    have : m % d ≠ 0 := fun g => e (Int.dvd_of_emod_eq_zero g)
    omega)]
theorem mod_eq {d : Int} (n : Int) (h : 0 < d) : (if Int.tmod n d < 0 then Int.tmod n d + d else Int.tmod n d) = n % d := by
 have e := fl_eq n h
 have h1 := Int.mul_tdiv_add_tmod n d
 have h2 := Int.mul_ediv_add_emod n d
 rw [← e] at h2
 split
 ·rename_i q
  rw [if_pos q, Int.mul_sub] at h2
  omega
 ·rename_i q
  rw [if_neg q] at h2
  omega
def vc_base_Within (a : Int) (b : Int) (c : Int) (post : DV → Prop) : Prop := cond (decide (b ≤ a)) (post (.t (.c (.v (.bool (decide (a ≤ c))))))) ((false = false) ∧ (post (.t (.c (.v (.bool false))))))
def ann_base_Within : Ann := ⟨fun _ => none, fun _ => none, fun _ => [], noIt, false, fun _ => none, fun _ => none⟩
theorem ev_base_Within (J : Inv) (a : Int) (b : Int) (c : Int) (post : DV → Prop) : evFn Tryz.prog tab noS ann_base_Within J Tryz.f22 [.t (.c (.v (.int .i64 a))), .t (.c (.v (.int .i64 b))), .t (.c (.v (.int .i64 c)))] post = vc_base_Within a b c post := by kernel_rfl
theorem fit_base_Within : okFn ann_base_Within Tryz.f22 = true := by kernel_rfl
theorem lp_base_Within (J : Inv) (post : DV → Prop) : AllG J (loopsFn Tryz.prog tab noS ann_base_Within J Tryz.f22 post) = (True) := by kernel_rfl
theorem spec_base_Within (a : Int) (b : Int) (c : Int) : vc_base_Within a b c (fun r => LeD r (.t (.c (.v (.bool (inB a b c)))))) := by
 unfold vc_base_Within
 refine cond_i (fun h => leB ?_) (fun h => ⟨rfl, leB ?_⟩)
 ·unfold inB; rw [h]; rfl
 ·unfold inB; rw [h]; rfl
def con_base_Within : Con := fun args => match args with
 | [.t (.c (.v (.int .i64 a))), .t (.c (.v (.int .i64 b))), .t (.c (.v (.int .i64 c)))] => some (.t (.c (.v (.bool (inB a b c)))), none, false)
 | _ => none
theorem ok_base_Within : Ok Tryz.prog 22 con_base_Within := by
 refine Ok.fn (ann := ann_base_Within) mixed tabOK Valid.no ValidIt.no (fn := Tryz.f22) (by kernel_rfl) (by kernel_rfl) fit_base_Within fun args r pre fresh h hp => ?_
 unfold con_base_Within at h
 split at h
 ·rename_i a b c
  cases h
  refine ⟨rfl, fun _ _ _ => False, _, LeA.refl _, Nat.le_of_ble_eq_true (by kernel_rfl), ?_, ?_⟩
  ·rw [ev_base_Within]; exact spec_base_Within a b c
  ·rw [lp_base_Within]; trivial
 ·cases h
def S1 : Sum := addS noS 22 con_base_Within
theorem VS1 : Valid Tryz.prog S1 := Valid.add Valid.no ok_base_Within
def vc_clock_within (a : Int) (b : Int) (c : Int) (post : DV → Prop) : Prop := cond (decide (b ≤ a)) (post (.t (.c (.v (.bool (decide (a ≤ c))))))) ((false = false) ∧ (post (.t (.c (.v (.bool false))))))
def ann_clock_within : Ann := ⟨fun _ => none, fun _ => none, fun _ => [], noIt, false, fun _ => none, fun _ => none⟩
theorem ev_clock_within (J : Inv) (a : Int) (b : Int) (c : Int) (post : DV → Prop) : evFn Tryz.prog tab S1 ann_clock_within J Tryz.f67 [.t (.c (.v (.int .i64 a))), .t (.c (.v (.int .i64 b))), .t (.c (.v (.int .i64 c)))] post = vc_clock_within a b c post := by kernel_rfl
theorem fit_clock_within : okFn ann_clock_within Tryz.f67 = true := by kernel_rfl
theorem lp_clock_within (J : Inv) (post : DV → Prop) : AllG J (loopsFn Tryz.prog tab S1 ann_clock_within J Tryz.f67 post) = (True) := by kernel_rfl
theorem spec_clock_within (a : Int) (b : Int) (c : Int) : vc_clock_within a b c (fun r => LeD r (.t (.c (.v (.bool (inB a b c)))))) := by
 unfold vc_clock_within
 refine cond_i (fun h => leB ?_) (fun h => ⟨rfl, leB ?_⟩)
 ·unfold inB; rw [h]; rfl
 ·unfold inB; rw [h]; rfl
def con_clock_within : Con := fun args => match args with
 | [.t (.c (.v (.int .i64 a))), .t (.c (.v (.int .i64 b))), .t (.c (.v (.int .i64 c)))] => some (.t (.c (.v (.bool (inB a b c)))), none, false)
 | _ => none
theorem ok_clock_within : Ok Tryz.prog 67 con_clock_within := by
 refine Ok.fn (ann := ann_clock_within) mixed tabOK VS1 ValidIt.no (fn := Tryz.f67) (by kernel_rfl) (by kernel_rfl) fit_clock_within fun args r pre fresh h hp => ?_
 unfold con_clock_within at h
 split at h
 ·rename_i a b c
  cases h
  refine ⟨rfl, fun _ _ _ => False, _, LeA.refl _, Nat.le_of_ble_eq_true (by kernel_rfl), ?_, ?_⟩
  ·rw [ev_clock_within]; exact spec_clock_within a b c
  ·rw [lp_clock_within]; trivial
 ·cases h
def S2 : Sum := addS S1 67 con_clock_within
theorem VS2 : Valid Tryz.prog S2 := Valid.add VS1 ok_clock_within
def vc_clock_unless (b : Bool) (n : Int) (post : DV → Prop) : Prop := cond b (post (.t (.c (.v (.int .i64 0))))) (post (.t (.c (.v (.int .i64 n)))))
def ann_clock_unless : Ann := ⟨fun _ => none, fun _ => none, fun _ => [], noIt, false, fun _ => none, fun _ => none⟩
theorem ev_clock_unless (J : Inv) (b : Bool) (n : Int) (post : DV → Prop) : evFn Tryz.prog tab S2 ann_clock_unless J Tryz.f68 [.t (.c (.v (.bool b))), .t (.c (.v (.int .i64 n)))] post = vc_clock_unless b n post := by kernel_rfl
theorem fit_clock_unless : okFn ann_clock_unless Tryz.f68 = true := by kernel_rfl
theorem lp_clock_unless (J : Inv) (post : DV → Prop) : AllG J (loopsFn Tryz.prog tab S2 ann_clock_unless J Tryz.f68 post) = (True) := by kernel_rfl
theorem spec_clock_unless (b : Bool) (n : Int) : vc_clock_unless b n (fun r => LeD r (.t (.c (.v (.int .i64 (unl b n)))))) := by
 unfold vc_clock_unless
 exact cond_i (fun h => leI (by rw [h]; rfl)) (fun h => leI (by rw [h]; rfl))
def con_clock_unless : Con := fun args => match args with
 | [.t (.c (.v (.bool b))), .t (.c (.v (.int .i64 n)))] => some (.t (.c (.v (.int .i64 (unl b n)))), none, false)
 | _ => none
theorem ok_clock_unless : Ok Tryz.prog 68 con_clock_unless := by
 refine Ok.fn (ann := ann_clock_unless) mixed tabOK VS2 ValidIt.no (fn := Tryz.f68) (by kernel_rfl) (by kernel_rfl) fit_clock_unless fun args r pre fresh h hp => ?_
 unfold con_clock_unless at h
 split at h
 ·rename_i b n
  cases h
  refine ⟨rfl, fun _ _ _ => False, _, LeA.refl _, Nat.le_of_ble_eq_true (by kernel_rfl), ?_, ?_⟩
  ·rw [ev_clock_unless]; exact spec_clock_unless b n
  ·rw [lp_clock_unless]; trivial
 ·cases h
def S3 : Sum := addS S2 68 con_clock_unless
theorem VS3 : Valid Tryz.prog S3 := Valid.add VS2 ok_clock_unless
def mk_clock_first_0 (l : List Int) (v0_0 : Int) : DS := ⟨[none, none, none, none, none, some (.t (.c (.sl 1 l.length (intsC l)))), some (.t (.c (.v (.int .i64 ((l.length : Nat) : Int))))), some (.t (.c (.v (.int .i64 v0_0)))), none, none, none, none, none, none, none], [none, none, none, none, none, none, none, none, none, none, none, none, none, none, none]⟩
def vc_clock_first (J : Inv) (l : List Int) (post : DV → Prop) : Prop := ∃ n, J 0 (n :: []) (mk_clock_first_0 l 0)
def ann_clock_first : Ann := ⟨fun _ => none, fun b => lookA b [(0, (none, some ⟨[5, 6, 7], [], []⟩))], fun _ => [], noIt, false, fun _ => none, fun _ => none⟩
theorem ev_clock_first (J : Inv) (l : List Int) (post : DV → Prop) : evFn Tryz.prog tab S3 ann_clock_first J Tryz.f59 [.t (.c (.sl 1 l.length (intsC l)))] post = vc_clock_first J l post := by kernel_rfl
theorem fit_clock_first : okFn ann_clock_first Tryz.f59 = true := by kernel_rfl
def rd_clock_first_0 (J : Inv) (l : List Int) (v0_0 : Int) (nn0 : Nat) (post : DV → Prop) : Prop := cond (decide (v0_0 < ((l.length : Nat) : Int))) ((0 ≤ v0_0 ∧ v0_0 < ((l.length : Nat) : Int)) ∧ (cond ((l.getD v0_0.toNat 0) != (0 : Int)) (post (.t (.c (.v (.int .i64 (l.getD v0_0.toNat 0)))))) (lt (IntKind.i64.wrap (v0_0 + (1 : Int))) fun x1 => J 0 (nn0 :: []) (mk_clock_first_0 l x1)))) (post (.t (.c (.v (.int .i64 0)))))
theorem er_clock_first_0 (J : Inv) (l : List Int) (v0_0 : Int) (nn0 : Nat) (post : DV → Prop) : round Tryz.prog tab S3 ann_clock_first J Tryz.f59 post 0 (nn0 :: []) (mk_clock_first_0 l v0_0) = rd_clock_first_0 J l v0_0 nn0 post := by kernel_rfl
theorem lp_clock_first (J : Inv) (post : DV → Prop) : AllG J (loopsFn Tryz.prog tab S3 ann_clock_first J Tryz.f59 post) = (((∀ F s, ¬ J 0 (0 :: F) s) ∧ ∀ n F s, J 0 ((n + 1) :: F) s → round Tryz.prog tab S3 ann_clock_first J Tryz.f59 post 0 (n :: F) s) ∧ True) := by kernel_rfl
def J_clock_first (l : List Int) : Inv := fun b F s => match b, F with
 | 0, [nn0] => ∃ (v0_0 : Int), s = mk_clock_first_0 l v0_0 ∧ (0 ≤ v0_0 ∧ v0_0 ≤ l.length ∧ (nn0 : Int) + v0_0 = l.length + 1 ∧ ∀ j : Nat, (j : Int) < v0_0 → l.getD j 0 = 0)
 | _, _ => False
theorem rnd_clock_first_0 (l : List Int) (v0_0 : Int) (nn0 : Nat) (hp : (l).length ≤ 100) (hi : 0 ≤ v0_0 ∧ v0_0 ≤ l.length ∧ ((nn0 + 1) : Int) + v0_0 = l.length + 1 ∧ ∀ j : Nat, (j : Int) < v0_0 → l.getD j 0 = 0) : rd_clock_first_0 (J_clock_first l) l v0_0 nn0 (fun r => LeD r (.t (.c (.v (.int .i64 (firstNZ l)))))) := by
 obtain ⟨i1, i2, i3, i4⟩ := hi
 obtain ⟨k, rfl⟩ : ∃ k : Nat, v0_0 = k := ⟨v0_0.toNat, by omega⟩
 have hk : (k : Int).toNat = k := rfl
 unfold rd_clock_first_0
 rw [hk]
 have el : firstNZ l = scan (fun i => l.getD i 0) l.length := by
  unfold scan
  congr 1
  apply List.ext_getElem?
  intro i
  by_cases hi : i < l.length
  ·simp [hi, List.getD]
  ·rw [List.getElem?_eq_none (by omega), List.getElem?_eq_none (by simpa using hi)]
 refine cond_i (fun h => ⟨by have := of_decide_eq_true h; omega, cond_i (fun e => leI ?_) (fun e => lt_i fun x hx => ?_)⟩) (fun h => leI ?_)
 ·have h := of_decide_eq_true h
  rw [el, scan_at (k := k) (fun j hj => i4 j (by omega)) (by omega) (by simpa using e)]
 ·have h := of_decide_eq_true h
  rw [IntWalk.i64_in _ (by have := l.length; omega)] at hx
  subst hx
  refine ⟨_, rfl, by omega, by omega, by omega, fun j hj => ?_⟩
  by_cases q : j = k
  ·rw [q]; simpa using e
  ·exact i4 j (by omega)
 ·have h := of_decide_eq_false h
  rw [el, scan_end fun j hj => i4 j (by omega)]
theorem zero_clock_first_0 (l : List Int) (v0_0 : Int)  (hi : 0 ≤ v0_0 ∧ v0_0 ≤ l.length ∧ (0 : Int) + v0_0 = l.length + 1 ∧ ∀ j : Nat, (j : Int) < v0_0 → l.getD j 0 = 0) : False := by
 omega
theorem spec_clock_first (l : List Int) (hp : (l).length ≤ 100) : vc_clock_first (J_clock_first l) l (fun r => LeD r (.t (.c (.v (.int .i64 (firstNZ l)))))) := by
 unfold vc_clock_first
 exact ⟨l.length + 1, 0, rfl, by omega, by omega, by omega, fun j hj => by omega⟩
theorem all_clock_first (l : List Int) (hp : (l).length ≤ 100) : AllG (J_clock_first l) (loopsFn Tryz.prog tab S3 ann_clock_first (J_clock_first l) Tryz.f59 (fun r => LeD r (.t (.c (.v (.int .i64 (firstNZ l))))))) := by
 rw [lp_clock_first]
 refine ⟨⟨?_, ?_⟩, trivial⟩
 ·intro F s h
  obtain _ | ⟨g, F⟩ := F
  case cons => exact h.elim
  obtain ⟨w0, rfl, hi⟩ := h
  exact zero_clock_first_0 l w0 hi
 ·intro n F s h
  obtain _ | ⟨g, F⟩ := F
  case cons => exact h.elim
  obtain ⟨w0, rfl, hi⟩ := h
  rw [er_clock_first_0]
  exact rnd_clock_first_0 l _ _ hp hi
def con_clock_first : Con := fun args => match args with
 | [.t (.c (.sl 1 n_l c_l))] => some (.t (.c (.v (.int .i64 (firstNZ (listC n_l mkInt c_l))))), some (numsP 1 n_l c_l ∧ ((listC n_l mkInt c_l)).length ≤ 100), false)
 | _ => none
theorem ok_clock_first : Ok Tryz.prog 59 con_clock_first := by
 refine Ok.fn (ann := ann_clock_first) mixed tabOK VS3 ValidIt.no (fn := Tryz.f59) (by kernel_rfl) (by kernel_rfl) fit_clock_first fun args r pre fresh h hp => ?_
 unfold con_clock_first at h
 split at h
 ·rename_i n_l c_l
  cases h
  obtain ⟨hp0, hp⟩ := hp
  refine ⟨rfl, J_clock_first (listC n_l mkInt c_l), [.t (.c (.sl 1 ((listC n_l mkInt c_l).length) (intsC (listC n_l mkInt c_l))))], ?_, Nat.le_of_ble_eq_true (by kernel_rfl), ?_, ?_⟩
  ·exact (LeA_cons (leT_c ((leL_int hp0))) LeA_nil)
  ·rw [ev_clock_first]; exact spec_clock_first (listC n_l mkInt c_l) hp
  ·exact all_clock_first (listC n_l mkInt c_l) hp
 ·cases h
def S4 : Sum := addS S3 59 con_clock_first
theorem VS4 : Valid Tryz.prog S4 := Valid.add VS3 ok_clock_first
def vc_clock_isTick (n : Int) (post : DV → Prop) : Prop := post (.t (.c (.v (.bool (inB n (0 : Int) (1000000000000 : Int))))))
def ann_clock_isTick : Ann := ⟨fun _ => none, fun _ => none, fun _ => [], noIt, false, fun _ => none, fun _ => none⟩
theorem ev_clock_isTick (J : Inv) (n : Int) (post : DV → Prop) : evFn Tryz.prog tab S4 ann_clock_isTick J Tryz.f92 [.t (.c (.v (.int .i64 n)))] post = vc_clock_isTick n post := by kernel_rfl
theorem fit_clock_isTick : okFn ann_clock_isTick Tryz.f92 = true := by kernel_rfl
theorem lp_clock_isTick (J : Inv) (post : DV → Prop) : AllG J (loopsFn Tryz.prog tab S4 ann_clock_isTick J Tryz.f92 post) = (True) := by kernel_rfl
theorem spec_clock_isTick (n : Int) : vc_clock_isTick n (fun r => LeD r (.t (.c (.v (.bool (tkB n)))))) := by
 exact LeD.refl _
def con_clock_isTick : Con := fun args => match args with
 | [.t (.c (.v (.int .i64 n)))] => some (.t (.c (.v (.bool (tkB n)))), none, false)
 | _ => none
theorem ok_clock_isTick : Ok Tryz.prog 92 con_clock_isTick := by
 refine Ok.fn (ann := ann_clock_isTick) mixed tabOK VS4 ValidIt.no (fn := Tryz.f92) (by kernel_rfl) (by kernel_rfl) fit_clock_isTick fun args r pre fresh h hp => ?_
 unfold con_clock_isTick at h
 split at h
 ·rename_i n
  cases h
  refine ⟨rfl, fun _ _ _ => False, _, LeA.refl _, Nat.le_of_ble_eq_true (by kernel_rfl), ?_, ?_⟩
  ·rw [ev_clock_isTick]; exact spec_clock_isTick n
  ·rw [lp_clock_isTick]; trivial
 ·cases h
def S5 : Sum := addS S4 92 con_clock_isTick
theorem VS5 : Valid Tryz.prog S5 := Valid.add VS4 ok_clock_isTick
def vc_ref01_IsTick (n : Int) (post : DV → Prop) : Prop := post (.t (.c (.v (.bool (inB n (0 : Int) (1000000000000 : Int))))))
def ann_ref01_IsTick : Ann := ⟨fun _ => none, fun _ => none, fun _ => [], noIt, false, fun _ => none, fun _ => none⟩
theorem ev_ref01_IsTick (J : Inv) (n : Int) (post : DV → Prop) : evFn Tryz.prog tab S5 ann_ref01_IsTick J Tryz.f36 [.t (.c (.v (.int .i64 n)))] post = vc_ref01_IsTick n post := by kernel_rfl
theorem fit_ref01_IsTick : okFn ann_ref01_IsTick Tryz.f36 = true := by kernel_rfl
theorem lp_ref01_IsTick (J : Inv) (post : DV → Prop) : AllG J (loopsFn Tryz.prog tab S5 ann_ref01_IsTick J Tryz.f36 post) = (True) := by kernel_rfl
theorem spec_ref01_IsTick (n : Int) : vc_ref01_IsTick n (fun r => LeD r (.t (.c (.v (.bool (tkB n)))))) := by
 exact LeD.refl _
def con_ref01_IsTick : Con := fun args => match args with
 | [.t (.c (.v (.int .i64 n)))] => some (.t (.c (.v (.bool (tkB n)))), none, false)
 | _ => none
theorem ok_ref01_IsTick : Ok Tryz.prog 36 con_ref01_IsTick := by
 refine Ok.fn (ann := ann_ref01_IsTick) mixed tabOK VS5 ValidIt.no (fn := Tryz.f36) (by kernel_rfl) (by kernel_rfl) fit_ref01_IsTick fun args r pre fresh h hp => ?_
 unfold con_ref01_IsTick at h
 split at h
 ·rename_i n
  cases h
  refine ⟨rfl, fun _ _ _ => False, _, LeA.refl _, Nat.le_of_ble_eq_true (by kernel_rfl), ?_, ?_⟩
  ·rw [ev_ref01_IsTick]; exact spec_ref01_IsTick n
  ·rw [lp_ref01_IsTick]; trivial
 ·cases h
def S6 : Sum := addS S5 36 con_ref01_IsTick
theorem VS6 : Valid Tryz.prog S6 := Valid.add VS5 ok_ref01_IsTick
def vc_clock_floor (n : Int) (d : Int) (post : DV → Prop) : Prop := lt (IntKind.i64.wrap (Int.tdiv n d)) fun x1 => (IntKind.i64 = IntKind.i64 ∧ d ≠ 0) ∧ (lt (Int.tmod n d) fun x2 => (IntKind.i64 = IntKind.i64 ∧ d ≠ 0) ∧ (cond (decide (x2 < (0 : Int))) (lt (IntKind.i64.wrap (x1 - (1 : Int))) fun x3 => post (.t (.c (.v (.int .i64 x3))))) (post (.t (.c (.v (.int .i64 x1)))))))
def ann_clock_floor : Ann := ⟨fun _ => none, fun _ => none, fun _ => [], noIt, false, fun _ => none, fun _ => none⟩
theorem ev_clock_floor (J : Inv) (n : Int) (d : Int) (post : DV → Prop) : evFn Tryz.prog tab S6 ann_clock_floor J Tryz.f74 [.t (.c (.v (.int .i64 n))), .t (.c (.v (.int .i64 d)))] post = vc_clock_floor n d post := by kernel_rfl
theorem fit_clock_floor : okFn ann_clock_floor Tryz.f74 = true := by kernel_rfl
theorem lp_clock_floor (J : Inv) (post : DV → Prop) : AllG J (loopsFn Tryz.prog tab S6 ann_clock_floor J Tryz.f74 post) = (True) := by kernel_rfl
theorem spec_clock_floor (n : Int) (d : Int) (hp : 0 < d ∧ -4000000000000000 ≤ n ∧ n ≤ 4000000000000000) : vc_clock_floor n d (fun r => LeD r (.t (.c (.v (.int .i64 (n / d)))))) := by
 obtain ⟨h1, h2⟩ := hp
 unfold vc_clock_floor
 have r := tdiv_rg n h1
 have e := fl_eq n h1
 refine lt_i fun x1 g1 => ⟨⟨rfl, by omega⟩, lt_i fun x2 g2 => ⟨⟨rfl, by omega⟩, cond_i (fun h => lt_i fun x3 g3 => leI ?_) (fun h => leI ?_)⟩⟩
 all_goals
  rw [wi (by omega)] at g1
  subst g1 g2
 ·rw [if_pos (of_decide_eq_true h)] at e
  rw [wi (by omega)] at g3
  omega
 ·rw [if_neg (of_decide_eq_false h)] at e
  exact e
def con_clock_floor : Con := fun args => match args with
 | [.t (.c (.v (.int .i64 n))), .t (.c (.v (.int .i64 d)))] => some (.t (.c (.v (.int .i64 (n / d)))), some (0 < d ∧ -4000000000000000 ≤ n ∧ n ≤ 4000000000000000), false)
 | _ => none
theorem ok_clock_floor : Ok Tryz.prog 74 con_clock_floor := by
 refine Ok.fn (ann := ann_clock_floor) mixed tabOK VS6 ValidIt.no (fn := Tryz.f74) (by kernel_rfl) (by kernel_rfl) fit_clock_floor fun args r pre fresh h hp => ?_
 unfold con_clock_floor at h
 split at h
 ·rename_i n d
  cases h
  refine ⟨rfl, fun _ _ _ => False, _, LeA.refl _, Nat.le_of_ble_eq_true (by kernel_rfl), ?_, ?_⟩
  ·rw [ev_clock_floor]; exact spec_clock_floor n d hp
  ·rw [lp_clock_floor]; trivial
 ·cases h
def S7 : Sum := addS S6 74 con_clock_floor
theorem VS7 : Valid Tryz.prog S7 := Valid.add VS6 ok_clock_floor
def vc_base_Floor (n : Int) (d : Int) (post : DV → Prop) : Prop := lt (IntKind.i64.wrap (Int.tdiv n d)) fun x1 => (IntKind.i64 = IntKind.i64 ∧ d ≠ 0) ∧ (lt (Int.tmod n d) fun x2 => (IntKind.i64 = IntKind.i64 ∧ d ≠ 0) ∧ (cond (decide (x2 < (0 : Int))) (lt (IntKind.i64.wrap (x1 - (1 : Int))) fun x3 => post (.t (.c (.v (.int .i64 x3))))) (post (.t (.c (.v (.int .i64 x1)))))))
def ann_base_Floor : Ann := ⟨fun _ => none, fun _ => none, fun _ => [], noIt, false, fun _ => none, fun _ => none⟩
theorem ev_base_Floor (J : Inv) (n : Int) (d : Int) (post : DV → Prop) : evFn Tryz.prog tab S7 ann_base_Floor J Tryz.f70 [.t (.c (.v (.int .i64 n))), .t (.c (.v (.int .i64 d)))] post = vc_base_Floor n d post := by kernel_rfl
theorem fit_base_Floor : okFn ann_base_Floor Tryz.f70 = true := by kernel_rfl
theorem lp_base_Floor (J : Inv) (post : DV → Prop) : AllG J (loopsFn Tryz.prog tab S7 ann_base_Floor J Tryz.f70 post) = (True) := by kernel_rfl
theorem spec_base_Floor (n : Int) (d : Int) (hp : 0 < d ∧ -4000000000000000 ≤ n ∧ n ≤ 4000000000000000) : vc_base_Floor n d (fun r => LeD r (.t (.c (.v (.int .i64 (n / d)))))) := by
 obtain ⟨h1, h2⟩ := hp
 unfold vc_base_Floor
 have r := tdiv_rg n h1
 have e := fl_eq n h1
 refine lt_i fun x1 g1 => ⟨⟨rfl, by omega⟩, lt_i fun x2 g2 => ⟨⟨rfl, by omega⟩, cond_i (fun h => lt_i fun x3 g3 => leI ?_) (fun h => leI ?_)⟩⟩
 all_goals
  rw [wi (by omega)] at g1
  subst g1 g2
 ·rw [if_pos (of_decide_eq_true h)] at e
  rw [wi (by omega)] at g3
  omega
 ·rw [if_neg (of_decide_eq_false h)] at e
  exact e
def con_base_Floor : Con := fun args => match args with
 | [.t (.c (.v (.int .i64 n))), .t (.c (.v (.int .i64 d)))] => some (.t (.c (.v (.int .i64 (n / d)))), some (0 < d ∧ -4000000000000000 ≤ n ∧ n ≤ 4000000000000000), false)
 | _ => none
theorem ok_base_Floor : Ok Tryz.prog 70 con_base_Floor := by
 refine Ok.fn (ann := ann_base_Floor) mixed tabOK VS7 ValidIt.no (fn := Tryz.f70) (by kernel_rfl) (by kernel_rfl) fit_base_Floor fun args r pre fresh h hp => ?_
 unfold con_base_Floor at h
 split at h
 ·rename_i n d
  cases h
  refine ⟨rfl, fun _ _ _ => False, _, LeA.refl _, Nat.le_of_ble_eq_true (by kernel_rfl), ?_, ?_⟩
  ·rw [ev_base_Floor]; exact spec_base_Floor n d hp
  ·rw [lp_base_Floor]; trivial
 ·cases h
def S8 : Sum := addS S7 70 con_base_Floor
theorem VS8 : Valid Tryz.prog S8 := Valid.add VS7 ok_base_Floor
def vc_clock_ceil (n : Int) (d : Int) (post : DV → Prop) : Prop := lt (IntKind.i64.wrap ((0 : Int) - n)) fun x1 => (0 < d ∧ -4000000000000000 ≤ x1 ∧ x1 ≤ 4000000000000000) ∧ (lt (IntKind.i64.wrap ((0 : Int) - (x1 / d))) fun x2 => post (.t (.c (.v (.int .i64 x2)))))
def ann_clock_ceil : Ann := ⟨fun _ => none, fun _ => none, fun _ => [], noIt, false, fun _ => none, fun _ => none⟩
theorem ev_clock_ceil (J : Inv) (n : Int) (d : Int) (post : DV → Prop) : evFn Tryz.prog tab S8 ann_clock_ceil J Tryz.f164 [.t (.c (.v (.int .i64 n))), .t (.c (.v (.int .i64 d)))] post = vc_clock_ceil n d post := by kernel_rfl
theorem fit_clock_ceil : okFn ann_clock_ceil Tryz.f164 = true := by kernel_rfl
theorem lp_clock_ceil (J : Inv) (post : DV → Prop) : AllG J (loopsFn Tryz.prog tab S8 ann_clock_ceil J Tryz.f164 post) = (True) := by kernel_rfl
theorem spec_clock_ceil (n : Int) (d : Int) (hp : 0 < d ∧ -4000000000000000 ≤ n ∧ n ≤ 4000000000000000) : vc_clock_ceil n d (fun r => LeD r (.t (.c (.v (.int .i64 (-((-n) / d))))))) := by
 unfold vc_clock_ceil
 have r := ediv_rg (-n) hp.1
 refine lt_i fun x1 g1 => ?_
 rw [wi (by omega)] at g1
 rw [Int.zero_sub] at g1
 subst g1
 refine ⟨⟨hp.1, by omega⟩, lt_i fun x2 g2 => leI ?_⟩
 rw [wi (by omega)] at g2
 omega
def con_clock_ceil : Con := fun args => match args with
 | [.t (.c (.v (.int .i64 n))), .t (.c (.v (.int .i64 d)))] => some (.t (.c (.v (.int .i64 (-((-n) / d))))), some (0 < d ∧ -4000000000000000 ≤ n ∧ n ≤ 4000000000000000), false)
 | _ => none
theorem ok_clock_ceil : Ok Tryz.prog 164 con_clock_ceil := by
 refine Ok.fn (ann := ann_clock_ceil) mixed tabOK VS8 ValidIt.no (fn := Tryz.f164) (by kernel_rfl) (by kernel_rfl) fit_clock_ceil fun args r pre fresh h hp => ?_
 unfold con_clock_ceil at h
 split at h
 ·rename_i n d
  cases h
  refine ⟨rfl, fun _ _ _ => False, _, LeA.refl _, Nat.le_of_ble_eq_true (by kernel_rfl), ?_, ?_⟩
  ·rw [ev_clock_ceil]; exact spec_clock_ceil n d hp
  ·rw [lp_clock_ceil]; trivial
 ·cases h
def S9 : Sum := addS S8 164 con_clock_ceil
theorem VS9 : Valid Tryz.prog S9 := Valid.add VS8 ok_clock_ceil
def vc_base_Size (n : Int) (post : DV → Prop) : Prop := lt (IntKind.i64.wrap ((0 : Int) - n)) fun x1 => lt ((if x1 > n then x1 else n)) fun x2 => post (.t (.c (.v (.int .i64 x2))))
def ann_base_Size : Ann := ⟨fun _ => none, fun _ => none, fun _ => [], noIt, false, fun _ => none, fun _ => none⟩
theorem ev_base_Size (J : Inv) (n : Int) (post : DV → Prop) : evFn Tryz.prog tab S9 ann_base_Size J Tryz.f30 [.t (.c (.v (.int .i64 n)))] post = vc_base_Size n post := by kernel_rfl
theorem fit_base_Size : okFn ann_base_Size Tryz.f30 = true := by kernel_rfl
theorem lp_base_Size (J : Inv) (post : DV → Prop) : AllG J (loopsFn Tryz.prog tab S9 ann_base_Size J Tryz.f30 post) = (True) := by kernel_rfl
theorem spec_base_Size (n : Int) (hp : -9000000000000000000 ≤ n ∧ n ≤ 9000000000000000000) : vc_base_Size n (fun r => LeD r (.t (.c (.v (.int .i64 (n.natAbs : Int)))))) := by
 unfold vc_base_Size
 refine lt_i fun x1 g1 => lt_i fun x2 g2 => leI ?_
 rw [wi (by omega)] at g1
 split at g2 <;> omega
def con_base_Size : Con := fun args => match args with
 | [.t (.c (.v (.int .i64 n)))] => some (.t (.c (.v (.int .i64 (n.natAbs : Int)))), some (-9000000000000000000 ≤ n ∧ n ≤ 9000000000000000000), false)
 | _ => none
theorem ok_base_Size : Ok Tryz.prog 30 con_base_Size := by
 refine Ok.fn (ann := ann_base_Size) mixed tabOK VS9 ValidIt.no (fn := Tryz.f30) (by kernel_rfl) (by kernel_rfl) fit_base_Size fun args r pre fresh h hp => ?_
 unfold con_base_Size at h
 split at h
 ·rename_i n
  cases h
  refine ⟨rfl, fun _ _ _ => False, _, LeA.refl _, Nat.le_of_ble_eq_true (by kernel_rfl), ?_, ?_⟩
  ·rw [ev_base_Size]; exact spec_base_Size n hp
  ·rw [lp_base_Size]; trivial
 ·cases h
def S10 : Sum := addS S9 30 con_base_Size
theorem VS10 : Valid Tryz.prog S10 := Valid.add VS9 ok_base_Size
def vc_base_Mod (n : Int) (d : Int) (post : DV → Prop) : Prop := lt (Int.tmod n d) fun x1 => (IntKind.i64 = IntKind.i64 ∧ d ≠ 0) ∧ (cond (decide (x1 < (0 : Int))) (lt (IntKind.i64.wrap (x1 + d)) fun x2 => post (.t (.c (.v (.int .i64 x2))))) (post (.t (.c (.v (.int .i64 x1))))))
def ann_base_Mod : Ann := ⟨fun _ => none, fun _ => none, fun _ => [], noIt, false, fun _ => none, fun _ => none⟩
theorem ev_base_Mod (J : Inv) (n : Int) (d : Int) (post : DV → Prop) : evFn Tryz.prog tab S10 ann_base_Mod J Tryz.f21 [.t (.c (.v (.int .i64 n))), .t (.c (.v (.int .i64 d)))] post = vc_base_Mod n d post := by kernel_rfl
theorem fit_base_Mod : okFn ann_base_Mod Tryz.f21 = true := by kernel_rfl
theorem lp_base_Mod (J : Inv) (post : DV → Prop) : AllG J (loopsFn Tryz.prog tab S10 ann_base_Mod J Tryz.f21 post) = (True) := by kernel_rfl
theorem spec_base_Mod (n : Int) (d : Int) (hp : 0 < d ∧ d ≤ 4000000000000000000) : vc_base_Mod n d (fun r => LeD r (.t (.c (.v (.int .i64 (n % d)))))) := by
 unfold vc_base_Mod
 have e := mod_eq n hp.1
 have r := Int.tmod_lt_of_pos n hp.1
 have r2 : -d < Int.tmod n d := by have := Int.lt_tmod_of_pos n hp.1; omega
 refine lt_i fun x1 g1 => ⟨⟨rfl, by omega⟩, cond_i (fun h => lt_i fun x2 g2 => leI ?_) (fun h => leI ?_)⟩
 all_goals subst g1
 ·have h := of_decide_eq_true h
  rw [if_pos h] at e
  rw [wi (by omega)] at g2
  omega
 ·rw [if_neg (of_decide_eq_false h)] at e
  exact e
def con_base_Mod : Con := fun args => match args with
 | [.t (.c (.v (.int .i64 n))), .t (.c (.v (.int .i64 d)))] => some (.t (.c (.v (.int .i64 (n % d)))), some (0 < d ∧ d ≤ 4000000000000000000), false)
 | _ => none
theorem ok_base_Mod : Ok Tryz.prog 21 con_base_Mod := by
 refine Ok.fn (ann := ann_base_Mod) mixed tabOK VS10 ValidIt.no (fn := Tryz.f21) (by kernel_rfl) (by kernel_rfl) fit_base_Mod fun args r pre fresh h hp => ?_
 unfold con_base_Mod at h
 split at h
 ·rename_i n d
  cases h
  refine ⟨rfl, fun _ _ _ => False, _, LeA.refl _, Nat.le_of_ble_eq_true (by kernel_rfl), ?_, ?_⟩
  ·rw [ev_base_Mod]; exact spec_base_Mod n d hp
  ·rw [lp_base_Mod]; trivial
 ·cases h
def S11 : Sum := addS S10 21 con_base_Mod
theorem VS11 : Valid Tryz.prog S11 := Valid.add VS10 ok_base_Mod
def vc_clock_CheckPing (p0 p1 p2 p3 : Int) (post : DV → Prop) : Prop := cond (tkB p0) (cond (tkB p1) (cond (tkB p2) (cond (decide (p2 ≥ p1)) ((numsP 1 2 (genC [[.v (.int .i64 (unl (tkB p3) (2 : Int)))], [.v (.int .i64 (unl (decide (p3 ≥ p0)) (9 : Int)))]]) ∧ (([(unl (tkB p3) (2 : Int)), (unl (decide (p3 ≥ p0)) (9 : Int))] : List Int)).length ≤ 100) ∧ (post (.t (.c (.v (.int .i64 (firstNZ ([(unl (tkB p3) (2 : Int)), (unl (decide (p3 ≥ p0)) (9 : Int))] : List Int)))))))) ((false = false) ∧ ((numsP 1 2 (genC [[.v (.int .i64 (unl (tkB p3) (2 : Int)))], [.v (.int .i64 (unl false (9 : Int)))]]) ∧ (([(unl (tkB p3) (2 : Int)), (unl false (9 : Int))] : List Int)).length ≤ 100) ∧ (post (.t (.c (.v (.int .i64 (firstNZ ([(unl (tkB p3) (2 : Int)), (unl false (9 : Int))] : List Int)))))))))) ((false = false) ∧ (cond (decide (p2 ≥ p1)) ((numsP 1 2 (genC [[.v (.int .i64 (unl false (2 : Int)))], [.v (.int .i64 (unl (decide (p3 ≥ p0)) (9 : Int)))]]) ∧ (([(unl false (2 : Int)), (unl (decide (p3 ≥ p0)) (9 : Int))] : List Int)).length ≤ 100) ∧ (post (.t (.c (.v (.int .i64 (firstNZ ([(unl false (2 : Int)), (unl (decide (p3 ≥ p0)) (9 : Int))] : List Int)))))))) ((false = false) ∧ ((numsP 1 2 (genC [[.v (.int .i64 (unl false (2 : Int)))], [.v (.int .i64 (unl false (9 : Int)))]]) ∧ (([(unl false (2 : Int)), (unl false (9 : Int))] : List Int)).length ≤ 100) ∧ (post (.t (.c (.v (.int .i64 (firstNZ ([(unl false (2 : Int)), (unl false (9 : Int))] : List Int)))))))))))) ((false = false) ∧ ((false = false) ∧ (cond (decide (p2 ≥ p1)) ((numsP 1 2 (genC [[.v (.int .i64 (unl false (2 : Int)))], [.v (.int .i64 (unl (decide (p3 ≥ p0)) (9 : Int)))]]) ∧ (([(unl false (2 : Int)), (unl (decide (p3 ≥ p0)) (9 : Int))] : List Int)).length ≤ 100) ∧ (post (.t (.c (.v (.int .i64 (firstNZ ([(unl false (2 : Int)), (unl (decide (p3 ≥ p0)) (9 : Int))] : List Int)))))))) ((false = false) ∧ ((numsP 1 2 (genC [[.v (.int .i64 (unl false (2 : Int)))], [.v (.int .i64 (unl false (9 : Int)))]]) ∧ (([(unl false (2 : Int)), (unl false (9 : Int))] : List Int)).length ≤ 100) ∧ (post (.t (.c (.v (.int .i64 (firstNZ ([(unl false (2 : Int)), (unl false (9 : Int))] : List Int))))))))))))) ((false = false) ∧ ((false = false) ∧ ((false = false) ∧ (cond (decide (p2 ≥ p1)) ((numsP 1 2 (genC [[.v (.int .i64 (unl false (2 : Int)))], [.v (.int .i64 (unl (decide (p3 ≥ p0)) (9 : Int)))]]) ∧ (([(unl false (2 : Int)), (unl (decide (p3 ≥ p0)) (9 : Int))] : List Int)).length ≤ 100) ∧ (post (.t (.c (.v (.int .i64 (firstNZ ([(unl false (2 : Int)), (unl (decide (p3 ≥ p0)) (9 : Int))] : List Int)))))))) ((false = false) ∧ ((numsP 1 2 (genC [[.v (.int .i64 (unl false (2 : Int)))], [.v (.int .i64 (unl false (9 : Int)))]]) ∧ (([(unl false (2 : Int)), (unl false (9 : Int))] : List Int)).length ≤ 100) ∧ (post (.t (.c (.v (.int .i64 (firstNZ ([(unl false (2 : Int)), (unl false (9 : Int))] : List Int)))))))))))))
def ann_clock_CheckPing : Ann := ⟨fun r => lookA r [(2, ([[], [0], [], [2], [], [4], [2, 3, 4, 5], [0, 1, 2, 3, 4, 5, 6], [0, 1, 2, 3, 4, 5, 6, 7], [0, 1, 2, 3, 4, 5, 6, 7, 8], [0, 1, 2, 3, 4, 5, 6, 7], [0, 1, 2, 3, 4, 5, 6, 7, 10], [0, 1, 2, 3, 4, 5, 6, 7, 8, 9, 10, 11], [0, 1, 2, 3, 4, 5, 6, 7, 8, 9, 10, 11, 12], [0, 1, 2, 3, 4, 5, 6, 7, 8, 9, 10, 11, 12, 13], [0, 1, 2, 3, 4, 5, 6, 7, 8, 9, 10, 11, 12, 13, 14], [0, 1, 2, 3, 4, 5, 6, 7, 8, 9, 10, 11, 12, 13, 14, 15], [0, 1, 2, 3, 4, 5, 6, 7, 8, 9, 10, 11, 12, 13, 14, 15, 16]], [[23, 36, 37, 38], [36, 37, 38], [23, 36, 37, 38], [23, 36, 37, 38], [23, 36, 37, 38], [23, 36, 37, 38], [23, 36, 37, 38], [36, 37, 38], [36, 37, 38], [36, 37, 38], [36, 37, 38], [36, 37, 38], [36, 37, 38], [36, 37, 38], [37, 38], [38], [], []]))], fun _ => none, fun _ => [], noIt, false, fun _ => none, fun _ => none⟩
theorem ev_clock_CheckPing (J : Inv) (p0 p1 p2 p3 : Int) (post : DV → Prop) : evFn Tryz.prog tab S11 ann_clock_CheckPing J Tryz.f50 [.t (.a [.v (.int .i64 p0), .v (.int .i64 p1), .v (.int .i64 p2), .v (.int .i64 p3)])] post = vc_clock_CheckPing p0 p1 p2 p3 post := by kernel_rfl
theorem fit_clock_CheckPing : okFn ann_clock_CheckPing Tryz.f50 = true := by kernel_rfl
theorem lp_clock_CheckPing (J : Inv) (post : DV → Prop) : AllG J (loopsFn Tryz.prog tab S11 ann_clock_CheckPing J Tryz.f50 post) = (True) := by kernel_rfl
theorem spec_clock_CheckPing (p0 p1 p2 p3 : Int) : vc_clock_CheckPing p0 p1 p2 p3 (fun r => LeD r (.t (.c (.v (.int .i64 (pngE (⟨p0, p1, p2, p3⟩ : Png))))))) := by
 unfold vc_clock_CheckPing
 repeat' with_reducible first | (refine cond_i (fun h => ?_) (fun h => ?_)) | (refine And.intro ?_ ?_)
 all_goals first | rfl | (exact numsP_gen [_, _]) | (exact Nat.le_of_ble_eq_true rfl) | (refine leI ?_)
 all_goals (try simp_all [pngE, unl, firstNZ])
 all_goals (repeat' split)
 all_goals first | rfl | omega | simp_all
def con_clock_CheckPing : Con := fun args => match args with
 | [.t (.a [.v (.int .i64 p0), .v (.int .i64 p1), .v (.int .i64 p2), .v (.int .i64 p3)])] => some (.t (.c (.v (.int .i64 (pngE (⟨p0, p1, p2, p3⟩ : Png))))), none, false)
 | _ => none
theorem ok_clock_CheckPing : Ok Tryz.prog 50 con_clock_CheckPing := by
 refine Ok.fn (ann := ann_clock_CheckPing) mixed tabOK VS11 ValidIt.no (fn := Tryz.f50) (by kernel_rfl) (by kernel_rfl) fit_clock_CheckPing fun args r pre fresh h hp => ?_
 unfold con_clock_CheckPing at h
 split at h
 ·rename_i p0 p1 p2 p3
  cases h
  refine ⟨rfl, fun _ _ _ => False, _, LeA.refl _, Nat.le_of_ble_eq_true (by kernel_rfl), ?_, ?_⟩
  ·rw [ev_clock_CheckPing]; exact spec_clock_CheckPing p0 p1 p2 p3
  ·rw [lp_clock_CheckPing]; trivial
 ·cases h
def S12 : Sum := addS S11 50 con_clock_CheckPing
theorem VS12 : Valid Tryz.prog S12 := Valid.add VS11 ok_clock_CheckPing
def vc_ref01_PingErr (p0 p1 p2 p3 : Int) (post : DV → Prop) : Prop := cond (!(tkB p0)) ((true = true) ∧ ((true = true) ∧ ((true = true) ∧ (post (.t (.c (.v (.int .i64 2)))))))) (cond (!(tkB p1)) ((true = true) ∧ ((true = true) ∧ (post (.t (.c (.v (.int .i64 2))))))) (cond (!(tkB p2)) ((true = true) ∧ (post (.t (.c (.v (.int .i64 2)))))) (cond (!(tkB p3)) (post (.t (.c (.v (.int .i64 2))))) (cond (decide (p2 < p1)) ((true = true) ∧ (post (.t (.c (.v (.int .i64 9)))))) (cond (decide (p3 < p0)) (post (.t (.c (.v (.int .i64 9))))) (post (.t (.c (.v (.int .i64 0))))))))))
def ann_ref01_PingErr : Ann := ⟨fun _ => none, fun _ => none, fun _ => [], noIt, false, fun _ => none, fun _ => none⟩
theorem ev_ref01_PingErr (J : Inv) (p0 p1 p2 p3 : Int) (post : DV → Prop) : evFn Tryz.prog tab S12 ann_ref01_PingErr J Tryz.f18 [.t (.a [.v (.int .i64 p0), .v (.int .i64 p1), .v (.int .i64 p2), .v (.int .i64 p3)])] post = vc_ref01_PingErr p0 p1 p2 p3 post := by kernel_rfl
theorem fit_ref01_PingErr : okFn ann_ref01_PingErr Tryz.f18 = true := by kernel_rfl
theorem lp_ref01_PingErr (J : Inv) (post : DV → Prop) : AllG J (loopsFn Tryz.prog tab S12 ann_ref01_PingErr J Tryz.f18 post) = (True) := by kernel_rfl
theorem spec_ref01_PingErr (p0 p1 p2 p3 : Int) : vc_ref01_PingErr p0 p1 p2 p3 (fun r => LeD r (.t (.c (.v (.int .i64 (pngE (⟨p0, p1, p2, p3⟩ : Png))))))) := by
 unfold vc_ref01_PingErr
 repeat' with_reducible first | (refine cond_i (fun h => ?_) (fun h => ?_)) | (refine And.intro ?_ ?_)
 all_goals first | rfl | (exact numsP_gen [_, _]) | (exact Nat.le_of_ble_eq_true rfl) | (refine leI ?_)
 all_goals (try simp_all [pngE, unl, firstNZ])
 all_goals (repeat' split)
 all_goals first | rfl | omega | simp_all
def con_ref01_PingErr : Con := fun args => match args with
 | [.t (.a [.v (.int .i64 p0), .v (.int .i64 p1), .v (.int .i64 p2), .v (.int .i64 p3)])] => some (.t (.c (.v (.int .i64 (pngE (⟨p0, p1, p2, p3⟩ : Png))))), none, false)
 | _ => none
theorem ok_ref01_PingErr : Ok Tryz.prog 18 con_ref01_PingErr := by
 refine Ok.fn (ann := ann_ref01_PingErr) mixed tabOK VS12 ValidIt.no (fn := Tryz.f18) (by kernel_rfl) (by kernel_rfl) fit_ref01_PingErr fun args r pre fresh h hp => ?_
 unfold con_ref01_PingErr at h
 split at h
 ·rename_i p0 p1 p2 p3
  cases h
  refine ⟨rfl, fun _ _ _ => False, _, LeA.refl _, Nat.le_of_ble_eq_true (by kernel_rfl), ?_, ?_⟩
  ·rw [ev_ref01_PingErr]; exact spec_ref01_PingErr p0 p1 p2 p3
  ·rw [lp_ref01_PingErr]; trivial
 ·cases h
def S13 : Sum := addS S12 18 con_ref01_PingErr
theorem VS13 : Valid Tryz.prog S13 := Valid.add VS12 ok_ref01_PingErr
def vc_clock_isDrift (n : Int) (post : DV → Prop) : Prop := post (.t (.c (.v (.bool (inB n (0 : Int) (1000 : Int))))))
def ann_clock_isDrift : Ann := ⟨fun _ => none, fun _ => none, fun _ => [], noIt, false, fun _ => none, fun _ => none⟩
theorem ev_clock_isDrift (J : Inv) (n : Int) (post : DV → Prop) : evFn Tryz.prog tab S13 ann_clock_isDrift J Tryz.f177 [.t (.c (.v (.int .i64 n)))] post = vc_clock_isDrift n post := by kernel_rfl
theorem fit_clock_isDrift : okFn ann_clock_isDrift Tryz.f177 = true := by kernel_rfl
theorem lp_clock_isDrift (J : Inv) (post : DV → Prop) : AllG J (loopsFn Tryz.prog tab S13 ann_clock_isDrift J Tryz.f177 post) = (True) := by kernel_rfl
theorem spec_clock_isDrift (n : Int) : vc_clock_isDrift n (fun r => LeD r (.t (.c (.v (.bool (inB n 0 1000)))))) := by
 exact LeD.refl _
def con_clock_isDrift : Con := fun args => match args with
 | [.t (.c (.v (.int .i64 n)))] => some (.t (.c (.v (.bool (inB n 0 1000)))), none, false)
 | _ => none
theorem ok_clock_isDrift : Ok Tryz.prog 177 con_clock_isDrift := by
 refine Ok.fn (ann := ann_clock_isDrift) mixed tabOK VS13 ValidIt.no (fn := Tryz.f177) (by kernel_rfl) (by kernel_rfl) fit_clock_isDrift fun args r pre fresh h hp => ?_
 unfold con_clock_isDrift at h
 split at h
 ·rename_i n
  cases h
  refine ⟨rfl, fun _ _ _ => False, _, LeA.refl _, Nat.le_of_ble_eq_true (by kernel_rfl), ?_, ?_⟩
  ·rw [ev_clock_isDrift]; exact spec_clock_isDrift n
  ·rw [lp_clock_isDrift]; trivial
 ·cases h
def S14 : Sum := addS S13 177 con_clock_isDrift
theorem VS14 : Valid Tryz.prog S14 := Valid.add VS13 ok_clock_isDrift
def vc_clock_slack (d : Int) (n : Int) (post : DV → Prop) : Prop := lt (IntKind.i64.wrap ((0 : Int) - n)) fun x1 => lt ((if x1 > n then x1 else n)) fun x2 => lt (IntKind.i64.wrap (x2 * d)) fun x3 => (0 < (1000000 : Int) ∧ -4000000000000000 ≤ x3 ∧ x3 ≤ 4000000000000000) ∧ (post (.t (.c (.v (.int .i64 (-((-x3) / (1000000 : Int))))))))
def ann_clock_slack : Ann := ⟨fun _ => none, fun _ => none, fun _ => [], noIt, false, fun _ => none, fun _ => none⟩
theorem ev_clock_slack (J : Inv) (d : Int) (n : Int) (post : DV → Prop) : evFn Tryz.prog tab S14 ann_clock_slack J Tryz.f133 [.t (.c (.v (.int .i64 d))), .t (.c (.v (.int .i64 n)))] post = vc_clock_slack d n post := by kernel_rfl
theorem fit_clock_slack : okFn ann_clock_slack Tryz.f133 = true := by kernel_rfl
theorem lp_clock_slack (J : Inv) (post : DV → Prop) : AllG J (loopsFn Tryz.prog tab S14 ann_clock_slack J Tryz.f133 post) = (True) := by kernel_rfl
theorem spec_clock_slack (d : Int) (n : Int) (hp : 0 ≤ d ∧ d ≤ 1000 ∧ -4000000000000 ≤ n ∧ n ≤ 4000000000000) : vc_clock_slack d n (fun r => LeD r (.t (.c (.v (.int .i64 (slackI d n)))))) := by
 unfold vc_clock_slack
 obtain ⟨d1, d2, n1, n2⟩ := hp
 have s := slack_rg (d := d) (n := n) ⟨d1, d2⟩ ⟨n1, n2⟩
 refine lt_i fun x1 g1 => lt_i fun x2 g2 => lt_i fun x3 g3 => ?_
 rw [wi (by omega)] at g1
 have e : x2 = (n.natAbs : Int) := by split at g2 <;> omega
 rw [e, wi (by omega)] at g3
 exact ⟨by omega, leI (by rw [← g3]; rfl)⟩
def con_clock_slack : Con := fun args => match args with
 | [.t (.c (.v (.int .i64 d))), .t (.c (.v (.int .i64 n)))] => some (.t (.c (.v (.int .i64 (slackI d n)))), some (0 ≤ d ∧ d ≤ 1000 ∧ -4000000000000 ≤ n ∧ n ≤ 4000000000000), false)
 | _ => none
theorem ok_clock_slack : Ok Tryz.prog 133 con_clock_slack := by
 refine Ok.fn (ann := ann_clock_slack) mixed tabOK VS14 ValidIt.no (fn := Tryz.f133) (by kernel_rfl) (by kernel_rfl) fit_clock_slack fun args r pre fresh h hp => ?_
 unfold con_clock_slack at h
 split at h
 ·rename_i d n
  cases h
  refine ⟨rfl, fun _ _ _ => False, _, LeA.refl _, Nat.le_of_ble_eq_true (by kernel_rfl), ?_, ?_⟩
  ·rw [ev_clock_slack]; exact spec_clock_slack d n hp
  ·rw [lp_clock_slack]; trivial
 ·cases h
def S15 : Sum := addS S14 133 con_clock_slack
theorem VS15 : Valid Tryz.prog S15 := Valid.add VS14 ok_clock_slack
def vc_clock_cableErr (c0 c1 : Int) (post : DV → Prop) : Prop := cond (inB c0 0 1000) (post (.t (.c (.v (.int .i64 (unl (inB c1 (0 : Int) (1000000 : Int)) (2 : Int))))))) ((false = false) ∧ (post (.t (.c (.v (.int .i64 (unl false (2 : Int))))))))
def ann_clock_cableErr : Ann := ⟨fun _ => none, fun _ => none, fun _ => [], noIt, false, fun _ => none, fun _ => none⟩
theorem ev_clock_cableErr (J : Inv) (c0 c1 : Int) (post : DV → Prop) : evFn Tryz.prog tab S15 ann_clock_cableErr J Tryz.f163 [.t (.a [.v (.int .i64 c0), .v (.int .i64 c1)])] post = vc_clock_cableErr c0 c1 post := by kernel_rfl
theorem fit_clock_cableErr : okFn ann_clock_cableErr Tryz.f163 = true := by kernel_rfl
theorem lp_clock_cableErr (J : Inv) (post : DV → Prop) : AllG J (loopsFn Tryz.prog tab S15 ann_clock_cableErr J Tryz.f163 post) = (True) := by kernel_rfl
theorem spec_clock_cableErr (c0 c1 : Int) : vc_clock_cableErr c0 c1 (fun r => LeD r (.t (.c (.v (.int .i64 (cabE (⟨c0, c1⟩ : Cab))))))) := by
 unfold vc_clock_cableErr
 repeat' with_reducible first | (refine cond_i (fun h => ?_) (fun h => ?_)) | (refine And.intro ?_ ?_)
 all_goals first | rfl | (exact numsP_gen [_, _]) | (exact Nat.le_of_ble_eq_true rfl) | (refine leI ?_)
 all_goals (try simp_all [cabE, unl, firstNZ])
 all_goals (repeat' split)
 all_goals first | rfl | omega | simp_all
def con_clock_cableErr : Con := fun args => match args with
 | [.t (.a [.v (.int .i64 c0), .v (.int .i64 c1)])] => some (.t (.c (.v (.int .i64 (cabE (⟨c0, c1⟩ : Cab))))), none, false)
 | _ => none
theorem ok_clock_cableErr : Ok Tryz.prog 163 con_clock_cableErr := by
 refine Ok.fn (ann := ann_clock_cableErr) mixed tabOK VS15 ValidIt.no (fn := Tryz.f163) (by kernel_rfl) (by kernel_rfl) fit_clock_cableErr fun args r pre fresh h hp => ?_
 unfold con_clock_cableErr at h
 split at h
 ·rename_i c0 c1
  cases h
  refine ⟨rfl, fun _ _ _ => False, _, LeA.refl _, Nat.le_of_ble_eq_true (by kernel_rfl), ?_, ?_⟩
  ·rw [ev_clock_cableErr]; exact spec_clock_cableErr c0 c1
  ·rw [lp_clock_cableErr]; trivial
 ·cases h
def S16 : Sum := addS S15 163 con_clock_cableErr
theorem VS16 : Valid Tryz.prog S16 := Valid.add VS15 ok_clock_cableErr
def vc_ref01_CableErr (c0 c1 : Int) (post : DV → Prop) : Prop := cond (!(inB c0 (0 : Int) (1000 : Int))) ((true = true) ∧ (post (.t (.c (.v (.int .i64 2)))))) (cond (!(inB c1 (0 : Int) (1000000 : Int))) (post (.t (.c (.v (.int .i64 2))))) (post (.t (.c (.v (.int .i64 0))))))
def ann_ref01_CableErr : Ann := ⟨fun _ => none, fun _ => none, fun _ => [], noIt, false, fun _ => none, fun _ => none⟩
theorem ev_ref01_CableErr (J : Inv) (c0 c1 : Int) (post : DV → Prop) : evFn Tryz.prog tab S16 ann_ref01_CableErr J Tryz.f29 [.t (.a [.v (.int .i64 c0), .v (.int .i64 c1)])] post = vc_ref01_CableErr c0 c1 post := by kernel_rfl
theorem fit_ref01_CableErr : okFn ann_ref01_CableErr Tryz.f29 = true := by kernel_rfl
theorem lp_ref01_CableErr (J : Inv) (post : DV → Prop) : AllG J (loopsFn Tryz.prog tab S16 ann_ref01_CableErr J Tryz.f29 post) = (True) := by kernel_rfl
theorem spec_ref01_CableErr (c0 c1 : Int) : vc_ref01_CableErr c0 c1 (fun r => LeD r (.t (.c (.v (.int .i64 (cabE (⟨c0, c1⟩ : Cab))))))) := by
 unfold vc_ref01_CableErr
 repeat' with_reducible first | (refine cond_i (fun h => ?_) (fun h => ?_)) | (refine And.intro ?_ ?_)
 all_goals first | rfl | (exact numsP_gen [_, _]) | (exact Nat.le_of_ble_eq_true rfl) | (refine leI ?_)
 all_goals (try simp_all [cabE, unl, firstNZ])
 all_goals (repeat' split)
 all_goals first | rfl | omega | simp_all
def con_ref01_CableErr : Con := fun args => match args with
 | [.t (.a [.v (.int .i64 c0), .v (.int .i64 c1)])] => some (.t (.c (.v (.int .i64 (cabE (⟨c0, c1⟩ : Cab))))), none, false)
 | _ => none
theorem ok_ref01_CableErr : Ok Tryz.prog 29 con_ref01_CableErr := by
 refine Ok.fn (ann := ann_ref01_CableErr) mixed tabOK VS16 ValidIt.no (fn := Tryz.f29) (by kernel_rfl) (by kernel_rfl) fit_ref01_CableErr fun args r pre fresh h hp => ?_
 unfold con_ref01_CableErr at h
 split at h
 ·rename_i c0 c1
  cases h
  refine ⟨rfl, fun _ _ _ => False, _, LeA.refl _, Nat.le_of_ble_eq_true (by kernel_rfl), ?_, ?_⟩
  ·rw [ev_ref01_CableErr]; exact spec_ref01_CableErr c0 c1
  ·rw [lp_ref01_CableErr]; trivial
 ·cases h
def S17 : Sum := addS S16 29 con_ref01_CableErr
theorem VS17 : Valid Tryz.prog S17 := Valid.add VS16 ok_ref01_CableErr
def vc_clock_delay (c0 c1 : Int) (p0 p1 p2 p3 : Int) (post : DV → Prop) : Prop := lt (IntKind.i64.wrap (p2 - p1)) fun x1 => (0 ≤ c0 ∧ c0 ≤ 1000 ∧ -4000000000000 ≤ x1 ∧ x1 ≤ 4000000000000) ∧ (lt (IntKind.i64.wrap (p3 - p0)) fun x2 => lt (IntKind.i64.wrap (x2 - x1)) fun x3 => lt (IntKind.i64.wrap (x3 - (slackI c0 x1))) fun x4 => lt (IntKind.i64.wrap (x4 - c1)) fun x5 => (0 < (2 : Int) ∧ -4000000000000000 ≤ x5 ∧ x5 ≤ 4000000000000000) ∧ (lt ((if (x5 / (2 : Int)) > (0 : Int) then (x5 / (2 : Int)) else (0 : Int))) fun x6 => lt (IntKind.i64.wrap (x3 + (slackI c0 x1))) fun x7 => lt (IntKind.i64.wrap (x3 + (slackI c0 x1))) fun x8 => lt (IntKind.i64.wrap (x8 + c1)) fun x9 => (0 < (2 : Int) ∧ -4000000000000000 ≤ x9 ∧ x9 ≤ 4000000000000000) ∧ (lt ((if (-((-x9) / (2 : Int))) < x7 then (-((-x9) / (2 : Int))) else x7)) fun x10 => lt (IntKind.i64.wrap (x3 + (slackI c0 x1))) fun x11 => post (.tu [.a [.v (.int .i64 x6), .v (.int .i64 x10)], .c (.v (.bool (decide (x11 ≥ (0 : Int)))))]))))
def ann_clock_delay : Ann := ⟨fun r => lookA r [(4, ([[], [], [0, 1], [], [3], [0, 1, 2, 3, 4], [0, 1, 2, 3, 4, 5], [0, 1, 2, 3, 4, 5, 6], [], [], [8, 9], [], [], [11, 12], [], [14], [11, 12, 13, 14, 15], [0, 1, 2, 3, 4, 5, 6, 11, 12, 13, 14, 15, 16], [0, 1, 2, 3, 4, 5, 6, 8, 9, 10, 11, 12, 13, 14, 15, 16, 17], [0, 1, 2, 3, 4, 5, 6, 7, 8, 9, 10, 11, 12, 13, 14, 15, 16, 17, 18], [], [], [20, 21], [20, 21, 22], [0, 1, 2, 3, 4, 5, 6, 7, 8, 9, 10, 11, 12, 13, 14, 15, 16, 17, 18, 19], [0, 1, 2, 3, 4, 5, 6, 7, 8, 9, 10, 11, 12, 13, 14, 15, 16, 17, 18, 19, 20, 21, 22, 23, 24]], [[31, 42], [31, 42], [31, 42], [31, 42], [31, 42], [31, 42], [42], [42], [31, 42], [31, 42], [31, 42], [31, 42], [31, 42], [31, 42], [31, 42], [31, 42], [31, 42], [], [], [], [31, 42], [31, 42], [31, 42], [31, 42], [], []]))], fun _ => none, fun _ => [], noIt, false, fun _ => none, fun _ => none⟩
theorem ev_clock_delay (J : Inv) (c0 c1 : Int) (p0 p1 p2 p3 : Int) (post : DV → Prop) : evFn Tryz.prog tab S17 ann_clock_delay J Tryz.f130 [.t (.a [.v (.int .i64 c0), .v (.int .i64 c1)]), .t (.a [.v (.int .i64 p0), .v (.int .i64 p1), .v (.int .i64 p2), .v (.int .i64 p3)])] post = vc_clock_delay c0 c1 p0 p1 p2 p3 post := by kernel_rfl
theorem fit_clock_delay : okFn ann_clock_delay Tryz.f130 = true := by kernel_rfl
theorem lp_clock_delay (J : Inv) (post : DV → Prop) : AllG J (loopsFn Tryz.prog tab S17 ann_clock_delay J Tryz.f130 post) = (True) := by kernel_rfl
theorem spec_clock_delay (c0 c1 : Int) (p0 p1 p2 p3 : Int) (hp : delOk (⟨c0, c1⟩ : Cab) (⟨p0, p1, p2, p3⟩ : Png)) : vc_clock_delay c0 c1 p0 p1 p2 p3 (fun r => LeD r (.tu [.a [.v (.int .i64 ((dlR (⟨c0, c1⟩ : Cab) (⟨p0, p1, p2, p3⟩ : Png)).lo)), .v (.int .i64 ((dlR (⟨c0, c1⟩ : Cab) (⟨p0, p1, p2, p3⟩ : Png)).hi))], .c (.v (.bool (canB (⟨c0, c1⟩ : Cab) (⟨p0, p1, p2, p3⟩ : Png))))])) := by
 have r := del_rg hp
 obtain ⟨⟨⟨c1_, c2_⟩, c3_, c4_⟩, ⟨h1, h2, h3⟩, h4, h5, h6⟩ := hp
 simp only at c1_ c2_ c3_ c4_ h1 h2 h3 h4 h5 h6
 obtain ⟨r1, r2, r3⟩ := r
 obtain ⟨u, hu⟩ : ∃ u, u = ((⟨c0, c1⟩ : Cab)).sl (⟨p0, p1, p2, p3⟩ : Png) := ⟨_, rfl⟩
 obtain ⟨t, ht⟩ : ∃ t, t = ((⟨c0, c1⟩ : Cab)).ov (⟨p0, p1, p2, p3⟩ : Png) := ⟨_, rfl⟩
 have hs : slackI c0 (p2 - p1) = u := hu.symm
 have ho : p3 - p0 - (p2 - p1) = t := ht.symm
 have hs' := hu.symm
 have ho' := ht.symm
 rw [← hu] at r1
 rw [← ht] at r2
 unfold vc_clock_delay
 refine lt_i fun x1 g1 => ?_
 rw [wi (by omega)] at g1
 subst g1
 refine ⟨by omega, lt_i fun x2 g2 => lt_i fun x3 g3 => lt_i fun x4 g4 => lt_i fun x5 g5 => ⟨?_, lt_i fun x6 g6 => lt_i fun x7 g7 => lt_i fun x8 g8 => lt_i fun x9 g9 => ⟨?_, lt_i fun x10 g10 => lt_i fun x11 g11 => ?_⟩⟩⟩
 all_goals
  rw [wi (by omega)] at g2
  subst g2
  rw [wi (by omega)] at g3
  subst g3
  rw [hs, ho] at *
  rw [wi (by omega)] at g4
  subst g4
  rw [wi (by omega)] at g5
  subst g5
 ·omega
 all_goals
  rw [wi (by omega)] at g7 g8
  subst g7 g8
  rw [wi (by omega)] at g9
  subst g9
 ·omega
 rw [wi (by omega)] at g11
 subst g11
 rw [mx_if] at g6
 rw [mn_if] at g10
 subst g6 g10
 unfold dlR canB Cab.dlo Cab.dhi
 rw [hs', ho', Int.max_comm, Int.min_comm]
 exact LeD.refl _
def con_clock_delay : Con := fun args => match args with
 | [.t (.a [.v (.int .i64 c0), .v (.int .i64 c1)]), .t (.a [.v (.int .i64 p0), .v (.int .i64 p1), .v (.int .i64 p2), .v (.int .i64 p3)])] => some (.tu [.a [.v (.int .i64 ((dlR (⟨c0, c1⟩ : Cab) (⟨p0, p1, p2, p3⟩ : Png)).lo)), .v (.int .i64 ((dlR (⟨c0, c1⟩ : Cab) (⟨p0, p1, p2, p3⟩ : Png)).hi))], .c (.v (.bool (canB (⟨c0, c1⟩ : Cab) (⟨p0, p1, p2, p3⟩ : Png))))], some (delOk (⟨c0, c1⟩ : Cab) (⟨p0, p1, p2, p3⟩ : Png)), false)
 | _ => none
theorem ok_clock_delay : Ok Tryz.prog 130 con_clock_delay := by
 refine Ok.fn (ann := ann_clock_delay) mixed tabOK VS17 ValidIt.no (fn := Tryz.f130) (by kernel_rfl) (by kernel_rfl) fit_clock_delay fun args r pre fresh h hp => ?_
 unfold con_clock_delay at h
 split at h
 ·rename_i c0 c1 p0 p1 p2 p3
  cases h
  refine ⟨rfl, fun _ _ _ => False, _, LeA.refl _, Nat.le_of_ble_eq_true (by kernel_rfl), ?_, ?_⟩
  ·rw [ev_clock_delay]; exact spec_clock_delay c0 c1 p0 p1 p2 p3 hp
  ·rw [lp_clock_delay]; trivial
 ·cases h
def S18 : Sum := addS S17 130 con_clock_delay
theorem VS18 : Valid Tryz.prog S18 := Valid.add VS17 ok_clock_delay
def vc_clock_plus (r0 r1 : Int) (n : Int) (post : DV → Prop) : Prop := lt (IntKind.i64.wrap (r0 + n)) fun x1 => lt (IntKind.i64.wrap (r1 + n)) fun x2 => post (.t (.a [.v (.int .i64 x1), .v (.int .i64 x2)]))
def ann_clock_plus : Ann := ⟨fun _ => none, fun _ => none, fun _ => [], noIt, false, fun _ => none, fun _ => none⟩
theorem ev_clock_plus (J : Inv) (r0 r1 : Int) (n : Int) (post : DV → Prop) : evFn Tryz.prog tab S18 ann_clock_plus J Tryz.f131 [.t (.a [.v (.int .i64 r0), .v (.int .i64 r1)]), .t (.c (.v (.int .i64 n)))] post = vc_clock_plus r0 r1 n post := by kernel_rfl
theorem fit_clock_plus : okFn ann_clock_plus Tryz.f131 = true := by kernel_rfl
theorem lp_clock_plus (J : Inv) (post : DV → Prop) : AllG J (loopsFn Tryz.prog tab S18 ann_clock_plus J Tryz.f131 post) = (True) := by kernel_rfl
theorem spec_clock_plus (r0 r1 : Int) (n : Int) (hp : rgB (⟨r0, r1⟩ : Rg) ∧ -9000000000000 ≤ n ∧ n ≤ 9000000000000) : vc_clock_plus r0 r1 n (fun r => LeD r (.t (.a [.v (.int .i64 (r0 + n)), .v (.int .i64 (r1 + n))]))) := by
 obtain ⟨⟨a1, a2⟩, a3⟩ := hp
 simp only at a1 a2
 unfold vc_clock_plus
 refine lt_i fun x1 g1 => lt_i fun x2 g2 => ?_
 rw [wi (by omega)] at g1 g2
 subst g1 g2
 exact LeD.refl _
def con_clock_plus : Con := fun args => match args with
 | [.t (.a [.v (.int .i64 r0), .v (.int .i64 r1)]), .t (.c (.v (.int .i64 n)))] => some (.t (.a [.v (.int .i64 (r0 + n)), .v (.int .i64 (r1 + n))]), some (rgB (⟨r0, r1⟩ : Rg) ∧ -9000000000000 ≤ n ∧ n ≤ 9000000000000), false)
 | _ => none
theorem ok_clock_plus : Ok Tryz.prog 131 con_clock_plus := by
 refine Ok.fn (ann := ann_clock_plus) mixed tabOK VS18 ValidIt.no (fn := Tryz.f131) (by kernel_rfl) (by kernel_rfl) fit_clock_plus fun args r pre fresh h hp => ?_
 unfold con_clock_plus at h
 split at h
 ·rename_i r0 r1 n
  cases h
  refine ⟨rfl, fun _ _ _ => False, _, LeA.refl _, Nat.le_of_ble_eq_true (by kernel_rfl), ?_, ?_⟩
  ·rw [ev_clock_plus]; exact spec_clock_plus r0 r1 n hp
  ·rw [lp_clock_plus]; trivial
 ·cases h
def S19 : Sum := addS S18 131 con_clock_plus
theorem VS19 : Valid Tryz.prog S19 := Valid.add VS18 ok_clock_plus
def vc_clock_wider (r0 r1 : Int) (n : Int) (post : DV → Prop) : Prop := lt (IntKind.i64.wrap (r0 - n)) fun x1 => lt (IntKind.i64.wrap (r1 + n)) fun x2 => post (.t (.a [.v (.int .i64 x1), .v (.int .i64 x2)]))
def ann_clock_wider : Ann := ⟨fun _ => none, fun _ => none, fun _ => [], noIt, false, fun _ => none, fun _ => none⟩
theorem ev_clock_wider (J : Inv) (r0 r1 : Int) (n : Int) (post : DV → Prop) : evFn Tryz.prog tab S19 ann_clock_wider J Tryz.f132 [.t (.a [.v (.int .i64 r0), .v (.int .i64 r1)]), .t (.c (.v (.int .i64 n)))] post = vc_clock_wider r0 r1 n post := by kernel_rfl
theorem fit_clock_wider : okFn ann_clock_wider Tryz.f132 = true := by kernel_rfl
theorem lp_clock_wider (J : Inv) (post : DV → Prop) : AllG J (loopsFn Tryz.prog tab S19 ann_clock_wider J Tryz.f132 post) = (True) := by kernel_rfl
theorem spec_clock_wider (r0 r1 : Int) (n : Int) (hp : rgB (⟨r0, r1⟩ : Rg) ∧ -9000000000000 ≤ n ∧ n ≤ 9000000000000) : vc_clock_wider r0 r1 n (fun r => LeD r (.t (.a [.v (.int .i64 (r0 - n)), .v (.int .i64 (r1 + n))]))) := by
 obtain ⟨⟨a1, a2⟩, a3⟩ := hp
 simp only at a1 a2
 unfold vc_clock_wider
 refine lt_i fun x1 g1 => lt_i fun x2 g2 => ?_
 rw [wi (by omega)] at g1 g2
 subst g1 g2
 exact LeD.refl _
def con_clock_wider : Con := fun args => match args with
 | [.t (.a [.v (.int .i64 r0), .v (.int .i64 r1)]), .t (.c (.v (.int .i64 n)))] => some (.t (.a [.v (.int .i64 (r0 - n)), .v (.int .i64 (r1 + n))]), some (rgB (⟨r0, r1⟩ : Rg) ∧ -9000000000000 ≤ n ∧ n ≤ 9000000000000), false)
 | _ => none
theorem ok_clock_wider : Ok Tryz.prog 132 con_clock_wider := by
 refine Ok.fn (ann := ann_clock_wider) mixed tabOK VS19 ValidIt.no (fn := Tryz.f132) (by kernel_rfl) (by kernel_rfl) fit_clock_wider fun args r pre fresh h hp => ?_
 unfold con_clock_wider at h
 split at h
 ·rename_i r0 r1 n
  cases h
  refine ⟨rfl, fun _ _ _ => False, _, LeA.refl _, Nat.le_of_ble_eq_true (by kernel_rfl), ?_, ?_⟩
  ·rw [ev_clock_wider]; exact spec_clock_wider r0 r1 n hp
  ·rw [lp_clock_wider]; trivial
 ·cases h
def S20 : Sum := addS S19 132 con_clock_wider
theorem VS20 : Valid Tryz.prog S20 := Valid.add VS19 ok_clock_wider
def vc_clock_common (r0 r1 : Int) (q0 q1 : Int) (post : DV → Prop) : Prop := lt ((if q0 > r0 then q0 else r0)) fun x1 => lt ((if q1 < r1 then q1 else r1)) fun x2 => post (.t (.a [.v (.int .i64 x1), .v (.int .i64 x2)]))
def ann_clock_common : Ann := ⟨fun _ => none, fun _ => none, fun _ => [], noIt, false, fun _ => none, fun _ => none⟩
theorem ev_clock_common (J : Inv) (r0 r1 : Int) (q0 q1 : Int) (post : DV → Prop) : evFn Tryz.prog tab S20 ann_clock_common J Tryz.f107 [.t (.a [.v (.int .i64 r0), .v (.int .i64 r1)]), .t (.a [.v (.int .i64 q0), .v (.int .i64 q1)])] post = vc_clock_common r0 r1 q0 q1 post := by kernel_rfl
theorem fit_clock_common : okFn ann_clock_common Tryz.f107 = true := by kernel_rfl
theorem lp_clock_common (J : Inv) (post : DV → Prop) : AllG J (loopsFn Tryz.prog tab S20 ann_clock_common J Tryz.f107 post) = (True) := by kernel_rfl
theorem spec_clock_common (r0 r1 : Int) (q0 q1 : Int) : vc_clock_common r0 r1 q0 q1 (fun r => LeD r (.t (.a [.v (.int .i64 ((meetR (⟨r0, r1⟩ : Rg) (⟨q0, q1⟩ : Rg)).lo)), .v (.int .i64 ((meetR (⟨r0, r1⟩ : Rg) (⟨q0, q1⟩ : Rg)).hi))]))) := by
 unfold vc_clock_common
 refine lt_i fun x1 g1 => lt_i fun x2 g2 => ?_
 rw [mx_if] at g1
 rw [mn_if] at g2
 subst g1 g2
 exact LeD.refl _
def con_clock_common : Con := fun args => match args with
 | [.t (.a [.v (.int .i64 r0), .v (.int .i64 r1)]), .t (.a [.v (.int .i64 q0), .v (.int .i64 q1)])] => some (.t (.a [.v (.int .i64 ((meetR (⟨r0, r1⟩ : Rg) (⟨q0, q1⟩ : Rg)).lo)), .v (.int .i64 ((meetR (⟨r0, r1⟩ : Rg) (⟨q0, q1⟩ : Rg)).hi))]), none, false)
 | _ => none
theorem ok_clock_common : Ok Tryz.prog 107 con_clock_common := by
 refine Ok.fn (ann := ann_clock_common) mixed tabOK VS20 ValidIt.no (fn := Tryz.f107) (by kernel_rfl) (by kernel_rfl) fit_clock_common fun args r pre fresh h hp => ?_
 unfold con_clock_common at h
 split at h
 ·rename_i r0 r1 q0 q1
  cases h
  refine ⟨rfl, fun _ _ _ => False, _, LeA.refl _, Nat.le_of_ble_eq_true (by kernel_rfl), ?_, ?_⟩
  ·rw [ev_clock_common]; exact spec_clock_common r0 r1 q0 q1
  ·rw [lp_clock_common]; trivial
 ·cases h
def S21 : Sum := addS S20 107 con_clock_common
theorem VS21 : Valid Tryz.prog S21 := Valid.add VS20 ok_clock_common
end Go.Proofs.YtlapeoboekchpaaGreatDoor