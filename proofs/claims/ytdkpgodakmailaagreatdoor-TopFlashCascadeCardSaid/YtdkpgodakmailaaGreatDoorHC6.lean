/- Texts of this claim, together. -/
import Derived.Test.YtdkpgodakmailaaGreatDoorHC4
import Derived.Test.YtdkpgodakmailaaGreatDoorHC5

set_option linter.unusedVariables false
set_option linter.unusedSimpArgs false
namespace Go.Proofs.YtdkpgodakmailaaGreatDoor
open Go.RowKit Ev
def cntW (n m : Int) : Int := firstNZ [unl (decide (n > 0)) 10, unl (decide (n ≤ m)) 8]
def vc_base_Within (a : Int) (b : Int) (c : Int) (post : DV → Prop) : Prop := cond (decide (b ≤ a)) (post (.t (.c (.v (.bool (decide (a ≤ c))))))) ((false = false) ∧ (post (.t (.c (.v (.bool false))))))
def ann_base_Within : Ann := ⟨fun _ => none, fun _ => none, fun _ => [], noIt, false, fun _ => none, fun _ => none⟩
theorem ev_base_Within (J : Inv) (a : Int) (b : Int) (c : Int) (post : DV → Prop) : evFn Tryz.prog tab noS ann_base_Within J Tryz.f42 [.t (.c (.v (.int .i64 a))), .t (.c (.v (.int .i64 b))), .t (.c (.v (.int .i64 c)))] post = vc_base_Within a b c post := by kernel_rfl
theorem fit_base_Within : okFn ann_base_Within Tryz.f42 = true := by kernel_rfl
theorem lp_base_Within (J : Inv) (post : DV → Prop) : AllG J (loopsFn Tryz.prog tab noS ann_base_Within J Tryz.f42 post) = (True) := by kernel_rfl
theorem spec_base_Within (a : Int) (b : Int) (c : Int) : vc_base_Within a b c (fun r => LeD r (.t (.c (.v (.bool (inB a b c)))))) := by
 unfold vc_base_Within
 refine cond_i (fun h => leB ?_) (fun h => ⟨rfl, leB ?_⟩)
 ·unfold inB; rw [h]; rfl
 ·unfold inB; rw [h]; rfl
def con_base_Within : Con := fun args => match args with
 | [.t (.c (.v (.int .i64 a))), .t (.c (.v (.int .i64 b))), .t (.c (.v (.int .i64 c)))] => some (.t (.c (.v (.bool (inB a b c)))), none, false)
 | _ => none
theorem ok_base_Within : Ok Tryz.prog 42 con_base_Within := by
 refine Ok.fn (ann := ann_base_Within) mixed tabOK Valid.no ValidIt.no (fn := Tryz.f42) (by kernel_rfl) (by kernel_rfl) fit_base_Within fun args r pre fresh h hp => ?_
 unfold con_base_Within at h
 split at h
 ·rename_i a b c
  cases h
  refine ⟨rfl, fun _ _ _ => False, _, LeA.refl _, Nat.le_of_ble_eq_true (by kernel_rfl), ?_, ?_⟩
  ·rw [ev_base_Within]; exact spec_base_Within a b c
  ·rw [lp_base_Within]; trivial
 ·cases h
def S1 : Sum := addS noS 42 con_base_Within
theorem VS1 : Valid Tryz.prog S1 := Valid.add Valid.no ok_base_Within
def vc_flash_within (a : Int) (b : Int) (c : Int) (post : DV → Prop) : Prop := cond (decide (b ≤ a)) (post (.t (.c (.v (.bool (decide (a ≤ c))))))) ((false = false) ∧ (post (.t (.c (.v (.bool false))))))
def ann_flash_within : Ann := ⟨fun _ => none, fun _ => none, fun _ => [], noIt, false, fun _ => none, fun _ => none⟩
theorem ev_flash_within (J : Inv) (a : Int) (b : Int) (c : Int) (post : DV → Prop) : evFn Tryz.prog tab S1 ann_flash_within J Tryz.f82 [.t (.c (.v (.int .i64 a))), .t (.c (.v (.int .i64 b))), .t (.c (.v (.int .i64 c)))] post = vc_flash_within a b c post := by kernel_rfl
theorem fit_flash_within : okFn ann_flash_within Tryz.f82 = true := by kernel_rfl
theorem lp_flash_within (J : Inv) (post : DV → Prop) : AllG J (loopsFn Tryz.prog tab S1 ann_flash_within J Tryz.f82 post) = (True) := by kernel_rfl
theorem spec_flash_within (a : Int) (b : Int) (c : Int) : vc_flash_within a b c (fun r => LeD r (.t (.c (.v (.bool (inB a b c)))))) := by
 unfold vc_flash_within
 refine cond_i (fun h => leB ?_) (fun h => ⟨rfl, leB ?_⟩)
 ·unfold inB; rw [h]; rfl
 ·unfold inB; rw [h]; rfl
def con_flash_within : Con := fun args => match args with
 | [.t (.c (.v (.int .i64 a))), .t (.c (.v (.int .i64 b))), .t (.c (.v (.int .i64 c)))] => some (.t (.c (.v (.bool (inB a b c)))), none, false)
 | _ => none
theorem ok_flash_within : Ok Tryz.prog 82 con_flash_within := by
 refine Ok.fn (ann := ann_flash_within) mixed tabOK VS1 ValidIt.no (fn := Tryz.f82) (by kernel_rfl) (by kernel_rfl) fit_flash_within fun args r pre fresh h hp => ?_
 unfold con_flash_within at h
 split at h
 ·rename_i a b c
  cases h
  refine ⟨rfl, fun _ _ _ => False, _, LeA.refl _, Nat.le_of_ble_eq_true (by kernel_rfl), ?_, ?_⟩
  ·rw [ev_flash_within]; exact spec_flash_within a b c
  ·rw [lp_flash_within]; trivial
 ·cases h
def S2 : Sum := addS S1 82 con_flash_within
theorem VS2 : Valid Tryz.prog S2 := Valid.add VS1 ok_flash_within
def vc_flash_unless (b : Bool) (n : Int) (post : DV → Prop) : Prop := cond b (post (.t (.c (.v (.int .i64 0))))) (post (.t (.c (.v (.int .i64 n)))))
def ann_flash_unless : Ann := ⟨fun _ => none, fun _ => none, fun _ => [], noIt, false, fun _ => none, fun _ => none⟩
theorem ev_flash_unless (J : Inv) (b : Bool) (n : Int) (post : DV → Prop) : evFn Tryz.prog tab S2 ann_flash_unless J Tryz.f79 [.t (.c (.v (.bool b))), .t (.c (.v (.int .i64 n)))] post = vc_flash_unless b n post := by kernel_rfl
theorem fit_flash_unless : okFn ann_flash_unless Tryz.f79 = true := by kernel_rfl
theorem lp_flash_unless (J : Inv) (post : DV → Prop) : AllG J (loopsFn Tryz.prog tab S2 ann_flash_unless J Tryz.f79 post) = (True) := by kernel_rfl
theorem spec_flash_unless (b : Bool) (n : Int) : vc_flash_unless b n (fun r => LeD r (.t (.c (.v (.int .i64 (unl b n)))))) := by
 unfold vc_flash_unless
 exact cond_i (fun h => leI (by rw [h]; rfl)) (fun h => leI (by rw [h]; rfl))
def con_flash_unless : Con := fun args => match args with
 | [.t (.c (.v (.bool b))), .t (.c (.v (.int .i64 n)))] => some (.t (.c (.v (.int .i64 (unl b n)))), none, false)
 | _ => none
theorem ok_flash_unless : Ok Tryz.prog 79 con_flash_unless := by
 refine Ok.fn (ann := ann_flash_unless) mixed tabOK VS2 ValidIt.no (fn := Tryz.f79) (by kernel_rfl) (by kernel_rfl) fit_flash_unless fun args r pre fresh h hp => ?_
 unfold con_flash_unless at h
 split at h
 ·rename_i b n
  cases h
  refine ⟨rfl, fun _ _ _ => False, _, LeA.refl _, Nat.le_of_ble_eq_true (by kernel_rfl), ?_, ?_⟩
  ·rw [ev_flash_unless]; exact spec_flash_unless b n
  ·rw [lp_flash_unless]; trivial
 ·cases h
def S3 : Sum := addS S2 79 con_flash_unless
theorem VS3 : Valid Tryz.prog S3 := Valid.add VS2 ok_flash_unless
def mk_flash_first_0 (l : List Int) (v0_0 : Int) : DS := ⟨[none, none, none, none, none, some (.t (.c (.sl 1 l.length (intsC l)))), some (.t (.c (.v (.int .i64 ((l.length : Nat) : Int))))), some (.t (.c (.v (.int .i64 v0_0)))), none, none, none, none, none, none, none], [none, none, none, none, none, none, none, none, none, none, none, none, none, none, none]⟩
def vc_flash_first (J : Inv) (l : List Int) (post : DV → Prop) : Prop := ∃ n, J 0 (n :: []) (mk_flash_first_0 l 0)
def ann_flash_first : Ann := ⟨fun _ => none, fun b => lookA b [(0, (none, some ⟨[5, 6, 7], [], []⟩))], fun _ => [], noIt, false, fun _ => none, fun _ => none⟩
theorem ev_flash_first (J : Inv) (l : List Int) (post : DV → Prop) : evFn Tryz.prog tab S3 ann_flash_first J Tryz.f67 [.t (.c (.sl 1 l.length (intsC l)))] post = vc_flash_first J l post := by kernel_rfl
theorem fit_flash_first : okFn ann_flash_first Tryz.f67 = true := by kernel_rfl
def rd_flash_first_0 (J : Inv) (l : List Int) (v0_0 : Int) (nn0 : Nat) (post : DV → Prop) : Prop := cond (decide (v0_0 < ((l.length : Nat) : Int))) ((0 ≤ v0_0 ∧ v0_0 < ((l.length : Nat) : Int)) ∧ (cond ((l.getD v0_0.toNat 0) != (0 : Int)) (post (.t (.c (.v (.int .i64 (l.getD v0_0.toNat 0)))))) (lt (IntKind.i64.wrap (v0_0 + (1 : Int))) fun x1 => J 0 (nn0 :: []) (mk_flash_first_0 l x1)))) (post (.t (.c (.v (.int .i64 0)))))
theorem er_flash_first_0 (J : Inv) (l : List Int) (v0_0 : Int) (nn0 : Nat) (post : DV → Prop) : round Tryz.prog tab S3 ann_flash_first J Tryz.f67 post 0 (nn0 :: []) (mk_flash_first_0 l v0_0) = rd_flash_first_0 J l v0_0 nn0 post := by kernel_rfl
theorem lp_flash_first (J : Inv) (post : DV → Prop) : AllG J (loopsFn Tryz.prog tab S3 ann_flash_first J Tryz.f67 post) = (((∀ F s, ¬ J 0 (0 :: F) s) ∧ ∀ n F s, J 0 ((n + 1) :: F) s → round Tryz.prog tab S3 ann_flash_first J Tryz.f67 post 0 (n :: F) s) ∧ True) := by kernel_rfl
def J_flash_first (l : List Int) : Inv := fun b F s => match b, F with
 | 0, [nn0] => ∃ (v0_0 : Int), s = mk_flash_first_0 l v0_0 ∧ (0 ≤ v0_0 ∧ v0_0 ≤ l.length ∧ (nn0 : Int) + v0_0 = l.length + 1 ∧ ∀ j : Nat, (j : Int) < v0_0 → l.getD j 0 = 0)
 | _, _ => False
theorem rnd_flash_first_0 (l : List Int) (v0_0 : Int) (nn0 : Nat) (hp : (l).length ≤ 100) (hi : 0 ≤ v0_0 ∧ v0_0 ≤ l.length ∧ ((nn0 + 1) : Int) + v0_0 = l.length + 1 ∧ ∀ j : Nat, (j : Int) < v0_0 → l.getD j 0 = 0) : rd_flash_first_0 (J_flash_first l) l v0_0 nn0 (fun r => LeD r (.t (.c (.v (.int .i64 (firstNZ l)))))) := by
 obtain ⟨i1, i2, i3, i4⟩ := hi
 obtain ⟨k, rfl⟩ : ∃ k : Nat, v0_0 = k := ⟨v0_0.toNat, by omega⟩
 have hk : (k : Int).toNat = k := rfl
 unfold rd_flash_first_0
 rw [hk]
 have el : firstNZ l = scan (fun i => l.getD i 0) l.length := by
  unfold scan
  congr 1
  apply List.ext_getElem?
  intro i
  by_cases hi : i < l.length
  ·simp [hi, List.getD]
  ·rw [List.getElem?_eq_none (by omega), List.getElem?_eq_none (by simpa using hi)]
 refine cond_i (fun h => ⟨by have := of_decide_eq_true h; omega, cond_i (fun e => leI ?_) (fun e => lt_i fun x hx => ?_)⟩) (fun h => leI ?_)
 ·have h := of_decide_eq_true h
  rw [el, scan_at (k := k) (fun j hj => i4 j (by omega)) (by omega) (by simpa using e)]
 ·have h := of_decide_eq_true h
  rw [IntWalk.i64_in _ (by have := l.length; omega)] at hx
  subst hx
  refine ⟨_, rfl, by omega, by omega, by omega, fun j hj => ?_⟩
  by_cases q : j = k
  ·rw [q]; simpa using e
  ·exact i4 j (by omega)
 ·have h := of_decide_eq_false h
  rw [el, scan_end fun j hj => i4 j (by omega)]
theorem zero_flash_first_0 (l : List Int) (v0_0 : Int)  (hi : 0 ≤ v0_0 ∧ v0_0 ≤ l.length ∧ (0 : Int) + v0_0 = l.length + 1 ∧ ∀ j : Nat, (j : Int) < v0_0 → l.getD j 0 = 0) : False := by
 omega
theorem spec_flash_first (l : List Int) (hp : (l).length ≤ 100) : vc_flash_first (J_flash_first l) l (fun r => LeD r (.t (.c (.v (.int .i64 (firstNZ l)))))) := by
 unfold vc_flash_first
 exact ⟨l.length + 1, 0, rfl, by omega, by omega, by omega, fun j hj => by omega⟩
theorem all_flash_first (l : List Int) (hp : (l).length ≤ 100) : AllG (J_flash_first l) (loopsFn Tryz.prog tab S3 ann_flash_first (J_flash_first l) Tryz.f67 (fun r => LeD r (.t (.c (.v (.int .i64 (firstNZ l))))))) := by
 rw [lp_flash_first]
 refine ⟨⟨?_, ?_⟩, trivial⟩
 ·intro F s h
  obtain _ | ⟨g, F⟩ := F
  case cons => exact h.elim
  obtain ⟨w0, rfl, hi⟩ := h
  exact zero_flash_first_0 l w0 hi
 ·intro n F s h
  obtain _ | ⟨g, F⟩ := F
  case cons => exact h.elim
  obtain ⟨w0, rfl, hi⟩ := h
  rw [er_flash_first_0]
  exact rnd_flash_first_0 l _ _ hp hi
def con_flash_first : Con := fun args => match args with
 | [.t (.c (.sl 1 n_l c_l))] => some (.t (.c (.v (.int .i64 (firstNZ (listC n_l mkInt c_l))))), some (numsP 1 n_l c_l ∧ ((listC n_l mkInt c_l)).length ≤ 100), false)
 | _ => none
theorem ok_flash_first : Ok Tryz.prog 67 con_flash_first := by
 refine Ok.fn (ann := ann_flash_first) mixed tabOK VS3 ValidIt.no (fn := Tryz.f67) (by kernel_rfl) (by kernel_rfl) fit_flash_first fun args r pre fresh h hp => ?_
 unfold con_flash_first at h
 split at h
 ·rename_i n_l c_l
  cases h
  obtain ⟨hp0, hp⟩ := hp
  refine ⟨rfl, J_flash_first (listC n_l mkInt c_l), [.t (.c (.sl 1 ((listC n_l mkInt c_l).length) (intsC (listC n_l mkInt c_l))))], ?_, Nat.le_of_ble_eq_true (by kernel_rfl), ?_, ?_⟩
  ·exact (LeA_cons (leT_c ((leL_int hp0))) LeA_nil)
  ·rw [ev_flash_first]; exact spec_flash_first (listC n_l mkInt c_l) hp
  ·exact all_flash_first (listC n_l mkInt c_l) hp
 ·cases h
def S4 : Sum := addS S3 67 con_flash_first
theorem VS4 : Valid Tryz.prog S4 := Valid.add VS3 ok_flash_first
def vc_flash_isSized (a : Int) (b : Int) (post : DV → Prop) : Prop := lt (IntKind.i64.wrap ((0 : Int) - b)) fun x1 => post (.t (.c (.v (.bool (inB a x1 b)))))
def ann_flash_isSized : Ann := ⟨fun _ => none, fun _ => none, fun _ => [], noIt, false, fun _ => none, fun _ => none⟩
theorem ev_flash_isSized (J : Inv) (a : Int) (b : Int) (post : DV → Prop) : evFn Tryz.prog tab S4 ann_flash_isSized J Tryz.f109 [.t (.c (.v (.int .i64 a))), .t (.c (.v (.int .i64 b)))] post = vc_flash_isSized a b post := by kernel_rfl
theorem fit_flash_isSized : okFn ann_flash_isSized Tryz.f109 = true := by kernel_rfl
theorem lp_flash_isSized (J : Inv) (post : DV → Prop) : AllG J (loopsFn Tryz.prog tab S4 ann_flash_isSized J Tryz.f109 post) = (True) := by kernel_rfl
theorem spec_flash_isSized (a : Int) (b : Int) (hp : 0 ≤ b ∧ b ≤ 1000000000000) : vc_flash_isSized a b (fun r => LeD r (.t (.c (.v (.bool (inB a (-b) b)))))) := by
 unfold vc_flash_isSized
 refine lt_i fun x hx => leB ?_
 rw [wi (by omega)] at hx
 rw [← hx, Int.zero_sub]
def con_flash_isSized : Con := fun args => match args with
 | [.t (.c (.v (.int .i64 a))), .t (.c (.v (.int .i64 b)))] => some (.t (.c (.v (.bool (inB a (-b) b)))), some (0 ≤ b ∧ b ≤ 1000000000000), false)
 | _ => none
theorem ok_flash_isSized : Ok Tryz.prog 109 con_flash_isSized := by
 refine Ok.fn (ann := ann_flash_isSized) mixed tabOK VS4 ValidIt.no (fn := Tryz.f109) (by kernel_rfl) (by kernel_rfl) fit_flash_isSized fun args r pre fresh h hp => ?_
 unfold con_flash_isSized at h
 split at h
 ·rename_i a b
  cases h
  refine ⟨rfl, fun _ _ _ => False, _, LeA.refl _, Nat.le_of_ble_eq_true (by kernel_rfl), ?_, ?_⟩
  ·rw [ev_flash_isSized]; exact spec_flash_isSized a b hp
  ·rw [lp_flash_isSized]; trivial
 ·cases h
def S5 : Sum := addS S4 109 con_flash_isSized
theorem VS5 : Valid Tryz.prog S5 := Valid.add VS4 ok_flash_isSized
def vc_flash_countErr (n : Int) (m : Int) (post : DV → Prop) : Prop := (numsP 1 2 (genC [[.v (.int .i64 (unl (decide (n > (0 : Int))) (10 : Int)))], [.v (.int .i64 (unl (decide (n ≤ m)) (8 : Int)))]]) ∧ (([(unl (decide (n > (0 : Int))) (10 : Int)), (unl (decide (n ≤ m)) (8 : Int))] : List Int)).length ≤ 100) ∧ (post (.t (.c (.v (.int .i64 (firstNZ ([(unl (decide (n > (0 : Int))) (10 : Int)), (unl (decide (n ≤ m)) (8 : Int))] : List Int)))))))
def ann_flash_countErr : Ann := ⟨fun _ => none, fun _ => none, fun _ => [], noIt, false, fun _ => none, fun _ => none⟩
theorem ev_flash_countErr (J : Inv) (n : Int) (m : Int) (post : DV → Prop) : evFn Tryz.prog tab S5 ann_flash_countErr J Tryz.f141 [.t (.c (.v (.int .i64 n))), .t (.c (.v (.int .i64 m)))] post = vc_flash_countErr n m post := by kernel_rfl
theorem fit_flash_countErr : okFn ann_flash_countErr Tryz.f141 = true := by kernel_rfl
theorem lp_flash_countErr (J : Inv) (post : DV → Prop) : AllG J (loopsFn Tryz.prog tab S5 ann_flash_countErr J Tryz.f141 post) = (True) := by kernel_rfl
theorem spec_flash_countErr (n : Int) (m : Int) : vc_flash_countErr n m (fun r => LeD r (.t (.c (.v (.int .i64 (cntW n m)))))) := by
 exact ⟨⟨numsP_gen [_, _], Nat.le_of_ble_eq_true rfl⟩, LeD.refl _⟩
def con_flash_countErr : Con := fun args => match args with
 | [.t (.c (.v (.int .i64 n))), .t (.c (.v (.int .i64 m)))] => some (.t (.c (.v (.int .i64 (cntW n m)))), none, false)
 | _ => none
theorem ok_flash_countErr : Ok Tryz.prog 141 con_flash_countErr := by
 refine Ok.fn (ann := ann_flash_countErr) mixed tabOK VS5 ValidIt.no (fn := Tryz.f141) (by kernel_rfl) (by kernel_rfl) fit_flash_countErr fun args r pre fresh h hp => ?_
 unfold con_flash_countErr at h
 split at h
 ·rename_i n m
  cases h
  refine ⟨rfl, fun _ _ _ => False, _, LeA.refl _, Nat.le_of_ble_eq_true (by kernel_rfl), ?_, ?_⟩
  ·rw [ev_flash_countErr]; exact spec_flash_countErr n m
  ·rw [lp_flash_countErr]; trivial
 ·cases h
def S6 : Sum := addS S5 141 con_flash_countErr
theorem VS6 : Valid Tryz.prog S6 := Valid.add VS5 ok_flash_countErr
def vc_flash_inOrder (r0 r1 : Int) (post : DV → Prop) : Prop := post (.t (.c (.v (.int .i64 (unl (decide (r0 ≤ r1)) (9 : Int))))))
def ann_flash_inOrder : Ann := ⟨fun _ => none, fun _ => none, fun _ => [], noIt, false, fun _ => none, fun _ => none⟩
theorem ev_flash_inOrder (J : Inv) (r0 r1 : Int) (post : DV → Prop) : evFn Tryz.prog tab S6 ann_flash_inOrder J Tryz.f173 [.t (.a [.v (.int .i64 r0), .v (.int .i64 r1)])] post = vc_flash_inOrder r0 r1 post := by kernel_rfl
theorem fit_flash_inOrder : okFn ann_flash_inOrder Tryz.f173 = true := by kernel_rfl
theorem lp_flash_inOrder (J : Inv) (post : DV → Prop) : AllG J (loopsFn Tryz.prog tab S6 ann_flash_inOrder J Tryz.f173 post) = (True) := by kernel_rfl
theorem spec_flash_inOrder (r0 r1 : Int) : vc_flash_inOrder r0 r1 (fun r => LeD r (.t (.c (.v (.int .i64 (rgE (⟨r0, r1⟩ : Rg))))))) := by
 exact LeD.refl _
def con_flash_inOrder : Con := fun args => match args with
 | [.t (.a [.v (.int .i64 r0), .v (.int .i64 r1)])] => some (.t (.c (.v (.int .i64 (rgE (⟨r0, r1⟩ : Rg))))), none, false)
 | _ => none
theorem ok_flash_inOrder : Ok Tryz.prog 173 con_flash_inOrder := by
 refine Ok.fn (ann := ann_flash_inOrder) mixed tabOK VS6 ValidIt.no (fn := Tryz.f173) (by kernel_rfl) (by kernel_rfl) fit_flash_inOrder fun args r pre fresh h hp => ?_
 unfold con_flash_inOrder at h
 split at h
 ·rename_i r0 r1
  cases h
  refine ⟨rfl, fun _ _ _ => False, _, LeA.refl _, Nat.le_of_ble_eq_true (by kernel_rfl), ?_, ?_⟩
  ·rw [ev_flash_inOrder]; exact spec_flash_inOrder r0 r1
  ·rw [lp_flash_inOrder]; trivial
 ·cases h
def S7 : Sum := addS S6 173 con_flash_inOrder
theorem VS7 : Valid Tryz.prog S7 := Valid.add VS6 ok_flash_inOrder
def vc_flash_positionErr_1 (n : Int) (post : DV → Prop) : Prop := (0 ≤ (10000 : Int) ∧ (10000 : Int) ≤ 1000000000000) ∧ (post (.t (.c (.v (.bool (inB n (-(10000 : Int)) (10000 : Int)))))))
def ann_flash_positionErr_1 : Ann := ⟨fun _ => none, fun _ => none, fun _ => [], noIt, false, fun _ => none, fun _ => none⟩
theorem ev_flash_positionErr_1 (J : Inv) (n : Int) (post : DV → Prop) : evFn Tryz.prog tab S7 ann_flash_positionErr_1 J Tryz.f140 [.t (.c (.v (.int .i64 n)))] post = vc_flash_positionErr_1 n post := by kernel_rfl
theorem fit_flash_positionErr_1 : okFn ann_flash_positionErr_1 Tryz.f140 = true := by kernel_rfl
theorem lp_flash_positionErr_1 (J : Inv) (post : DV → Prop) : AllG J (loopsFn Tryz.prog tab S7 ann_flash_positionErr_1 J Tryz.f140 post) = (True) := by kernel_rfl
theorem spec_flash_positionErr_1 (n : Int) : vc_flash_positionErr_1 n (fun r => LeD r (.t (.c (.v (.bool (inB n (-10000) 10000)))))) := by
 exact ⟨by decide, LeD.refl _⟩
def con_flash_positionErr_1 : Con := fun args => match args with
 | [.t (.c (.v (.int .i64 n)))] => some (.t (.c (.v (.bool (inB n (-10000) 10000)))), none, false)
 | _ => none
theorem ok_flash_positionErr_1 : Ok Tryz.prog 140 con_flash_positionErr_1 := by
 refine Ok.fn (ann := ann_flash_positionErr_1) mixed tabOK VS7 ValidIt.no (fn := Tryz.f140) (by kernel_rfl) (by kernel_rfl) fit_flash_positionErr_1 fun args r pre fresh h hp => ?_
 unfold con_flash_positionErr_1 at h
 split at h
 ·rename_i n
  cases h
  refine ⟨rfl, fun _ _ _ => False, _, LeA.refl _, Nat.le_of_ble_eq_true (by kernel_rfl), ?_, ?_⟩
  ·rw [ev_flash_positionErr_1]; exact spec_flash_positionErr_1 n
  ·rw [lp_flash_positionErr_1]; trivial
 ·cases h
def S8 : Sum := addS S7 140 con_flash_positionErr_1
theorem VS8 : Valid Tryz.prog S8 := Valid.add VS7 ok_flash_positionErr_1
def vc_flash_positionErr (p0 p1 p2 : Int) (post : DV → Prop) : Prop := cond (inB p0 (-10000) 10000) (cond (inB p1 (-10000) 10000) (post (.t (.c (.v (.int .i64 (unl (inB p2 (-10000) 10000) (2 : Int))))))) ((false = false) ∧ (post (.t (.c (.v (.int .i64 (unl false (2 : Int))))))))) ((false = false) ∧ ((false = false) ∧ (post (.t (.c (.v (.int .i64 (unl false (2 : Int)))))))))
def ann_flash_positionErr : Ann := ⟨fun _ => none, fun _ => none, fun _ => [], noIt, false, fun _ => none, fun _ => none⟩
theorem ev_flash_positionErr (J : Inv) (p0 p1 p2 : Int) (post : DV → Prop) : evFn Tryz.prog tab S8 ann_flash_positionErr J Tryz.f96 [.t (.a [.v (.int .i64 p0), .v (.int .i64 p1), .v (.int .i64 p2)])] post = vc_flash_positionErr p0 p1 p2 post := by kernel_rfl
theorem fit_flash_positionErr : okFn ann_flash_positionErr Tryz.f96 = true := by kernel_rfl
theorem lp_flash_positionErr (J : Inv) (post : DV → Prop) : AllG J (loopsFn Tryz.prog tab S8 ann_flash_positionErr J Tryz.f96 post) = (True) := by kernel_rfl
theorem spec_flash_positionErr (p0 p1 p2 : Int) : vc_flash_positionErr p0 p1 p2 (fun r => LeD r (.t (.c (.v (.int .i64 (posE (⟨p0, p1, p2⟩ : P3))))))) := by
 unfold vc_flash_positionErr
 unfold posE
 refine cond_i (fun h1 => cond_i (fun h2 => leI ?_) (fun h2 => ⟨rfl, leI ?_⟩)) (fun h1 => ⟨rfl, rfl, leI ?_⟩)
 ·rw [h1, h2]; rfl
 ·rw [h1, h2]; rfl
 ·rw [h1]; rfl
def con_flash_positionErr : Con := fun args => match args with
 | [.t (.a [.v (.int .i64 p0), .v (.int .i64 p1), .v (.int .i64 p2)])] => some (.t (.c (.v (.int .i64 (posE (⟨p0, p1, p2⟩ : P3))))), none, false)
 | _ => none
theorem ok_flash_positionErr : Ok Tryz.prog 96 con_flash_positionErr := by
 refine Ok.fn (ann := ann_flash_positionErr) mixed tabOK VS8 ValidIt.no (fn := Tryz.f96) (by kernel_rfl) (by kernel_rfl) fit_flash_positionErr fun args r pre fresh h hp => ?_
 unfold con_flash_positionErr at h
 split at h
 ·rename_i p0 p1 p2
  cases h
  refine ⟨rfl, fun _ _ _ => False, _, LeA.refl _, Nat.le_of_ble_eq_true (by kernel_rfl), ?_, ?_⟩
  ·rw [ev_flash_positionErr]; exact spec_flash_positionErr p0 p1 p2
  ·rw [lp_flash_positionErr]; trivial
 ·cases h
def S9 : Sum := addS S8 96 con_flash_positionErr
theorem VS9 : Valid Tryz.prog S9 := Valid.add VS8 ok_flash_positionErr
def mk_flash_root_0 (y : Int) (v0_0 : Int) (v0_1 : Int) : DS := ⟨[some (.t (.c (.v (.int .i64 y)))), none, none, some (.t (.c (.v (.int .i64 v0_0)))), some (.t (.c (.v (.int .i64 v0_1)))), none, none, none, none, none, none, none, none, none, none, none, none, none, none, none, none, none, none], [none, none, none, none, none, none, none, none, none, none, none, none, none, none, none, none, none, none, none, none, none, none, none]⟩
def vc_flash_root (J : Inv) (y : Int) (post : DV → Prop) : Prop := ∃ n, J 0 (n :: []) (mk_flash_root_0 y 0 1048576)
def ann_flash_root : Ann := ⟨fun _ => none, fun b => lookA b [(0, (none, some ⟨[0, 3, 4], [], []⟩))], fun _ => [], noIt, false, fun _ => none, fun _ => none⟩
theorem ev_flash_root (J : Inv) (y : Int) (post : DV → Prop) : evFn Tryz.prog tab S9 ann_flash_root J Tryz.f105 [.t (.c (.v (.int .i64 y)))] post = vc_flash_root J y post := by kernel_rfl
theorem fit_flash_root : okFn ann_flash_root Tryz.f105 = true := by kernel_rfl
def rd_flash_root_0 (J : Inv) (y : Int) (v0_0 : Int) (v0_1 : Int) (nn0 : Nat) (post : DV → Prop) : Prop := cond (decide (v0_0 < v0_1)) (lt (IntKind.i64.wrap (v0_0 + v0_1)) fun x1 => lt (IntKind.i64.wrap (x1 + (1 : Int))) fun x2 => lt (IntKind.i64.wrap (Int.tdiv x2 (2 : Int))) fun x3 => (IntKind.i64 = IntKind.i64 ∧ (2 : Int) ≠ 0) ∧ (lt (IntKind.i64.wrap (x3 * x3)) fun x4 => cond (decide (x4 ≤ y)) (J 0 (nn0 :: []) (mk_flash_root_0 y x3 v0_1)) (lt (IntKind.i64.wrap (x3 - (1 : Int))) fun x5 => J 0 (nn0 :: []) (mk_flash_root_0 y v0_0 x5)))) (post (.t (.c (.v (.int .i64 v0_0)))))
theorem er_flash_root_0 (J : Inv) (y : Int) (v0_0 : Int) (v0_1 : Int) (nn0 : Nat) (post : DV → Prop) : round Tryz.prog tab S9 ann_flash_root J Tryz.f105 post 0 (nn0 :: []) (mk_flash_root_0 y v0_0 v0_1) = rd_flash_root_0 J y v0_0 v0_1 nn0 post := by kernel_rfl
theorem lp_flash_root (J : Inv) (post : DV → Prop) : AllG J (loopsFn Tryz.prog tab S9 ann_flash_root J Tryz.f105 post) = (((∀ F s, ¬ J 0 (0 :: F) s) ∧ ∀ n F s, J 0 ((n + 1) :: F) s → round Tryz.prog tab S9 ann_flash_root J Tryz.f105 post 0 (n :: F) s) ∧ True) := by kernel_rfl
def J_flash_root (y : Int) : Inv := fun b F s => match b, F with
 | 0, [nn0] => ∃ (v0_0 : Int) (v0_1 : Int), s = mk_flash_root_0 y v0_0 v0_1 ∧ (0 ≤ v0_0 ∧ v0_0 ≤ v0_1 ∧ v0_1 ≤ 1048576 ∧ v0_0 * v0_0 ≤ y ∧ y < (v0_1 + 1) * (v0_1 + 1) ∧ v0_1 - v0_0 < nn0)
 | _, _ => False
theorem rnd_flash_root_0 (y : Int) (v0_0 : Int) (v0_1 : Int) (nn0 : Nat) (hp : 0 ≤ y ∧ y < 1099511627776) (hi : 0 ≤ v0_0 ∧ v0_0 ≤ v0_1 ∧ v0_1 ≤ 1048576 ∧ v0_0 * v0_0 ≤ y ∧ y < (v0_1 + 1) * (v0_1 + 1) ∧ v0_1 - v0_0 < (nn0 + 1)) : rd_flash_root_0 (J_flash_root y) y v0_0 v0_1 nn0 (fun r => LeD r (.t (.c (.v (.int .i64 (rt y)))))) := by
 obtain ⟨i1, i2, i3, i4, i5, i6⟩ := hi
 unfold rd_flash_root_0
 refine cond_i (fun h => ?_) (fun h => leI ?_)
 ·have h := of_decide_eq_true h
  refine lt_i fun x1 h1 => lt_i fun x2 h2 => lt_i fun x3 h3 => ⟨⟨rfl, by decide⟩, lt_i fun x4 h4 => ?_⟩
  rw [wi (by omega)] at h1
  subst h1
  rw [wi (by omega)] at h2
  subst h2
  rw [Int.tdiv_eq_ediv_of_nonneg (by omega), wi (by omega)] at h3
  have q := mul_rg (x := x3) (y := x3) (A := 2000000) (B := 2000000) (C := 4000000000000) (by omega) (by omega) (by decide)
  rw [wi (by omega)] at h4
  subst h4
  refine cond_i (fun e => ?_) (fun e => lt_i fun x5 h5 => ?_)
  ·have e := of_decide_eq_true e
   exact ⟨_, _, rfl, by omega, by omega, i3, e, i5, by omega⟩
  ·have e := of_decide_eq_false e
   rw [wi (by omega)] at h5
   subst h5
   exact ⟨_, _, rfl, i1, by omega, by omega, i4, by rw [show x3 - 1 + 1 = x3 by omega]; omega, by omega⟩
 ·have h := of_decide_eq_false h
  have : v0_0 = v0_1 := by omega
  subst this
  exact rt_of i1 i4 i5 hp.2
theorem zero_flash_root_0 (y : Int) (v0_0 : Int) (v0_1 : Int)  (hi : 0 ≤ v0_0 ∧ v0_0 ≤ v0_1 ∧ v0_1 ≤ 1048576 ∧ v0_0 * v0_0 ≤ y ∧ y < (v0_1 + 1) * (v0_1 + 1) ∧ v0_1 - v0_0 < 0) : False := by
 omega
theorem spec_flash_root (y : Int) (hp : 0 ≤ y ∧ y < 1099511627776) : vc_flash_root (J_flash_root y) y (fun r => LeD r (.t (.c (.v (.int .i64 (rt y)))))) := by
 unfold vc_flash_root
 exact ⟨1048577, 0, 1048576, rfl, by omega, by omega, by omega, by omega, by omega, by omega⟩
theorem all_flash_root (y : Int) (hp : 0 ≤ y ∧ y < 1099511627776) : AllG (J_flash_root y) (loopsFn Tryz.prog tab S9 ann_flash_root (J_flash_root y) Tryz.f105 (fun r => LeD r (.t (.c (.v (.int .i64 (rt y))))))) := by
 rw [lp_flash_root]
 refine ⟨⟨?_, ?_⟩, trivial⟩
 ·intro F s h
  obtain _ | ⟨g, F⟩ := F
  case cons => exact h.elim
  obtain ⟨w0, w1, rfl, hi⟩ := h
  exact zero_flash_root_0 y w0 w1 hi
 ·intro n F s h
  obtain _ | ⟨g, F⟩ := F
  case cons => exact h.elim
  obtain ⟨w0, w1, rfl, hi⟩ := h
  rw [er_flash_root_0]
  exact rnd_flash_root_0 y _ _ _ hp hi
def con_flash_root : Con := fun args => match args with
 | [.t (.c (.v (.int .i64 y)))] => some (.t (.c (.v (.int .i64 (rt y)))), some (0 ≤ y ∧ y < 1099511627776), false)
 | _ => none
theorem ok_flash_root : Ok Tryz.prog 105 con_flash_root := by
 refine Ok.fn (ann := ann_flash_root) mixed tabOK VS9 ValidIt.no (fn := Tryz.f105) (by kernel_rfl) (by kernel_rfl) fit_flash_root fun args r pre fresh h hp => ?_
 unfold con_flash_root at h
 split at h
 ·rename_i y
  cases h
  refine ⟨rfl, J_flash_root y, _, LeA.refl _, Nat.le_of_ble_eq_true (by kernel_rfl), ?_, ?_⟩
  ·rw [ev_flash_root]; exact spec_flash_root y hp
  ·exact all_flash_root y hp
 ·cases h
def S10 : Sum := addS S9 105 con_flash_root
theorem VS10 : Valid Tryz.prog S10 := Valid.add VS9 ok_flash_root
def vc_flash_apart (a0 a1 a2 : Int) (b0 b1 b2 : Int) (post : DV → Prop) : Prop := lt (IntKind.i64.wrap (a0 - b0)) fun x1 => lt (IntKind.i64.wrap (a1 - b1)) fun x2 => lt (IntKind.i64.wrap (a2 - b2)) fun x3 => lt (IntKind.i64.wrap (x1 * x1)) fun x4 => lt (IntKind.i64.wrap (x2 * x2)) fun x5 => lt (IntKind.i64.wrap (x4 + x5)) fun x6 => lt (IntKind.i64.wrap (x3 * x3)) fun x7 => lt (IntKind.i64.wrap (x6 + x7)) fun x8 => post (.t (.c (.v (.int .i64 x8))))
def ann_flash_apart : Ann := ⟨fun r => lookA r [(1, ([[], [0], [], [2], [0, 1, 2, 3], [], [5], [], [7], [5, 6, 7, 8], [], [10], [], [12], [10, 11, 12, 13], [0, 1, 2, 3, 4], [0, 1, 2, 3, 4, 5, 6, 7, 8, 9, 15], [0, 1, 2, 3, 4, 5, 6, 7, 8, 9, 10, 11, 12, 13, 14, 15, 16]], [[], [], [], [], [], [], [], [], [], [], [], [], [], [], [], [], [], []]))], fun _ => none, fun _ => [], noIt, false, fun _ => none, fun _ => none⟩
theorem ev_flash_apart (J : Inv) (a0 a1 a2 : Int) (b0 b1 b2 : Int) (post : DV → Prop) : evFn Tryz.prog tab S10 ann_flash_apart J Tryz.f106 [.t (.a [.v (.int .i64 a0), .v (.int .i64 a1), .v (.int .i64 a2)]), .t (.a [.v (.int .i64 b0), .v (.int .i64 b1), .v (.int .i64 b2)])] post = vc_flash_apart a0 a1 a2 b0 b1 b2 post := by kernel_rfl
theorem fit_flash_apart : okFn ann_flash_apart Tryz.f106 = true := by kernel_rfl
theorem lp_flash_apart (J : Inv) (post : DV → Prop) : AllG J (loopsFn Tryz.prog tab S10 ann_flash_apart J Tryz.f106 post) = (True) := by kernel_rfl
theorem spec_flash_apart (a0 a1 a2 : Int) (b0 b1 b2 : Int) (hp : ((⟨a0, a1, a2⟩ : P3)).bd 15000 ∧ ((⟨b0, b1, b2⟩ : P3)).bd 15000) : vc_flash_apart a0 a1 a2 b0 b1 b2 (fun r => LeD r (.t (.c (.v (.int .i64 (sqD (⟨a0, a1, a2⟩ : P3) (⟨b0, b1, b2⟩ : P3))))))) := by
 obtain ⟨⟨u1, u2, u3⟩, w1, w2, w3⟩ := hp
 simp only at u1 u2 u3 w1 w2 w3
 have q1 := sq_rg (d := a0 - b0) (K := 30000) (by omega)
 have q2 := sq_rg (d := a1 - b1) (K := 30000) (by omega)
 have q3 := sq_rg (d := a2 - b2) (K := 30000) (by omega)
 unfold vc_flash_apart
 refine lt_i fun x1 h1 => lt_i fun x2 h2 => lt_i fun x3 h3 => ?_
 rw [wi (by omega)] at h1 h2 h3
 subst h1 h2 h3
 refine lt_i fun x4 h4 => lt_i fun x5 h5 => lt_i fun x6 h6 => lt_i fun x7 h7 => lt_i fun x8 h8 => ?_
 rw [wi (by omega)] at h4 h5 h7
 subst h4 h5 h7
 rw [wi (by omega)] at h6
 subst h6
 rw [wi (by omega)] at h8
 subst h8
 exact LeD.refl _
def con_flash_apart : Con := fun args => match args with
 | [.t (.a [.v (.int .i64 a0), .v (.int .i64 a1), .v (.int .i64 a2)]), .t (.a [.v (.int .i64 b0), .v (.int .i64 b1), .v (.int .i64 b2)])] => some (.t (.c (.v (.int .i64 (sqD (⟨a0, a1, a2⟩ : P3) (⟨b0, b1, b2⟩ : P3))))), some (((⟨a0, a1, a2⟩ : P3)).bd 15000 ∧ ((⟨b0, b1, b2⟩ : P3)).bd 15000), false)
 | _ => none
theorem ok_flash_apart : Ok Tryz.prog 106 con_flash_apart := by
 refine Ok.fn (ann := ann_flash_apart) mixed tabOK VS10 ValidIt.no (fn := Tryz.f106) (by kernel_rfl) (by kernel_rfl) fit_flash_apart fun args r pre fresh h hp => ?_
 unfold con_flash_apart at h
 split at h
 ·rename_i a0 a1 a2 b0 b1 b2
  cases h
  refine ⟨rfl, fun _ _ _ => False, _, LeA.refl _, Nat.le_of_ble_eq_true (by kernel_rfl), ?_, ?_⟩
  ·rw [ev_flash_apart]; exact spec_flash_apart a0 a1 a2 b0 b1 b2 hp
  ·rw [lp_flash_apart]; trivial
 ·cases h
def S11 : Sum := addS S10 106 con_flash_apart
theorem VS11 : Valid Tryz.prog S11 := Valid.add VS10 ok_flash_apart
def vc_flash_delay (a0 a1 a2 : Int) (b0 b1 b2 : Int) (post : DV → Prop) : Prop := (((⟨a0, a1, a2⟩ : P3)).bd 15000 ∧ ((⟨b0, b1, b2⟩ : P3)).bd 15000) ∧ (lt (IntKind.i64.wrap ((sqD (⟨a0, a1, a2⟩ : P3) (⟨b0, b1, b2⟩ : P3)) * (9 : Int))) fun x1 => lt (IntKind.i64.wrap (Int.tdiv x1 (4 : Int))) fun x2 => (IntKind.i64 = IntKind.i64 ∧ (4 : Int) ≠ 0) ∧ ((0 ≤ x2 ∧ x2 < 1099511627776) ∧ (post (.t (.c (.v (.int .i64 (rt x2))))))))
def ann_flash_delay : Ann := ⟨fun _ => none, fun _ => none, fun _ => [], noIt, false, fun _ => none, fun _ => none⟩
theorem ev_flash_delay (J : Inv) (a0 a1 a2 : Int) (b0 b1 b2 : Int) (post : DV → Prop) : evFn Tryz.prog tab S11 ann_flash_delay J Tryz.f97 [.t (.a [.v (.int .i64 a0), .v (.int .i64 a1), .v (.int .i64 a2)]), .t (.a [.v (.int .i64 b0), .v (.int .i64 b1), .v (.int .i64 b2)])] post = vc_flash_delay a0 a1 a2 b0 b1 b2 post := by kernel_rfl
theorem fit_flash_delay : okFn ann_flash_delay Tryz.f97 = true := by kernel_rfl
theorem lp_flash_delay (J : Inv) (post : DV → Prop) : AllG J (loopsFn Tryz.prog tab S11 ann_flash_delay J Tryz.f97 post) = (True) := by kernel_rfl
theorem spec_flash_delay (a0 a1 a2 : Int) (b0 b1 b2 : Int) (hp : ((⟨a0, a1, a2⟩ : P3)).bd 15000 ∧ ((⟨b0, b1, b2⟩ : P3)).bd 15000) : vc_flash_delay a0 a1 a2 b0 b1 b2 (fun r => LeD r (.t (.c (.v (.int .i64 (dly (⟨a0, a1, a2⟩ : P3) (⟨b0, b1, b2⟩ : P3))))))) := by
 have hr := sqD_rg hp.1 hp.2
 unfold vc_flash_delay dly
 refine ⟨hp, ?_⟩
 generalize sqD (⟨a0, a1, a2⟩ : P3) (⟨b0, b1, b2⟩ : P3) = s at *
 refine lt_i fun x1 h1 => lt_i fun x2 h2 => ⟨⟨rfl, by decide⟩, ?_⟩
 rw [wi (by omega)] at h1
 subst h1
 rw [Int.tdiv_eq_ediv_of_nonneg (by omega), wi (by omega)] at h2
 subst h2
 exact ⟨by omega, LeD.refl _⟩
def con_flash_delay : Con := fun args => match args with
 | [.t (.a [.v (.int .i64 a0), .v (.int .i64 a1), .v (.int .i64 a2)]), .t (.a [.v (.int .i64 b0), .v (.int .i64 b1), .v (.int .i64 b2)])] => some (.t (.c (.v (.int .i64 (dly (⟨a0, a1, a2⟩ : P3) (⟨b0, b1, b2⟩ : P3))))), some (((⟨a0, a1, a2⟩ : P3)).bd 15000 ∧ ((⟨b0, b1, b2⟩ : P3)).bd 15000), false)
 | _ => none
theorem ok_flash_delay : Ok Tryz.prog 97 con_flash_delay := by
 refine Ok.fn (ann := ann_flash_delay) mixed tabOK VS11 ValidIt.no (fn := Tryz.f97) (by kernel_rfl) (by kernel_rfl) fit_flash_delay fun args r pre fresh h hp => ?_
 unfold con_flash_delay at h
 split at h
 ·rename_i a0 a1 a2 b0 b1 b2
  cases h
  refine ⟨rfl, fun _ _ _ => False, _, LeA.refl _, Nat.le_of_ble_eq_true (by kernel_rfl), ?_, ?_⟩
  ·rw [ev_flash_delay]; exact spec_flash_delay a0 a1 a2 b0 b1 b2 hp
  ·rw [lp_flash_delay]; trivial
 ·cases h
def S12 : Sum := addS S11 97 con_flash_delay
theorem VS12 : Valid Tryz.prog S12 := Valid.add VS11 ok_flash_delay
end Go.Proofs.YtdkpgodakmailaaGreatDoor
set_option linter.unusedVariables false
set_option linter.unusedSimpArgs false
namespace Go.Proofs.YtdkpgodakmailaaGreatDoor
open Go.RowKit Ev
def delE (a b : P3) : Int := firstNZ [posE a, posE b]
def delV (a b : P3) : Int := if delE a b = 0 then dly a b else 0
theorem le2 {a b a' b' : Int} (h1 : a = a') (h2 : b = b') : LeD (.tu [.c (.v (.int .i64 a)), .c (.v (.int .i64 b))]) (.tu [.c (.v (.int .i64 a')), .c (.v (.int .i64 b'))]) := LeD.of (by rw [h1, h2])
def vc_flash_DelayOf (a0 a1 a2 : Int) (b0 b1 b2 : Int) (post : DV → Prop) : Prop := (numsP 1 2 (genC [[.v (.int .i64 (posE (⟨a0, a1, a2⟩ : P3)))], [.v (.int .i64 (posE (⟨b0, b1, b2⟩ : P3)))]]) ∧ (([(posE (⟨a0, a1, a2⟩ : P3)), (posE (⟨b0, b1, b2⟩ : P3))] : List Int)).length ≤ 100) ∧ (cond ((firstNZ ([(posE (⟨a0, a1, a2⟩ : P3)), (posE (⟨b0, b1, b2⟩ : P3))] : List Int)) != (0 : Int)) (post (.tu [.c (.v (.int .i64 0)), .c (.v (.int .i64 (firstNZ ([(posE (⟨a0, a1, a2⟩ : P3)), (posE (⟨b0, b1, b2⟩ : P3))] : List Int))))])) ((((⟨a0, a1, a2⟩ : P3)).bd 15000 ∧ ((⟨b0, b1, b2⟩ : P3)).bd 15000) ∧ (post (.tu [.c (.v (.int .i64 (dly (⟨a0, a1, a2⟩ : P3) (⟨b0, b1, b2⟩ : P3)))), .c (.v (.int .i64 0))]))))
def ann_flash_DelayOf : Ann := ⟨fun r => lookA r [(1, ([[], [0], [], [0, 1, 2], [0, 1, 2, 3], [0, 1, 2, 3, 4], [0, 1, 2, 3, 4, 5]], [[8, 10, 11, 12], [10, 11, 12], [8, 10, 11, 12], [11, 12], [12], [], []]))], fun _ => none, fun _ => [], noIt, false, fun _ => none, fun _ => none⟩
theorem ev_flash_DelayOf (J : Inv) (a0 a1 a2 : Int) (b0 b1 b2 : Int) (post : DV → Prop) : evFn Tryz.prog tab S12 ann_flash_DelayOf J Tryz.f47 [.t (.a [.v (.int .i64 a0), .v (.int .i64 a1), .v (.int .i64 a2)]), .t (.a [.v (.int .i64 b0), .v (.int .i64 b1), .v (.int .i64 b2)])] post = vc_flash_DelayOf a0 a1 a2 b0 b1 b2 post := by kernel_rfl
theorem fit_flash_DelayOf : okFn ann_flash_DelayOf Tryz.f47 = true := by kernel_rfl
theorem lp_flash_DelayOf (J : Inv) (post : DV → Prop) : AllG J (loopsFn Tryz.prog tab S12 ann_flash_DelayOf J Tryz.f47 post) = (True) := by kernel_rfl
theorem spec_flash_DelayOf (a0 a1 a2 : Int) (b0 b1 b2 : Int) : vc_flash_DelayOf a0 a1 a2 b0 b1 b2 (fun r => LeD r (.tu [.c (.v (.int .i64 (delV (⟨a0, a1, a2⟩ : P3) (⟨b0, b1, b2⟩ : P3)))), .c (.v (.int .i64 (delE (⟨a0, a1, a2⟩ : P3) (⟨b0, b1, b2⟩ : P3))))])) := by
 unfold vc_flash_DelayOf
 refine ⟨⟨numsP_gen [_, _], Nat.le_of_ble_eq_true rfl⟩, cond_i (fun h => ?_) (fun h => ⟨?_, ?_⟩)⟩
 ·exact le2 (if_neg (by unfold delE; simpa using h)).symm rfl
 ·have h := fn2 (by simpa using h)
  exact ⟨(posE_0.1 h.1).mono (by decide), (posE_0.1 h.2).mono (by decide)⟩
 ·have h : delE (⟨a0, a1, a2⟩ : P3) (⟨b0, b1, b2⟩ : P3) = 0 := by unfold delE; simpa using h
  exact le2 (if_pos h).symm h.symm
def con_flash_DelayOf : Con := fun args => match args with
 | [.t (.a [.v (.int .i64 a0), .v (.int .i64 a1), .v (.int .i64 a2)]), .t (.a [.v (.int .i64 b0), .v (.int .i64 b1), .v (.int .i64 b2)])] => some (.tu [.c (.v (.int .i64 (delV (⟨a0, a1, a2⟩ : P3) (⟨b0, b1, b2⟩ : P3)))), .c (.v (.int .i64 (delE (⟨a0, a1, a2⟩ : P3) (⟨b0, b1, b2⟩ : P3))))], none, false)
 | _ => none
theorem ok_flash_DelayOf : Ok Tryz.prog 47 con_flash_DelayOf := by
 refine Ok.fn (ann := ann_flash_DelayOf) mixed tabOK VS12 ValidIt.no (fn := Tryz.f47) (by kernel_rfl) (by kernel_rfl) fit_flash_DelayOf fun args r pre fresh h hp => ?_
 unfold con_flash_DelayOf at h
 split at h
 ·rename_i a0 a1 a2 b0 b1 b2
  cases h
  refine ⟨rfl, fun _ _ _ => False, _, LeA.refl _, Nat.le_of_ble_eq_true (by kernel_rfl), ?_, ?_⟩
  ·rw [ev_flash_DelayOf]; exact spec_flash_DelayOf a0 a1 a2 b0 b1 b2
  ·rw [lp_flash_DelayOf]; trivial
 ·cases h
def S13 : Sum := addS S12 47 con_flash_DelayOf
theorem VS13 : Valid Tryz.prog S13 := Valid.add VS12 ok_flash_DelayOf
def vc_flash_CheckHits_1 (r0 r1 : Int) (m : Int) (post : DV → Prop) : Prop := cond (inB r0 (0 : Int) m) (post (.t (.c (.v (.bool (inB r1 (0 : Int) m)))))) ((false = false) ∧ (post (.t (.c (.v (.bool false))))))
def ann_flash_CheckHits_1 : Ann := ⟨fun _ => none, fun _ => none, fun _ => [], noIt, false, fun _ => none, fun _ => none⟩
theorem ev_flash_CheckHits_1 (J : Inv) (r0 r1 : Int) (m : Int) (post : DV → Prop) : evFn Tryz.prog tab S13 ann_flash_CheckHits_1 J Tryz.f170 [.t (.a [.v (.int .i64 r0), .v (.int .i64 r1)]), .t (.c (.v (.int .i64 m)))] post = vc_flash_CheckHits_1 r0 r1 m post := by kernel_rfl
theorem fit_flash_CheckHits_1 : okFn ann_flash_CheckHits_1 Tryz.f170 = true := by kernel_rfl
theorem lp_flash_CheckHits_1 (J : Inv) (post : DV → Prop) : AllG J (loopsFn Tryz.prog tab S13 ann_flash_CheckHits_1 J Tryz.f170 post) = (True) := by kernel_rfl
theorem spec_flash_CheckHits_1 (r0 r1 : Int) (m : Int) : vc_flash_CheckHits_1 r0 r1 m (fun r => LeD r (.t (.c (.v (.bool (rgIn (⟨r0, r1⟩ : Rg) m)))))) := by
 unfold vc_flash_CheckHits_1
 unfold rgIn
 refine cond_i (fun h => leB ?_) (fun h => ⟨rfl, leB ?_⟩)
 ·simp only; rw [h]; rfl
 ·simp only; rw [h]; rfl
def con_flash_CheckHits_1 : Con := fun args => match args with
 | [.t (.a [.v (.int .i64 r0), .v (.int .i64 r1)]), .t (.c (.v (.int .i64 m)))] => some (.t (.c (.v (.bool (rgIn (⟨r0, r1⟩ : Rg) m)))), none, false)
 | _ => none
theorem ok_flash_CheckHits_1 : Ok Tryz.prog 170 con_flash_CheckHits_1 := by
 refine Ok.fn (ann := ann_flash_CheckHits_1) mixed tabOK VS13 ValidIt.no (fn := Tryz.f170) (by kernel_rfl) (by kernel_rfl) fit_flash_CheckHits_1 fun args r pre fresh h hp => ?_
 unfold con_flash_CheckHits_1 at h
 split at h
 ·rename_i r0 r1 m
  cases h
  refine ⟨rfl, fun _ _ _ => False, _, LeA.refl _, Nat.le_of_ble_eq_true (by kernel_rfl), ?_, ?_⟩
  ·rw [ev_flash_CheckHits_1]; exact spec_flash_CheckHits_1 r0 r1 m
  ·rw [lp_flash_CheckHits_1]; trivial
 ·cases h
def S14 : Sum := addS S13 170 con_flash_CheckHits_1
theorem VS14 : Valid Tryz.prog S14 := Valid.add VS13 ok_flash_CheckHits_1
def vc_flash_CheckHits_2 (i : Int) (g0 g1 g2 g3 g4 g5 g6 : Int) (h0 h1 h2 h3 h4 h5 h6 : Int) (post : DV → Prop) : Prop := cond (rgIn (⟨h3, h4⟩ : Rg) (1000000000 : Int)) ((numsP 1 4 (genC [[.v (.int .i64 (posE (⟨h0, h1, h2⟩ : P3)))], [.v (.int .i64 (unl (rgIn (⟨h5, h6⟩ : Rg) (1000000 : Int)) (2 : Int)))], [.v (.int .i64 (rgE (⟨h3, h4⟩ : Rg)))], [.v (.int .i64 (rgE (⟨h5, h6⟩ : Rg)))]]) ∧ (([(posE (⟨h0, h1, h2⟩ : P3)), (unl (rgIn (⟨h5, h6⟩ : Rg) (1000000 : Int)) (2 : Int)), (rgE (⟨h3, h4⟩ : Rg)), (rgE (⟨h5, h6⟩ : Rg))] : List Int)).length ≤ 100) ∧ (post (.t (.c (.v (.int .i64 (firstNZ ([(posE (⟨h0, h1, h2⟩ : P3)), (unl (rgIn (⟨h5, h6⟩ : Rg) (1000000 : Int)) (2 : Int)), (rgE (⟨h3, h4⟩ : Rg)), (rgE (⟨h5, h6⟩ : Rg))] : List Int)))))))) ((false = false) ∧ ((numsP 1 4 (genC [[.v (.int .i64 (posE (⟨h0, h1, h2⟩ : P3)))], [.v (.int .i64 (unl false (2 : Int)))], [.v (.int .i64 (rgE (⟨h3, h4⟩ : Rg)))], [.v (.int .i64 (rgE (⟨h5, h6⟩ : Rg)))]]) ∧ (([(posE (⟨h0, h1, h2⟩ : P3)), (unl false (2 : Int)), (rgE (⟨h3, h4⟩ : Rg)), (rgE (⟨h5, h6⟩ : Rg))] : List Int)).length ≤ 100) ∧ (post (.t (.c (.v (.int .i64 (firstNZ ([(posE (⟨h0, h1, h2⟩ : P3)), (unl false (2 : Int)), (rgE (⟨h3, h4⟩ : Rg)), (rgE (⟨h5, h6⟩ : Rg))] : List Int)))))))))
def ann_flash_CheckHits_2 : Ann := ⟨fun r => lookA r [(2, ([[], [0], [0, 1], [], [0, 1, 2, 3], [], [5], [0, 1, 2, 3, 4, 5, 6], [], [8], [0, 1, 2, 3, 4, 5, 6, 7, 8, 9], [0, 1, 2, 3, 4, 5, 6, 7, 8, 9, 10], [0, 1, 2, 3, 4, 5, 6, 7, 8, 9, 10, 11], [0, 1, 2, 3, 4, 5, 6, 7, 8, 9, 10, 11, 12]], [[21, 23, 26, 29, 30, 31], [21, 23, 26, 29, 30, 31], [23, 26, 29, 30, 31], [21, 23, 26, 29, 30, 31], [26, 29, 30, 31], [21, 23, 26, 29, 30, 31], [21, 23, 26, 29, 30, 31], [29, 30, 31], [21, 23, 26, 29, 30, 31], [21, 23, 26, 29, 30, 31], [30, 31], [31], [], []]))], fun _ => none, fun _ => [], noIt, false, fun _ => none, fun _ => none⟩
theorem ev_flash_CheckHits_2 (J : Inv) (i : Int) (g0 g1 g2 g3 g4 g5 g6 : Int) (h0 h1 h2 h3 h4 h5 h6 : Int) (post : DV → Prop) : evFn Tryz.prog tab S14 ann_flash_CheckHits_2 J Tryz.f172 [.t (.c (.v (.int .i64 i))), .t (.a [.v (.int .i64 g0), .v (.int .i64 g1), .v (.int .i64 g2), .v (.int .i64 g3), .v (.int .i64 g4), .v (.int .i64 g5), .v (.int .i64 g6)]), .t (.a [.v (.int .i64 h0), .v (.int .i64 h1), .v (.int .i64 h2), .v (.int .i64 h3), .v (.int .i64 h4), .v (.int .i64 h5), .v (.int .i64 h6)]), .t (.c (.px 1 0 (boxC [.v (.func (.func 170) ⟨[]⟩ ⟨[]⟩)])))] post = vc_flash_CheckHits_2 i g0 g1 g2 g3 g4 g5 g6 h0 h1 h2 h3 h4 h5 h6 post := by kernel_rfl
theorem fit_flash_CheckHits_2 : okFn ann_flash_CheckHits_2 Tryz.f172 = true := by kernel_rfl
theorem lp_flash_CheckHits_2 (J : Inv) (post : DV → Prop) : AllG J (loopsFn Tryz.prog tab S14 ann_flash_CheckHits_2 J Tryz.f172 post) = (True) := by kernel_rfl
theorem spec_flash_CheckHits_2 (i : Int) (g0 g1 g2 g3 g4 g5 g6 : Int) (h0 h1 h2 h3 h4 h5 h6 : Int) : vc_flash_CheckHits_2 i g0 g1 g2 g3 g4 g5 g6 h0 h1 h2 h3 h4 h5 h6 (fun r => LeD r (.t (.c (.v (.int .i64 (((⟨⟨h0, h1, h2⟩, ⟨h3, h4⟩, ⟨h5, h6⟩⟩ : FHit)).err)))))) := by
 unfold vc_flash_CheckHits_2
 unfold FHit.err
 refine cond_i (fun h => ⟨⟨numsP_gen [_, _, _, _], Nat.le_of_ble_eq_true rfl⟩, leI ?_⟩) (fun h => ⟨rfl, ⟨numsP_gen [_, _, _, _], Nat.le_of_ble_eq_true rfl⟩, leI ?_⟩)
 ·simp only; rw [h]; rfl
 ·simp only; rw [h]; rfl
def con_flash_CheckHits_2 : Con := fun args => match args with
 | [.t (.c (.v (.int .i64 i))), .t (.a [.v (.int .i64 g0), .v (.int .i64 g1), .v (.int .i64 g2), .v (.int .i64 g3), .v (.int .i64 g4), .v (.int .i64 g5), .v (.int .i64 g6)]), .t (.a [.v (.int .i64 h0), .v (.int .i64 h1), .v (.int .i64 h2), .v (.int .i64 h3), .v (.int .i64 h4), .v (.int .i64 h5), .v (.int .i64 h6)]), .t (.c (.px 1 0 c_q))] => some (.t (.c (.v (.int .i64 (((⟨⟨h0, h1, h2⟩, ⟨h3, h4⟩, ⟨h5, h6⟩⟩ : FHit)).err)))), some (intsB [] c_q = true ∧ c_q 0 = .v (.func (.func 170) ⟨[]⟩ ⟨[]⟩)), false)
 | _ => none
theorem ok_flash_CheckHits_2 : Ok Tryz.prog 172 con_flash_CheckHits_2 := by
 refine Ok.fn (ann := ann_flash_CheckHits_2) mixed tabOK VS14 ValidIt.no (fn := Tryz.f172) (by kernel_rfl) (by kernel_rfl) fit_flash_CheckHits_2 fun args r pre fresh h hp => ?_
 unfold con_flash_CheckHits_2 at h
 split at h
 ·rename_i i g0 g1 g2 g3 g4 g5 g6 h0 h1 h2 h3 h4 h5 h6 c_q
  cases h
  obtain ⟨hp0, hp1⟩ := hp
  refine ⟨rfl, fun _ _ _ => False, [.t (.c (.v (.int .i64 i))), .t (.a [.v (.int .i64 g0), .v (.int .i64 g1), .v (.int .i64 g2), .v (.int .i64 g3), .v (.int .i64 g4), .v (.int .i64 g5), .v (.int .i64 g6)]), .t (.a [.v (.int .i64 h0), .v (.int .i64 h1), .v (.int .i64 h2), .v (.int .i64 h3), .v (.int .i64 h4), .v (.int .i64 h5), .v (.int .i64 h6)]), .t (.c (.px 1 0 (boxC [.v (.func (.func 170) ⟨[]⟩ ⟨[]⟩)])))], ?_, Nat.le_of_ble_eq_true (by kernel_rfl), ?_, ?_⟩
  ·exact (LeA_cons (LeD.refl _) (LeA_cons (LeD.refl _) (LeA_cons (LeD.refl _) (LeA_cons (leT_c (leC_p (LeCs.cons (leC_k hp1) LeCs.nil))) LeA_nil))))
  ·rw [ev_flash_CheckHits_2]; exact spec_flash_CheckHits_2 i g0 g1 g2 g3 g4 g5 g6 h0 h1 h2 h3 h4 h5 h6
  ·rw [lp_flash_CheckHits_2]; trivial
 ·cases h
def S15 : Sum := addS S14 172 con_flash_CheckHits_2
theorem VS15 : Valid Tryz.prog S15 := Valid.add VS14 ok_flash_CheckHits_2
def mk_cherenkov_flash_each_cherenkov_api_FlashHit_0 (l : List FHit) (v0_0 : Int) : DS := ⟨[some (.t (.c (.sl 7 l.length (hitsC l)))), some (.t (.fn 172 [.px 1 0 (boxC [.v (.func (.func 170) ⟨[]⟩ ⟨[]⟩)])])), none, none, none, none, none, none, none, some (.t (.c (.sl 7 l.length (hitsC l)))), some (.t (.c (.v (.int .i64 ((l.length : Nat) : Int))))), some (.t (.c (.v (.int .i64 v0_0)))), none, none, none, none, none, none, none, none, none, none, none, none, none, none, none, none, none, none, none], [none, none, none, none, none, none, none, none, none, none, none, none, none, none, none, none, none, none, none, none, none, none, none, none, none, none, none, none, none, none, none]⟩
def vc_cherenkov_flash_each_cherenkov_api_FlashHit (J : Inv) (l : List FHit) (post : DV → Prop) : Prop := ∃ n, J 0 (n :: []) (mk_cherenkov_flash_each_cherenkov_api_FlashHit_0 l 0)
def ann_cherenkov_flash_each_cherenkov_api_FlashHit : Ann := ⟨fun r => lookA r [(4, ([[], [], [], [], [3], [3, 4], [2, 3, 4, 5], [2, 3, 4, 5, 6], [], [0, 1, 2, 3, 4, 5, 6, 7, 8], [0, 1, 2, 3, 4, 5, 6, 7, 8, 9]], [[25], [25], [25], [25], [25], [25], [25], [25], [25], [], []]))], fun b => lookA b [(0, (none, some ⟨[0, 1, 9, 10, 11], [], []⟩))], fun _ => [], noIt, false, fun _ => none, fun _ => none⟩
theorem ev_cherenkov_flash_each_cherenkov_api_FlashHit (J : Inv) (l : List FHit) (post : DV → Prop) : evFn Tryz.prog tab S15 ann_cherenkov_flash_each_cherenkov_api_FlashHit J Tryz.f171 [.t (.c (.sl 7 l.length (hitsC l))), .t (.fn 172 [.px 1 0 (boxC [.v (.func (.func 170) ⟨[]⟩ ⟨[]⟩)])])] post = vc_cherenkov_flash_each_cherenkov_api_FlashHit J l post := by kernel_rfl
theorem fit_cherenkov_flash_each_cherenkov_api_FlashHit : okFn ann_cherenkov_flash_each_cherenkov_api_FlashHit Tryz.f171 = true := by kernel_rfl
def rd_cherenkov_flash_each_cherenkov_api_FlashHit_0 (J : Inv) (l : List FHit) (v0_0 : Int) (nn0 : Nat) (post : DV → Prop) : Prop := cond (decide (v0_0 < ((l.length : Nat) : Int))) ((0 ≤ v0_0 ∧ v0_0 < ((l.length : Nat) : Int)) ∧ (lt (IntKind.i64.wrap (v0_0 - (1 : Int))) fun x1 => lt ((if x1 > (0 : Int) then x1 else (0 : Int))) fun x2 => (0 ≤ x2 ∧ x2 < ((l.length : Nat) : Int)) ∧ ((intsB [] (boxC [.v (.func (.func 170) ⟨[]⟩ ⟨[]⟩)]) = true ∧ (boxC [.v (.func (.func 170) ⟨[]⟩ ⟨[]⟩)]) 0 = .v (.func (.func 170) ⟨[]⟩ ⟨[]⟩)) ∧ (cond ((((hitAt l v0_0.toNat)).err) != (0 : Int)) (post (.tu [.c (.v (.int .i64 v0_0)), .c (.v (.int .i64 (((hitAt l v0_0.toNat)).err)))])) (lt (IntKind.i64.wrap (v0_0 + (1 : Int))) fun x3 => J 0 (nn0 :: []) (mk_cherenkov_flash_each_cherenkov_api_FlashHit_0 l x3)))))) (post (.tu [.c (.v (.int .i64 0)), .c (.v (.int .i64 0))]))
theorem er_cherenkov_flash_each_cherenkov_api_FlashHit_0 (J : Inv) (l : List FHit) (v0_0 : Int) (nn0 : Nat) (post : DV → Prop) : round Tryz.prog tab S15 ann_cherenkov_flash_each_cherenkov_api_FlashHit J Tryz.f171 post 0 (nn0 :: []) (mk_cherenkov_flash_each_cherenkov_api_FlashHit_0 l v0_0) = rd_cherenkov_flash_each_cherenkov_api_FlashHit_0 J l v0_0 nn0 post := by kernel_rfl
theorem lp_cherenkov_flash_each_cherenkov_api_FlashHit (J : Inv) (post : DV → Prop) : AllG J (loopsFn Tryz.prog tab S15 ann_cherenkov_flash_each_cherenkov_api_FlashHit J Tryz.f171 post) = (((∀ F s, ¬ J 0 (0 :: F) s) ∧ ∀ n F s, J 0 ((n + 1) :: F) s → round Tryz.prog tab S15 ann_cherenkov_flash_each_cherenkov_api_FlashHit J Tryz.f171 post 0 (n :: F) s) ∧ True) := by kernel_rfl
def J_cherenkov_flash_each_cherenkov_api_FlashHit (l : List FHit) : Inv := fun b F s => match b, F with
 | 0, [nn0] => ∃ (v0_0 : Int), s = mk_cherenkov_flash_each_cherenkov_api_FlashHit_0 l v0_0 ∧ (l.length ≤ 1000000 ∧ 0 ≤ v0_0 ∧ v0_0 ≤ l.length ∧ (nn0 : Int) + v0_0 = l.length + 1 ∧ ∀ k : Nat, (k : Int) < v0_0 → (hitAt l k).err = 0)
 | _, _ => False
theorem rnd_cherenkov_flash_each_cherenkov_api_FlashHit_0 (l : List FHit) (v0_0 : Int) (nn0 : Nat) (hp : (l).length ≤ 1000000) (hi : l.length ≤ 1000000 ∧ 0 ≤ v0_0 ∧ v0_0 ≤ l.length ∧ ((nn0 + 1) : Int) + v0_0 = l.length + 1 ∧ ∀ k : Nat, (k : Int) < v0_0 → (hitAt l k).err = 0) : rd_cherenkov_flash_each_cherenkov_api_FlashHit_0 (J_cherenkov_flash_each_cherenkov_api_FlashHit l) l v0_0 nn0 (fun r => LeD r (.tu [.c (.v (.int .i64 (scanI (fun k => (hitAt l k).err) (l).length))), .c (.v (.int .i64 (scan (fun k => (hitAt l k).err) (l).length)))])) := by
 obtain ⟨i0, i1, i2, i3, i4⟩ := hi
 obtain ⟨k, rfl⟩ : ∃ k : Nat, v0_0 = k := ⟨v0_0.toNat, by omega⟩
 have hk : (k : Int).toNat = k := rfl
 unfold rd_cherenkov_flash_each_cherenkov_api_FlashHit_0
 rw [hk]
 refine cond_i (fun h => ?_) (fun h => ?_)
 ·have h := of_decide_eq_true h
  refine ⟨by omega, lt_i fun x1 h1 => lt_i fun x2 h2 => ?_⟩
  rw [wi (by omega)] at h1
  obtain ⟨m, hm⟩ : ∃ m : Nat, x2 = m := ⟨x2.toNat, by split at h2 <;> omega⟩
  have hm2 : m = k - 1 := by split at h2 <;> omega
  subst hm
  subst hm2
  clear h2
  refine ⟨by omega, ⟨rfl, rfl⟩, cond_i (fun e => ?_) (fun e => lt_i fun x hx => ?_)⟩
  ·have e : (hitAt l k).err ≠ 0 := by simpa using e
   have hlt : k < l.length := by omega
   exact le2 (scanI_at (f := fun k => (hitAt l k).err) (fun j hj => i4 j (by omega)) hlt e).symm (scan_at (f := fun k => (hitAt l k).err) (fun j hj => i4 j (by omega)) hlt e).symm
  ·have e : (hitAt l k).err = 0 := by simpa using e
   rw [wi (by omega)] at hx
   subst hx
   refine ⟨_, rfl, i0, by omega, by omega, by omega, fun j hj => ?_⟩
   by_cases q : j = k
   ·rw [q]; exact e
   ·exact i4 j (by omega)
 ·have h := of_decide_eq_false h
  exact le2 (scanI_end (f := fun k => (hitAt l k).err) fun j hj => i4 j (by omega)).symm (scan_end (f := fun k => (hitAt l k).err) fun j hj => i4 j (by omega)).symm
theorem zero_cherenkov_flash_each_cherenkov_api_FlashHit_0 (l : List FHit) (v0_0 : Int)  (hi : l.length ≤ 1000000 ∧ 0 ≤ v0_0 ∧ v0_0 ≤ l.length ∧ (0 : Int) + v0_0 = l.length + 1 ∧ ∀ k : Nat, (k : Int) < v0_0 → (hitAt l k).err = 0) : False := by
 omega
theorem spec_cherenkov_flash_each_cherenkov_api_FlashHit (l : List FHit) (hp : (l).length ≤ 1000000) : vc_cherenkov_flash_each_cherenkov_api_FlashHit (J_cherenkov_flash_each_cherenkov_api_FlashHit l) l (fun r => LeD r (.tu [.c (.v (.int .i64 (scanI (fun k => (hitAt l k).err) (l).length))), .c (.v (.int .i64 (scan (fun k => (hitAt l k).err) (l).length)))])) := by
 unfold vc_cherenkov_flash_each_cherenkov_api_FlashHit
 exact ⟨l.length + 1, 0, rfl, hp, by omega, by omega, by omega, fun j hj => by omega⟩
theorem all_cherenkov_flash_each_cherenkov_api_FlashHit (l : List FHit) (hp : (l).length ≤ 1000000) : AllG (J_cherenkov_flash_each_cherenkov_api_FlashHit l) (loopsFn Tryz.prog tab S15 ann_cherenkov_flash_each_cherenkov_api_FlashHit (J_cherenkov_flash_each_cherenkov_api_FlashHit l) Tryz.f171 (fun r => LeD r (.tu [.c (.v (.int .i64 (scanI (fun k => (hitAt l k).err) (l).length))), .c (.v (.int .i64 (scan (fun k => (hitAt l k).err) (l).length)))]))) := by
 rw [lp_cherenkov_flash_each_cherenkov_api_FlashHit]
 refine ⟨⟨?_, ?_⟩, trivial⟩
 ·intro F s h
  obtain _ | ⟨g, F⟩ := F
  case cons => exact h.elim
  obtain ⟨w0, rfl, hi⟩ := h
  exact zero_cherenkov_flash_each_cherenkov_api_FlashHit_0 l w0 hi
 ·intro n F s h
  obtain _ | ⟨g, F⟩ := F
  case cons => exact h.elim
  obtain ⟨w0, rfl, hi⟩ := h
  rw [er_cherenkov_flash_each_cherenkov_api_FlashHit_0]
  exact rnd_cherenkov_flash_each_cherenkov_api_FlashHit_0 l _ _ hp hi
def con_cherenkov_flash_each_cherenkov_api_FlashHit : Con := fun args => match args with
 | [.t (.c (.sl 7 n_l c_l)), .t (.fn 172 [.px 1 0 c_q])] => some (.tu [.c (.v (.int .i64 (scanI (fun k => (hitAt (listC n_l mkHit c_l) k).err) ((listC n_l mkHit c_l)).length))), .c (.v (.int .i64 (scan (fun k => (hitAt (listC n_l mkHit c_l) k).err) ((listC n_l mkHit c_l)).length)))], some (numsP 7 n_l c_l ∧ intsB [] c_q = true ∧ c_q 0 = .v (.func (.func 170) ⟨[]⟩ ⟨[]⟩) ∧ ((listC n_l mkHit c_l)).length ≤ 1000000), false)
 | _ => none
theorem ok_cherenkov_flash_each_cherenkov_api_FlashHit : Ok Tryz.prog 171 con_cherenkov_flash_each_cherenkov_api_FlashHit := by
 refine Ok.fn (ann := ann_cherenkov_flash_each_cherenkov_api_FlashHit) mixed tabOK VS15 ValidIt.no (fn := Tryz.f171) (by kernel_rfl) (by kernel_rfl) fit_cherenkov_flash_each_cherenkov_api_FlashHit fun args r pre fresh h hp => ?_
 unfold con_cherenkov_flash_each_cherenkov_api_FlashHit at h
 split at h
 ·rename_i n_l c_l c_q
  cases h
  obtain ⟨hp0, hp1, hp2, hp⟩ := hp
  refine ⟨rfl, J_cherenkov_flash_each_cherenkov_api_FlashHit (listC n_l mkHit c_l), [.t (.c (.sl 7 ((listC n_l mkHit c_l).length) (hitsC (listC n_l mkHit c_l)))), .t (.fn 172 [.px 1 0 (boxC [.v (.func (.func 170) ⟨[]⟩ ⟨[]⟩)])])], ?_, Nat.le_of_ble_eq_true (by kernel_rfl), ?_, ?_⟩
  ·exact (LeA_cons (leT_c ((leL_FHit hp0))) (LeA_cons (leT_f (LeCs.cons (leC_p (LeCs.cons (leC_k hp2) LeCs.nil)) LeCs.nil)) LeA_nil))
  ·rw [ev_cherenkov_flash_each_cherenkov_api_FlashHit]; exact spec_cherenkov_flash_each_cherenkov_api_FlashHit (listC n_l mkHit c_l) hp
  ·exact all_cherenkov_flash_each_cherenkov_api_FlashHit (listC n_l mkHit c_l) hp
 ·cases h
def S16 : Sum := addS S15 171 con_cherenkov_flash_each_cherenkov_api_FlashHit
theorem VS16 : Valid Tryz.prog S16 := Valid.add VS15 ok_cherenkov_flash_each_cherenkov_api_FlashHit
def vc_flash_CheckHits (l : List FHit) (post : DV → Prop) : Prop := cond ((cntW ((l.length : Nat) : Int) (8 : Int)) != (0 : Int)) (post (.tu [.c (.v (.int .i64 0)), .c (.v (.int .i64 (cntW ((l.length : Nat) : Int) (8 : Int))))])) ((numsP 7 l.length (hitsC l) ∧ intsB [] (boxC [.v (.func (.func 170) ⟨[]⟩ ⟨[]⟩)]) = true ∧ (boxC [.v (.func (.func 170) ⟨[]⟩ ⟨[]⟩)]) 0 = .v (.func (.func 170) ⟨[]⟩ ⟨[]⟩) ∧ ((listC l.length mkHit (hitsC l))).length ≤ 1000000) ∧ (post (.tu [.c (.v (.int .i64 (scanI (fun k => (hitAt (listC l.length mkHit (hitsC l)) k).err) ((listC l.length mkHit (hitsC l))).length))), .c (.v (.int .i64 (scan (fun k => (hitAt (listC l.length mkHit (hitsC l)) k).err) ((listC l.length mkHit (hitsC l))).length)))])))
def ann_flash_CheckHits : Ann := ⟨fun _ => none, fun _ => none, fun _ => [], noIt, false, fun _ => none, fun _ => none⟩
theorem ev_flash_CheckHits (J : Inv) (l : List FHit) (post : DV → Prop) : evFn Tryz.prog tab S16 ann_flash_CheckHits J Tryz.f139 [.t (.c (.sl 7 l.length (hitsC l)))] post = vc_flash_CheckHits l post := by kernel_rfl
theorem fit_flash_CheckHits : okFn ann_flash_CheckHits Tryz.f139 = true := by kernel_rfl
theorem lp_flash_CheckHits (J : Inv) (post : DV → Prop) : AllG J (loopsFn Tryz.prog tab S16 ann_flash_CheckHits J Tryz.f139 post) = (True) := by kernel_rfl
theorem spec_flash_CheckHits (l : List FHit) : vc_flash_CheckHits l (fun r => LeD r (.tu [.c (.v (.int .i64 (hitsI l))), .c (.v (.int .i64 (hitsE l)))])) := by
 unfold vc_flash_CheckHits
 rw [hits_listC]
 refine cond_i (fun h => ?_) (fun h => ?_)
 ·have h : cntE l.length 8 ≠ 0 := by simpa [cntW, cntE] using h
  exact le2 (if_neg h).symm (if_neg h).symm
 ·have h : cntE l.length 8 = 0 := by simpa [cntW, cntE] using h
  refine ⟨⟨numsP_hits l, rfl, rfl, ?_⟩, le2 (if_pos h).symm (if_pos h).symm⟩
  have h2 := (fn2 h).2
  rw [unl_0 (by decide)] at h2
  have := of_decide_eq_true h2
  omega
def con_flash_CheckHits : Con := fun args => match args with
 | [.t (.c (.sl 7 n_l c_l))] => some (.tu [.c (.v (.int .i64 (hitsI (listC n_l mkHit c_l)))), .c (.v (.int .i64 (hitsE (listC n_l mkHit c_l))))], some (numsP 7 n_l c_l), false)
 | _ => none
theorem ok_flash_CheckHits : Ok Tryz.prog 139 con_flash_CheckHits := by
 refine Ok.fn (ann := ann_flash_CheckHits) mixed tabOK VS16 ValidIt.no (fn := Tryz.f139) (by kernel_rfl) (by kernel_rfl) fit_flash_CheckHits fun args r pre fresh h hp => ?_
 unfold con_flash_CheckHits at h
 split at h
 ·rename_i n_l c_l
  cases h
  have hp0 := hp
  refine ⟨rfl, fun _ _ _ => False, [.t (.c (.sl 7 ((listC n_l mkHit c_l).length) (hitsC (listC n_l mkHit c_l))))], ?_, Nat.le_of_ble_eq_true (by kernel_rfl), ?_, ?_⟩
  ·exact (LeA_cons (leT_c ((leL_FHit hp0))) LeA_nil)
  ·rw [ev_flash_CheckHits]; exact spec_flash_CheckHits (listC n_l mkHit c_l)
  ·rw [lp_flash_CheckHits]; trivial
 ·cases h
def S17 : Sum := addS S16 139 con_flash_CheckHits
theorem VS17 : Valid Tryz.prog S17 := Valid.add VS16 ok_flash_CheckHits
def vc_flash_hitsErr (l : List FHit) (post : DV → Prop) : Prop := (numsP 7 l.length (hitsC l)) ∧ (post (.t (.c (.v (.int .i64 (hitsE (listC l.length mkHit (hitsC l))))))))
def ann_flash_hitsErr : Ann := ⟨fun _ => none, fun _ => none, fun _ => [], noIt, false, fun _ => none, fun _ => none⟩
theorem ev_flash_hitsErr (J : Inv) (l : List FHit) (post : DV → Prop) : evFn Tryz.prog tab S17 ann_flash_hitsErr J Tryz.f89 [.t (.c (.sl 7 l.length (hitsC l)))] post = vc_flash_hitsErr l post := by kernel_rfl
theorem fit_flash_hitsErr : okFn ann_flash_hitsErr Tryz.f89 = true := by kernel_rfl
theorem lp_flash_hitsErr (J : Inv) (post : DV → Prop) : AllG J (loopsFn Tryz.prog tab S17 ann_flash_hitsErr J Tryz.f89 post) = (True) := by kernel_rfl
theorem spec_flash_hitsErr (l : List FHit) : vc_flash_hitsErr l (fun r => LeD r (.t (.c (.v (.int .i64 (hitsE l)))))) := by
 unfold vc_flash_hitsErr
 rw [hits_listC]
 exact ⟨numsP_hits l, LeD.refl _⟩
def con_flash_hitsErr : Con := fun args => match args with
 | [.t (.c (.sl 7 n_l c_l))] => some (.t (.c (.v (.int .i64 (hitsE (listC n_l mkHit c_l))))), some (numsP 7 n_l c_l), false)
 | _ => none
theorem ok_flash_hitsErr : Ok Tryz.prog 89 con_flash_hitsErr := by
 refine Ok.fn (ann := ann_flash_hitsErr) mixed tabOK VS17 ValidIt.no (fn := Tryz.f89) (by kernel_rfl) (by kernel_rfl) fit_flash_hitsErr fun args r pre fresh h hp => ?_
 unfold con_flash_hitsErr at h
 split at h
 ·rename_i n_l c_l
  cases h
  have hp0 := hp
  refine ⟨rfl, fun _ _ _ => False, [.t (.c (.sl 7 ((listC n_l mkHit c_l).length) (hitsC (listC n_l mkHit c_l))))], ?_, Nat.le_of_ble_eq_true (by kernel_rfl), ?_, ?_⟩
  ·exact (LeA_cons (leT_c ((leL_FHit hp0))) LeA_nil)
  ·rw [ev_flash_hitsErr]; exact spec_flash_hitsErr (listC n_l mkHit c_l)
  ·rw [lp_flash_hitsErr]; trivial
 ·cases h
def S18 : Sum := addS S17 89 con_flash_hitsErr
theorem VS18 : Valid Tryz.prog S18 := Valid.add VS17 ok_flash_hitsErr
def vc_flash_CheckLattice (g0 g1 g2 g3 g4 : Int) (post : DV → Prop) : Prop := cond (inB g3 (1 : Int) (1000 : Int)) ((numsP 1 2 (genC [[.v (.int .i64 (posE (⟨g0, g1, g2⟩ : P3)))], [.v (.int .i64 (unl (inB g4 (1 : Int) (6 : Int)) (2 : Int)))]]) ∧ (([(posE (⟨g0, g1, g2⟩ : P3)), (unl (inB g4 (1 : Int) (6 : Int)) (2 : Int))] : List Int)).length ≤ 100) ∧ (post (.t (.c (.v (.int .i64 (firstNZ ([(posE (⟨g0, g1, g2⟩ : P3)), (unl (inB g4 (1 : Int) (6 : Int)) (2 : Int))] : List Int)))))))) ((false = false) ∧ ((numsP 1 2 (genC [[.v (.int .i64 (posE (⟨g0, g1, g2⟩ : P3)))], [.v (.int .i64 (unl false (2 : Int)))]]) ∧ (([(posE (⟨g0, g1, g2⟩ : P3)), (unl false (2 : Int))] : List Int)).length ≤ 100) ∧ (post (.t (.c (.v (.int .i64 (firstNZ ([(posE (⟨g0, g1, g2⟩ : P3)), (unl false (2 : Int))] : List Int)))))))))
def ann_flash_CheckLattice : Ann := ⟨fun r => lookA r [(1, ([[], [0], [0, 1], [], [3], [0, 1, 2, 3, 4], [0, 1, 2, 3, 4, 5], [0, 1, 2, 3, 4, 5, 6], [0, 1, 2, 3, 4, 5, 6, 7], [0, 1, 2, 3, 4, 5, 6, 7, 8], [0, 1, 2, 3, 4, 5, 6, 7, 8, 9], [0, 1, 2, 3, 4, 5, 6, 7, 8, 9, 10], [0, 1, 2, 3, 4, 5, 6, 7, 8, 9, 10, 11], [0, 1, 2, 3, 4, 5, 6, 7, 8, 9, 10, 11, 12], [0, 1, 2, 3, 4, 5, 6, 7, 8, 9, 10, 11, 12, 13]], [[5, 8, 12, 14, 15, 16], [5, 8, 12, 14, 15, 16], [8, 12, 14, 15, 16], [5, 8, 12, 14, 15, 16], [5, 8, 12, 14, 15, 16], [12, 14, 15, 16], [12, 14, 15, 16], [12, 14, 15, 16], [12, 14, 15, 16], [14, 15, 16], [14, 15, 16], [15, 16], [16], [], []]))], fun _ => none, fun _ => [], noIt, false, fun _ => none, fun _ => none⟩
theorem ev_flash_CheckLattice (J : Inv) (g0 g1 g2 g3 g4 : Int) (post : DV → Prop) : evFn Tryz.prog tab S18 ann_flash_CheckLattice J Tryz.f146 [.t (.a [.v (.int .i64 g0), .v (.int .i64 g1), .v (.int .i64 g2), .v (.int .i64 g3), .v (.int .i64 g4)])] post = vc_flash_CheckLattice g0 g1 g2 g3 g4 post := by kernel_rfl
theorem fit_flash_CheckLattice : okFn ann_flash_CheckLattice Tryz.f146 = true := by kernel_rfl
theorem lp_flash_CheckLattice (J : Inv) (post : DV → Prop) : AllG J (loopsFn Tryz.prog tab S18 ann_flash_CheckLattice J Tryz.f146 post) = (True) := by kernel_rfl
theorem spec_flash_CheckLattice (g0 g1 g2 g3 g4 : Int) : vc_flash_CheckLattice g0 g1 g2 g3 g4 (fun r => LeD r (.t (.c (.v (.int .i64 (latE (⟨⟨g0, g1, g2⟩, g3, g4⟩ : Lat))))))) := by
 unfold vc_flash_CheckLattice
 unfold latE
 refine cond_i (fun h => ⟨⟨numsP_gen [_, _], Nat.le_of_ble_eq_true rfl⟩, leI ?_⟩) (fun h => ⟨rfl, ⟨numsP_gen [_, _], Nat.le_of_ble_eq_true rfl⟩, leI ?_⟩)
 ·simp only; rw [h]; rfl
 ·simp only; rw [h]; rfl
def con_flash_CheckLattice : Con := fun args => match args with
 | [.t (.a [.v (.int .i64 g0), .v (.int .i64 g1), .v (.int .i64 g2), .v (.int .i64 g3), .v (.int .i64 g4)])] => some (.t (.c (.v (.int .i64 (latE (⟨⟨g0, g1, g2⟩, g3, g4⟩ : Lat))))), none, false)
 | _ => none
theorem ok_flash_CheckLattice : Ok Tryz.prog 146 con_flash_CheckLattice := by
 refine Ok.fn (ann := ann_flash_CheckLattice) mixed tabOK VS18 ValidIt.no (fn := Tryz.f146) (by kernel_rfl) (by kernel_rfl) fit_flash_CheckLattice fun args r pre fresh h hp => ?_
 unfold con_flash_CheckLattice at h
 split at h
 ·rename_i g0 g1 g2 g3 g4
  cases h
  refine ⟨rfl, fun _ _ _ => False, _, LeA.refl _, Nat.le_of_ble_eq_true (by kernel_rfl), ?_, ?_⟩
  ·rw [ev_flash_CheckLattice]; exact spec_flash_CheckLattice g0 g1 g2 g3 g4
  ·rw [lp_flash_CheckLattice]; trivial
 ·cases h
def S19 : Sum := addS S18 146 con_flash_CheckLattice
theorem VS19 : Valid Tryz.prog S19 := Valid.add VS18 ok_flash_CheckLattice
def vc_flash_size (g0 g1 g2 g3 g4 : Int) (post : DV → Prop) : Prop := lt (IntKind.i64.wrap (g4 * g4)) fun x1 => lt (IntKind.i64.wrap (x1 * g4)) fun x2 => post (.t (.c (.v (.int .i64 x2))))
def ann_flash_size : Ann := ⟨fun _ => none, fun _ => none, fun _ => [], noIt, false, fun _ => none, fun _ => none⟩
theorem ev_flash_size (J : Inv) (g0 g1 g2 g3 g4 : Int) (post : DV → Prop) : evFn Tryz.prog tab S19 ann_flash_size J Tryz.f111 [.t (.a [.v (.int .i64 g0), .v (.int .i64 g1), .v (.int .i64 g2), .v (.int .i64 g3), .v (.int .i64 g4)])] post = vc_flash_size g0 g1 g2 g3 g4 post := by kernel_rfl
theorem fit_flash_size : okFn ann_flash_size Tryz.f111 = true := by kernel_rfl
theorem lp_flash_size (J : Inv) (post : DV → Prop) : AllG J (loopsFn Tryz.prog tab S19 ann_flash_size J Tryz.f111 post) = (True) := by kernel_rfl
theorem spec_flash_size (g0 g1 g2 g3 g4 : Int) (hp : latE (⟨⟨g0, g1, g2⟩, g3, g4⟩ : Lat) = 0) : vc_flash_size g0 g1 g2 g3 g4 (fun r => LeD r (.t (.c (.v (.int .i64 (((⟨⟨g0, g1, g2⟩, g3, g4⟩ : Lat)).sz)))))) := by
 have hz := (sz_rg hp).2
 obtain ⟨_, _, q1, q2⟩ := lat_ok hp
 simp only at q1 q2
 have m1 := mul_rg (x := g4) (y := g4) (A := 6) (B := 6) (C := 36) (by omega) (by omega) (by decide)
 have m2 := mul_rg (x := g4 * g4) (y := g4) (A := 36) (B := 6) (C := 216) m1 (by omega) (by decide)
 unfold vc_flash_size
 refine lt_i fun x1 h1 => lt_i fun x2 h2 => ?_
 rw [wi (by omega)] at h1
 subst h1
 rw [wi (by omega)] at h2
 subst h2
 exact LeD.refl _
def con_flash_size : Con := fun args => match args with
 | [.t (.a [.v (.int .i64 g0), .v (.int .i64 g1), .v (.int .i64 g2), .v (.int .i64 g3), .v (.int .i64 g4)])] => some (.t (.c (.v (.int .i64 (((⟨⟨g0, g1, g2⟩, g3, g4⟩ : Lat)).sz)))), some (latE (⟨⟨g0, g1, g2⟩, g3, g4⟩ : Lat) = 0), false)
 | _ => none
theorem ok_flash_size : Ok Tryz.prog 111 con_flash_size := by
 refine Ok.fn (ann := ann_flash_size) mixed tabOK VS19 ValidIt.no (fn := Tryz.f111) (by kernel_rfl) (by kernel_rfl) fit_flash_size fun args r pre fresh h hp => ?_
 unfold con_flash_size at h
 split at h
 ·rename_i g0 g1 g2 g3 g4
  cases h
  refine ⟨rfl, fun _ _ _ => False, _, LeA.refl _, Nat.le_of_ble_eq_true (by kernel_rfl), ?_, ?_⟩
  ·rw [ev_flash_size]; exact spec_flash_size g0 g1 g2 g3 g4 hp
  ·rw [lp_flash_size]; trivial
 ·cases h
def S20 : Sum := addS S19 111 con_flash_size
theorem VS20 : Valid Tryz.prog S20 := Valid.add VS19 ok_flash_size
def vc_flash_position (g0 g1 g2 g3 g4 : Int) (k : Int) (post : DV → Prop) : Prop := lt (IntKind.i64.wrap (Int.tdiv k g4)) fun x1 => (IntKind.i64 = IntKind.i64 ∧ g4 ≠ 0) ∧ (lt (IntKind.i64.wrap (Int.tdiv x1 g4)) fun x2 => (IntKind.i64 = IntKind.i64 ∧ g4 ≠ 0) ∧ (lt (IntKind.i64.wrap (Int.tdiv k g4)) fun x3 => (IntKind.i64 = IntKind.i64 ∧ g4 ≠ 0) ∧ (lt (Int.tmod x3 g4) fun x4 => (IntKind.i64 = IntKind.i64 ∧ g4 ≠ 0) ∧ (lt (Int.tmod k g4) fun x5 => (IntKind.i64 = IntKind.i64 ∧ g4 ≠ 0) ∧ (lt (IntKind.i64.wrap (g3 * x2)) fun x6 => lt (IntKind.i64.wrap (g0 + x6)) fun x7 => lt (IntKind.i64.wrap (g3 * x4)) fun x8 => lt (IntKind.i64.wrap (g1 + x8)) fun x9 => lt (IntKind.i64.wrap (g3 * x5)) fun x10 => lt (IntKind.i64.wrap (g2 + x10)) fun x11 => post (.t (.a [.v (.int .i64 x7), .v (.int .i64 x9), .v (.int .i64 x11)])))))))
def ann_flash_position : Ann := ⟨fun r => lookA r [(1, ([[], [], [1], [0, 1, 2], [], [4], [0, 1, 2, 3, 4, 5], [], [], [8], [7, 8, 9], [], [11], [7, 8, 9, 10, 11, 12], [], [], [15], [14, 15, 16], [0, 1, 2, 3, 4, 5, 6], [0, 1, 2, 3, 4, 5, 6, 7, 8, 9, 10, 11, 12, 13, 18], [0, 1, 2, 3, 4, 5, 6, 7, 8, 9, 10, 11, 12, 13, 14, 15, 16, 17, 18, 19]], [[], [], [], [], [], [], [], [], [], [], [], [], [], [], [], [], [], [], [], [], []]))], fun _ => none, fun _ => [], noIt, false, fun _ => none, fun _ => none⟩
theorem ev_flash_position (J : Inv) (g0 g1 g2 g3 g4 : Int) (k : Int) (post : DV → Prop) : evFn Tryz.prog tab S20 ann_flash_position J Tryz.f147 [.t (.a [.v (.int .i64 g0), .v (.int .i64 g1), .v (.int .i64 g2), .v (.int .i64 g3), .v (.int .i64 g4)]), .t (.c (.v (.int .i64 k)))] post = vc_flash_position g0 g1 g2 g3 g4 k post := by kernel_rfl
theorem fit_flash_position : okFn ann_flash_position Tryz.f147 = true := by kernel_rfl
theorem lp_flash_position (J : Inv) (post : DV → Prop) : AllG J (loopsFn Tryz.prog tab S20 ann_flash_position J Tryz.f147 post) = (True) := by kernel_rfl
theorem spec_flash_position (g0 g1 g2 g3 g4 : Int) (k : Int) (hp : latE (⟨⟨g0, g1, g2⟩, g3, g4⟩ : Lat) = 0 ∧ 0 ≤ k ∧ k < ((⟨⟨g0, g1, g2⟩, g3, g4⟩ : Lat)).sz) : vc_flash_position g0 g1 g2 g3 g4 k (fun r => LeD r (.t (.a [.v (.int .i64 ((posAt (⟨⟨g0, g1, g2⟩, g3, g4⟩ : Lat) k).x)), .v (.int .i64 ((posAt (⟨⟨g0, g1, g2⟩, g3, g4⟩ : Lat) k).y)), .v (.int .i64 ((posAt (⟨⟨g0, g1, g2⟩, g3, g4⟩ : Lat) k).z))]))) := by
 obtain ⟨hl, hk, hk2⟩ := hp
 obtain ⟨⟨a1, a2, a3⟩, hs, q1, q2⟩ := lat_ok hl
 simp only at a1 a2 a3 hs q1 q2
 have hz := (sz_rg hl).2
 obtain ⟨d1, d2, d3⟩ := digits q1 hk hk2
 have e1 := step_rg hs q2 d1
 have e2 := step_rg hs q2 d2
 have e3 := step_rg hs q2 d3
 have e0 : 0 ≤ k / g4 := Int.ediv_nonneg hk (by omega)
 have e4 : k / g4 ≤ k := Int.ediv_le_self _ hk
 have t0 : Int.tdiv k g4 = k / g4 := Int.tdiv_eq_ediv_of_nonneg hk
 have t1 : Int.tdiv (k / g4) g4 = k / g4 / g4 := Int.tdiv_eq_ediv_of_nonneg e0
 have t2 : Int.tmod (k / g4) g4 = k / g4 % g4 := Int.tmod_eq_emod_of_nonneg e0
 have t3 : Int.tmod k g4 = k % g4 := Int.tmod_eq_emod_of_nonneg hk
 have n0 : g4 ≠ 0 := by omega
 unfold vc_flash_position
 rw [t0, t3]
 refine lt_i fun x1 h1 => ⟨⟨rfl, n0⟩, ?_⟩
 rw [wi (by omega)] at h1
 subst h1
 rw [t1]
 refine lt_i fun x2 h2 => ⟨⟨rfl, n0⟩, lt_i fun x3 h3 => ⟨⟨rfl, n0⟩, ?_⟩⟩
 rw [wi (by omega)] at h2 h3
 subst h2 h3
 rw [t2]
 refine lt_i fun x4 h4 => ⟨⟨rfl, n0⟩, lt_i fun x5 h5 => ⟨⟨rfl, n0⟩, ?_⟩⟩
 subst h4 h5
 refine lt_i fun x6 h6 => lt_i fun x7 h7 => lt_i fun x8 h8 => lt_i fun x9 h9 => lt_i fun x10 h10 => lt_i fun x11 h11 => ?_
 rw [wi (by omega)] at h6 h8 h10
 subst h6 h8 h10
 rw [wi (by omega)] at h7 h9 h11
 subst h7 h9 h11
 exact LeD.refl _
def con_flash_position : Con := fun args => match args with
 | [.t (.a [.v (.int .i64 g0), .v (.int .i64 g1), .v (.int .i64 g2), .v (.int .i64 g3), .v (.int .i64 g4)]), .t (.c (.v (.int .i64 k)))] => some (.t (.a [.v (.int .i64 ((posAt (⟨⟨g0, g1, g2⟩, g3, g4⟩ : Lat) k).x)), .v (.int .i64 ((posAt (⟨⟨g0, g1, g2⟩, g3, g4⟩ : Lat) k).y)), .v (.int .i64 ((posAt (⟨⟨g0, g1, g2⟩, g3, g4⟩ : Lat) k).z))]), some (latE (⟨⟨g0, g1, g2⟩, g3, g4⟩ : Lat) = 0 ∧ 0 ≤ k ∧ k < ((⟨⟨g0, g1, g2⟩, g3, g4⟩ : Lat)).sz), false)
 | _ => none
theorem ok_flash_position : Ok Tryz.prog 147 con_flash_position := by
 refine Ok.fn (ann := ann_flash_position) mixed tabOK VS20 ValidIt.no (fn := Tryz.f147) (by kernel_rfl) (by kernel_rfl) fit_flash_position fun args r pre fresh h hp => ?_
 unfold con_flash_position at h
 split at h
 ·rename_i g0 g1 g2 g3 g4 k
  cases h
  refine ⟨rfl, fun _ _ _ => False, _, LeA.refl _, Nat.le_of_ble_eq_true (by kernel_rfl), ?_, ?_⟩
  ·rw [ev_flash_position]; exact spec_flash_position g0 g1 g2 g3 g4 k hp
  ·rw [lp_flash_position]; trivial
 ·cases h
def S21 : Sum := addS S20 147 con_flash_position
theorem VS21 : Valid Tryz.prog S21 := Valid.add VS20 ok_flash_position
def mk_flash_starts_0 (l : List FHit) (p0 p1 p2 : Int) (v0_0 : List (List CV)) (v0_1 : Int) : DS := ⟨[none, none, none, some (.t (.c (.p 3 0))), none, some (.t (.c (.os 5))), none, none, none, some (.t (.c (.sl 7 l.length (hitsC l)))), some (.t (.c (.v (.int .i64 ((l.length : Nat) : Int))))), some (.t (.c (.v (.int .i64 v0_1)))), none, none, none, none, none, none, none, none, none, none, none, none, none, none, none, none, none, none, none, none, none, none, none], [none, none, none, some (.box 75 [.v (.int .i64 p0), .v (.int .i64 p1), .v (.int .i64 p2)]), none, some (.gen 94 2 v0_0), none, none, none, none, none, none, none, none, none, none, none, none, none, none, none, none, none, none, none, none, none, none, none, none, none, none, none, none, none]⟩
def vc_flash_starts (J : Inv) (l : List FHit) (p0 p1 p2 : Int) (post : DV → Prop) : Prop := ∃ n, J 0 (n :: []) (mk_flash_starts_0 l p0 p1 p2 ([]) 0)
def ann_flash_starts : Ann := ⟨fun _ => none, fun b => lookA b [(0, (none, some ⟨[3, 9, 10, 11], [3], [(5, .gen 94 2 [])]⟩))], fun _ => [], noIt, true, fun _ => none, fun _ => none⟩
theorem ev_flash_starts (J : Inv) (l : List FHit) (p0 p1 p2 : Int) (post : DV → Prop) : evFn Tryz.prog tab S21 ann_flash_starts J Tryz.f103 [.t (.c (.sl 7 l.length (hitsC l))), .t (.a [.v (.int .i64 p0), .v (.int .i64 p1), .v (.int .i64 p2)])] post = vc_flash_starts J l p0 p1 p2 post := by kernel_rfl
theorem fit_flash_starts : okFn ann_flash_starts Tryz.f103 = true := by kernel_rfl
def rd_flash_starts_0 (J : Inv) (l : List FHit) (p0 p1 p2 : Int) (v0_0 : List (List CV)) (v0_1 : Int) (nn0 : Nat) (post : DV → Prop) : Prop := cond (decide (v0_1 < ((l.length : Nat) : Int))) ((0 ≤ v0_1 ∧ v0_1 < ((l.length : Nat) : Int)) ∧ ((((⟨p0, p1, p2⟩ : P3)).bd 15000 ∧ ((hitAt l v0_1.toNat).p).bd 15000) ∧ (lt (IntKind.i64.wrap (((hitAt l v0_1.toNat).t.lo) - (dly (⟨p0, p1, p2⟩ : P3) (hitAt l v0_1.toNat).p))) fun x1 => lt (IntKind.i64.wrap (((hitAt l v0_1.toNat).t.hi) - (dly (⟨p0, p1, p2⟩ : P3) (hitAt l v0_1.toNat).p))) fun x2 => (roomP 16 (v0_0.length + ([[.v (.int .i64 x1), .v (.int .i64 x2)]] : List (List CV)).length)) ∧ (lt (IntKind.i64.wrap (v0_1 + (1 : Int))) fun x3 => J 0 (nn0 :: []) (mk_flash_starts_0 l p0 p1 p2 (v0_0 ++ ([[.v (.int .i64 x1), .v (.int .i64 x2)]] : List (List CV))) x3))))) (post (.t (.c (.sl 2 v0_0.length (genC v0_0)))))
theorem er_flash_starts_0 (J : Inv) (l : List FHit) (p0 p1 p2 : Int) (v0_0 : List (List CV)) (v0_1 : Int) (nn0 : Nat) (post : DV → Prop) : round Tryz.prog tab S21 ann_flash_starts J Tryz.f103 post 0 (nn0 :: []) (mk_flash_starts_0 l p0 p1 p2 v0_0 v0_1) = rd_flash_starts_0 J l p0 p1 p2 v0_0 v0_1 nn0 post := by kernel_rfl
theorem lp_flash_starts (J : Inv) (post : DV → Prop) : AllG J (loopsFn Tryz.prog tab S21 ann_flash_starts J Tryz.f103 post) = (((∀ F s, ¬ J 0 (0 :: F) s) ∧ ∀ n F s, J 0 ((n + 1) :: F) s → round Tryz.prog tab S21 ann_flash_starts J Tryz.f103 post 0 (n :: F) s) ∧ True) := by kernel_rfl
def J_flash_starts (l : List FHit) (p0 p1 p2 : Int) : Inv := fun b F s => match b, F with
 | 0, [nn0] => ∃ (v0_0 : List (List CV)) (v0_1 : Int), s = mk_flash_starts_0 l p0 p1 p2 v0_0 v0_1 ∧ ((hitsE l = 0 ∧ (⟨p0, p1, p2⟩ : P3).bd 15000) ∧ 0 ≤ v0_1 ∧ v0_1 ≤ l.length ∧ (nn0 : Int) + v0_1 = l.length + 1 ∧ v0_0 = ((l.take v0_1.toNat).map (stR (⟨p0, p1, p2⟩ : P3))).map rgCv)
 | _, _ => False
theorem rnd_flash_starts_0 (l : List FHit) (p0 p1 p2 : Int) (v0_0 : List (List CV)) (v0_1 : Int) (nn0 : Nat) (hp : hitsE l = 0 ∧ ((⟨p0, p1, p2⟩ : P3)).bd 15000) (hi : (hitsE l = 0 ∧ (⟨p0, p1, p2⟩ : P3).bd 15000) ∧ 0 ≤ v0_1 ∧ v0_1 ≤ l.length ∧ ((nn0 + 1) : Int) + v0_1 = l.length + 1 ∧ v0_0 = ((l.take v0_1.toNat).map (stR (⟨p0, p1, p2⟩ : P3))).map rgCv) : rd_flash_starts_0 (J_flash_starts l p0 p1 p2) l p0 p1 p2 v0_0 v0_1 nn0 (fun r => LeD r (.t (.c (.sl 2 ((sts l (⟨p0, p1, p2⟩ : P3)).length) (rgsC (sts l (⟨p0, p1, p2⟩ : P3))))))) := by
 obtain ⟨⟨q1, q2⟩, i1, i2, i3, i4⟩ := hi
 obtain ⟨k, rfl⟩ : ∃ k : Nat, v0_1 = k := ⟨v0_1.toNat, by omega⟩
 have hk : (k : Int).toNat = k := rfl
 rw [hk] at i4
 obtain ⟨⟨z1, z2⟩, z3⟩ := hitsE_ok q1
 unfold rd_flash_starts_0
 rw [hk]
 refine cond_i (fun h => ?_) (fun h => ?_)
 ·have hlt : k < l.length := by have := of_decide_eq_true h; omega
  obtain ⟨b1, b2, b3⟩ := hit_ok (z3 k hlt)
  have b4 := b1.mono (B := 15000) (by decide)
  have dd := dly_rg q2 b4
  refine ⟨by omega, ⟨q2, b4⟩, lt_i fun x1 h1 => lt_i fun x2 h2 => ⟨?_, lt_i fun x hx => ?_⟩⟩
  ·rw [i4]; unfold roomP maxLen; simp; omega
  ·rw [wi (by omega)] at h1 h2 hx
   subst h1 h2 hx
   refine ⟨_, _, rfl, ⟨q1, q2⟩, by omega, by omega, by omega, ?_⟩
   rw [show ((k : Int) + 1).toNat = k + 1 by omega, i4, hitAt_take hlt, List.map_append, List.map_append]; rfl
 ·have hge : k = l.length := by have := of_decide_eq_false h; omega
  rw [i4, hge, List.take_length]
  exact le_rgs _
theorem zero_flash_starts_0 (l : List FHit) (p0 p1 p2 : Int) (v0_0 : List (List CV)) (v0_1 : Int)  (hi : (hitsE l = 0 ∧ (⟨p0, p1, p2⟩ : P3).bd 15000) ∧ 0 ≤ v0_1 ∧ v0_1 ≤ l.length ∧ (0 : Int) + v0_1 = l.length + 1 ∧ v0_0 = ((l.take v0_1.toNat).map (stR (⟨p0, p1, p2⟩ : P3))).map rgCv) : False := by
 omega
theorem spec_flash_starts (l : List FHit) (p0 p1 p2 : Int) (hp : hitsE l = 0 ∧ ((⟨p0, p1, p2⟩ : P3)).bd 15000) : vc_flash_starts (J_flash_starts l p0 p1 p2) l p0 p1 p2 (fun r => LeD r (.t (.c (.sl 2 ((sts l (⟨p0, p1, p2⟩ : P3)).length) (rgsC (sts l (⟨p0, p1, p2⟩ : P3))))))) := by
 unfold vc_flash_starts
 exact ⟨l.length + 1, [], 0, rfl, hp, by omega, by omega, by omega, rfl⟩
theorem all_flash_starts (l : List FHit) (p0 p1 p2 : Int) (hp : hitsE l = 0 ∧ ((⟨p0, p1, p2⟩ : P3)).bd 15000) : AllG (J_flash_starts l p0 p1 p2) (loopsFn Tryz.prog tab S21 ann_flash_starts (J_flash_starts l p0 p1 p2) Tryz.f103 (fun r => LeD r (.t (.c (.sl 2 ((sts l (⟨p0, p1, p2⟩ : P3)).length) (rgsC (sts l (⟨p0, p1, p2⟩ : P3)))))))) := by
 rw [lp_flash_starts]
 refine ⟨⟨?_, ?_⟩, trivial⟩
 ·intro F s h
  obtain _ | ⟨g, F⟩ := F
  case cons => exact h.elim
  obtain ⟨w0, w1, rfl, hi⟩ := h
  exact zero_flash_starts_0 l p0 p1 p2 w0 w1 hi
 ·intro n F s h
  obtain _ | ⟨g, F⟩ := F
  case cons => exact h.elim
  obtain ⟨w0, w1, rfl, hi⟩ := h
  rw [er_flash_starts_0]
  exact rnd_flash_starts_0 l p0 p1 p2 _ _ _ hp hi
def con_flash_starts : Con := fun args => match args with
 | [.t (.c (.sl 7 n_l c_l)), .t (.a [.v (.int .i64 p0), .v (.int .i64 p1), .v (.int .i64 p2)])] => some (.t (.c (.sl 2 ((sts (listC n_l mkHit c_l) (⟨p0, p1, p2⟩ : P3)).length) (rgsC (sts (listC n_l mkHit c_l) (⟨p0, p1, p2⟩ : P3))))), some (numsP 7 n_l c_l ∧ hitsE (listC n_l mkHit c_l) = 0 ∧ ((⟨p0, p1, p2⟩ : P3)).bd 15000), true)
 | _ => none
theorem ok_flash_starts : Ok Tryz.prog 103 con_flash_starts := by
 refine Ok.fnFr (ann := ann_flash_starts) mixed tabOK VS21 ValidIt.no rfl (fn := Tryz.f103) (by kernel_rfl) (by kernel_rfl) fit_flash_starts fun args r pre fresh h hp => ?_
 unfold con_flash_starts at h
 split at h
 ·rename_i n_l c_l p0 p1 p2
  cases h
  obtain ⟨hp0, hp⟩ := hp
  refine ⟨rfl, (fun i j _ hj => plain_Rg _ i j), J_flash_starts (listC n_l mkHit c_l) p0 p1 p2, [.t (.c (.sl 7 ((listC n_l mkHit c_l).length) (hitsC (listC n_l mkHit c_l)))), .t (.a [.v (.int .i64 p0), .v (.int .i64 p1), .v (.int .i64 p2)])], ?_, Nat.le_of_ble_eq_true (by kernel_rfl), ?_, ?_⟩
  ·exact (LeA_cons (leT_c ((leL_FHit hp0))) (LeA_cons (LeD.refl _) LeA_nil))
  ·rw [ev_flash_starts]; exact spec_flash_starts (listC n_l mkHit c_l) p0 p1 p2 hp
  ·exact all_flash_starts (listC n_l mkHit c_l) p0 p1 p2 hp
 ·cases h
def S22 : Sum := addS S21 103 con_flash_starts
theorem VS22 : Valid Tryz.prog S22 := Valid.add VS21 ok_flash_starts
def mk_flash_common_0 (l : List Rg) (v0_0 : Int) (v0_1 : Int) (v0_2 : Int) : DS := ⟨[none, none, some (.t (.c (.p 2 0))), some (.t (.c (.p 3 0))), none, none, none, none, none, none, some (.t (.c (.sl 2 ((((l.length : Nat) : Int) - (1 : Int)).toNat) (fun i j => (rgsC l) (((1 : Int)).toNat + i) j)))), some (.t (.c (.v (.int .i64 (((((l.length : Nat) : Int) - (1 : Int)).toNat : Nat) : Int))))), some (.t (.c (.v (.int .i64 v0_2)))), none, none, none, none, none, none, none, none, none, none, none, none, none, none, none, none], [none, none, some (.box 94 [.v (.int .i64 0), .v (.int .i64 0)]), some (.box 94 [.v (.int .i64 v0_0), .v (.int .i64 v0_1)]), none, none, none, none, none, none, none, none, none, none, none, none, none, none, none, none, none, none, none, none, none, none, none, none, none]⟩
def vc_flash_common (J : Inv) (l : List Rg) (post : DV → Prop) : Prop := (0 ≤ (0 : Int) ∧ (0 : Int) < ((l.length : Nat) : Int)) ∧ ((0 ≤ (1 : Int) ∧ (1 : Int) ≤ ((l.length : Nat) : Int) ∧ ((l.length : Nat) : Int) ≤ ((l.length : Nat) : Int)) ∧ (∃ n, J 0 (n :: []) (mk_flash_common_0 l ((rgAt l 0).lo) ((rgAt l 0).hi) 0)))
def ann_flash_common : Ann := ⟨fun _ => none, fun b => lookA b [(0, (none, some ⟨[2, 3, 10, 11, 12], [2, 3], []⟩))], fun _ => [], noIt, false, fun _ => none, fun _ => none⟩
theorem ev_flash_common (J : Inv) (l : List Rg) (post : DV → Prop) : evFn Tryz.prog tab S22 ann_flash_common J Tryz.f102 [.t (.c (.sl 2 l.length (rgsC l)))] post = vc_flash_common J l post := by kernel_rfl
theorem fit_flash_common : okFn ann_flash_common Tryz.f102 = true := by kernel_rfl
def rd_flash_common_0 (J : Inv) (l : List Rg) (v0_0 : Int) (v0_1 : Int) (v0_2 : Int) (nn0 : Nat) (post : DV → Prop) : Prop := cond (decide (v0_2 < (((((l.length : Nat) : Int) - (1 : Int)).toNat : Nat) : Int))) ((0 ≤ v0_2 ∧ v0_2 < (((((l.length : Nat) : Int) - (1 : Int)).toNat : Nat) : Int)) ∧ (lt ((if ((rgAt l (((1 : Int)).toNat + v0_2.toNat)).lo) > v0_0 then ((rgAt l (((1 : Int)).toNat + v0_2.toNat)).lo) else v0_0)) fun x1 => lt ((if ((rgAt l (((1 : Int)).toNat + v0_2.toNat)).hi) < v0_1 then ((rgAt l (((1 : Int)).toNat + v0_2.toNat)).hi) else v0_1)) fun x2 => lt (IntKind.i64.wrap (v0_2 + (1 : Int))) fun x3 => J 0 (nn0 :: []) (mk_flash_common_0 l x1 x2 x3))) (post (.t (.a [.v (.int .i64 v0_0), .v (.int .i64 v0_1)])))
theorem er_flash_common_0 (J : Inv) (l : List Rg) (v0_0 : Int) (v0_1 : Int) (v0_2 : Int) (nn0 : Nat) (post : DV → Prop) : round Tryz.prog tab S22 ann_flash_common J Tryz.f102 post 0 (nn0 :: []) (mk_flash_common_0 l v0_0 v0_1 v0_2) = rd_flash_common_0 J l v0_0 v0_1 v0_2 nn0 post := by kernel_rfl
theorem lp_flash_common (J : Inv) (post : DV → Prop) : AllG J (loopsFn Tryz.prog tab S22 ann_flash_common J Tryz.f102 post) = (((∀ F s, ¬ J 0 (0 :: F) s) ∧ ∀ n F s, J 0 ((n + 1) :: F) s → round Tryz.prog tab S22 ann_flash_common J Tryz.f102 post 0 (n :: F) s) ∧ True) := by kernel_rfl
def J_flash_common (l : List Rg) : Inv := fun b F s => match b, F with
 | 0, [nn0] => ∃ (v0_0 : Int) (v0_1 : Int) (v0_2 : Int), s = mk_flash_common_0 l v0_0 v0_1 v0_2 ∧ ((0 < l.length ∧ l.length ≤ 1000000) ∧ 0 ≤ v0_2 ∧ v0_2 < l.length ∧ (nn0 : Int) + v0_2 = l.length ∧ (⟨v0_0, v0_1⟩ : Rg) = ((l.drop 1).take v0_2.toNat).foldl meetR (rgAt l 0))
 | _, _ => False
theorem rnd_flash_common_0 (l : List Rg) (v0_0 : Int) (v0_1 : Int) (v0_2 : Int) (nn0 : Nat) (hp : 0 < (l).length ∧ (l).length ≤ 1000000) (hi : (0 < l.length ∧ l.length ≤ 1000000) ∧ 0 ≤ v0_2 ∧ v0_2 < l.length ∧ ((nn0 + 1) : Int) + v0_2 = l.length ∧ (⟨v0_0, v0_1⟩ : Rg) = ((l.drop 1).take v0_2.toNat).foldl meetR (rgAt l 0)) : rd_flash_common_0 (J_flash_common l) l v0_0 v0_1 v0_2 nn0 (fun r => LeD r (.t (.a [.v (.int .i64 ((comm l).lo)), .v (.int .i64 ((comm l).hi))]))) := by
 obtain ⟨⟨q1, q2⟩, i1, i2, i3, i4⟩ := hi
 obtain ⟨k, rfl⟩ : ∃ k : Nat, v0_2 = k := ⟨v0_2.toNat, by omega⟩
 have hk : (k : Int).toNat = k := rfl
 rw [hk] at i4
 unfold rd_flash_common_0
 rw [hk, show ((1 : Int)).toNat = 1 from rfl]
 refine cond_i (fun h => ?_) (fun h => ?_)
 ·have h := of_decide_eq_true h
  refine ⟨by omega, lt_i fun x1 h1 => lt_i fun x2 h2 => lt_i fun x hx => ?_⟩
  rw [mx_if] at h1
  rw [mn_if] at h2
  rw [wi (by omega)] at hx
  subst h1 h2 hx
  refine ⟨_, _, _, rfl, ⟨q1, q2⟩, by omega, by omega, by omega, ?_⟩
  have hd : k < (l.drop 1).length := by rw [List.length_drop]; omega
  rw [show ((k : Int) + 1).toNat = k + 1 by omega, rgAt_take hd, List.foldl_append, ← i4]
  have e : rgAt (l.drop 1) k = rgAt l (1 + k) := by simp [rgAt, List.getD, Nat.add_comm]
  rw [e]; rfl
 ·have h := of_decide_eq_false h
  have e : (l.drop 1).take k = l.drop 1 := List.take_of_length_le (by rw [List.length_drop]; omega)
  rw [e] at i4
  have e2 : comm l = ⟨v0_0, v0_1⟩ := i4.symm
  rw [e2]
  exact LeD.refl _
theorem zero_flash_common_0 (l : List Rg) (v0_0 : Int) (v0_1 : Int) (v0_2 : Int)  (hi : (0 < l.length ∧ l.length ≤ 1000000) ∧ 0 ≤ v0_2 ∧ v0_2 < l.length ∧ (0 : Int) + v0_2 = l.length ∧ (⟨v0_0, v0_1⟩ : Rg) = ((l.drop 1).take v0_2.toNat).foldl meetR (rgAt l 0)) : False := by
 omega
theorem spec_flash_common (l : List Rg) (hp : 0 < (l).length ∧ (l).length ≤ 1000000) : vc_flash_common (J_flash_common l) l (fun r => LeD r (.t (.a [.v (.int .i64 ((comm l).lo)), .v (.int .i64 ((comm l).hi))]))) := by
 unfold vc_flash_common
 refine ⟨by omega, by omega, l.length, _, _, 0, rfl, hp, by omega, by omega, by omega, rfl⟩
theorem all_flash_common (l : List Rg) (hp : 0 < (l).length ∧ (l).length ≤ 1000000) : AllG (J_flash_common l) (loopsFn Tryz.prog tab S22 ann_flash_common (J_flash_common l) Tryz.f102 (fun r => LeD r (.t (.a [.v (.int .i64 ((comm l).lo)), .v (.int .i64 ((comm l).hi))])))) := by
 rw [lp_flash_common]
 refine ⟨⟨?_, ?_⟩, trivial⟩
 ·intro F s h
  obtain _ | ⟨g, F⟩ := F
  case cons => exact h.elim
  obtain ⟨w0, w1, w2, rfl, hi⟩ := h
  exact zero_flash_common_0 l w0 w1 w2 hi
 ·intro n F s h
  obtain _ | ⟨g, F⟩ := F
  case cons => exact h.elim
  obtain ⟨w0, w1, w2, rfl, hi⟩ := h
  rw [er_flash_common_0]
  exact rnd_flash_common_0 l _ _ _ _ hp hi
def con_flash_common : Con := fun args => match args with
 | [.t (.c (.sl 2 n_l c_l))] => some (.t (.a [.v (.int .i64 ((comm (listC n_l mkRg c_l)).lo)), .v (.int .i64 ((comm (listC n_l mkRg c_l)).hi))]), some (numsP 2 n_l c_l ∧ 0 < ((listC n_l mkRg c_l)).length ∧ ((listC n_l mkRg c_l)).length ≤ 1000000), false)
 | _ => none
theorem ok_flash_common : Ok Tryz.prog 102 con_flash_common := by
 refine Ok.fn (ann := ann_flash_common) mixed tabOK VS22 ValidIt.no (fn := Tryz.f102) (by kernel_rfl) (by kernel_rfl) fit_flash_common fun args r pre fresh h hp => ?_
 unfold con_flash_common at h
 split at h
 ·rename_i n_l c_l
  cases h
  obtain ⟨hp0, hp⟩ := hp
  refine ⟨rfl, J_flash_common (listC n_l mkRg c_l), [.t (.c (.sl 2 ((listC n_l mkRg c_l).length) (rgsC (listC n_l mkRg c_l))))], ?_, Nat.le_of_ble_eq_true (by kernel_rfl), ?_, ?_⟩
  ·exact (LeA_cons (leT_c ((leL_Rg hp0))) LeA_nil)
  ·rw [ev_flash_common]; exact spec_flash_common (listC n_l mkRg c_l) hp
  ·exact all_flash_common (listC n_l mkRg c_l) hp
 ·cases h
def S23 : Sum := addS S22 102 con_flash_common
theorem VS23 : Valid Tryz.prog S23 := Valid.add VS22 ok_flash_common
def vc_flash_TimesAt (l : List FHit) (p0 p1 p2 : Int) (post : DV → Prop) : Prop := (numsP 7 l.length (hitsC l)) ∧ ((numsP 1 2 (genC [[.v (.int .i64 (hitsE (listC l.length mkHit (hitsC l))))], [.v (.int .i64 (posE (⟨p0, p1, p2⟩ : P3)))]]) ∧ (([(hitsE (listC l.length mkHit (hitsC l))), (posE (⟨p0, p1, p2⟩ : P3))] : List Int)).length ≤ 100) ∧ (cond ((firstNZ ([(hitsE (listC l.length mkHit (hitsC l))), (posE (⟨p0, p1, p2⟩ : P3))] : List Int)) != (0 : Int)) (post (.tu [.a [.v (.int .i64 0), .v (.int .i64 0)], .c (.v (.int .i64 (firstNZ ([(hitsE (listC l.length mkHit (hitsC l))), (posE (⟨p0, p1, p2⟩ : P3))] : List Int))))])) ((numsP 7 l.length (hitsC l) ∧ hitsE (listC l.length mkHit (hitsC l)) = 0 ∧ ((⟨p0, p1, p2⟩ : P3)).bd 15000) ∧ ((numsP 2 ((sts (listC l.length mkHit (hitsC l)) (⟨p0, p1, p2⟩ : P3)).length) (rgsC (sts (listC l.length mkHit (hitsC l)) (⟨p0, p1, p2⟩ : P3))) ∧ 0 < ((listC ((sts (listC l.length mkHit (hitsC l)) (⟨p0, p1, p2⟩ : P3)).length) mkRg (rgsC (sts (listC l.length mkHit (hitsC l)) (⟨p0, p1, p2⟩ : P3))))).length ∧ ((listC ((sts (listC l.length mkHit (hitsC l)) (⟨p0, p1, p2⟩ : P3)).length) mkRg (rgsC (sts (listC l.length mkHit (hitsC l)) (⟨p0, p1, p2⟩ : P3))))).length ≤ 1000000) ∧ (cond (decide (((comm (listC ((sts (listC l.length mkHit (hitsC l)) (⟨p0, p1, p2⟩ : P3)).length) mkRg (rgsC (sts (listC l.length mkHit (hitsC l)) (⟨p0, p1, p2⟩ : P3))))).lo) > ((comm (listC ((sts (listC l.length mkHit (hitsC l)) (⟨p0, p1, p2⟩ : P3)).length) mkRg (rgsC (sts (listC l.length mkHit (hitsC l)) (⟨p0, p1, p2⟩ : P3))))).hi))) (post (.tu [.a [.v (.int .i64 0), .v (.int .i64 0)], .c (.v (.int .i64 12))])) (post (.tu [.a [.v (.int .i64 ((comm (listC ((sts (listC l.length mkHit (hitsC l)) (⟨p0, p1, p2⟩ : P3)).length) mkRg (rgsC (sts (listC l.length mkHit (hitsC l)) (⟨p0, p1, p2⟩ : P3))))).lo)), .v (.int .i64 ((comm (listC ((sts (listC l.length mkHit (hitsC l)) (⟨p0, p1, p2⟩ : P3)).length) mkRg (rgsC (sts (listC l.length mkHit (hitsC l)) (⟨p0, p1, p2⟩ : P3))))).hi))], .c (.v (.int .i64 0))])))))))
def ann_flash_TimesAt : Ann := ⟨fun r => lookA r [(1, ([[], [0], [], [0, 1, 2], [0, 1, 2, 3], [0, 1, 2, 3, 4], [0, 1, 2, 3, 4, 5]], [[9, 11, 12, 13], [11, 12, 13], [9, 11, 12, 13], [12, 13], [13], [], []]))], fun _ => none, fun _ => [], noIt, false, fun _ => none, fun _ => none⟩
theorem ev_flash_TimesAt (J : Inv) (l : List FHit) (p0 p1 p2 : Int) (post : DV → Prop) : evFn Tryz.prog tab S23 ann_flash_TimesAt J Tryz.f53 [.t (.c (.sl 7 l.length (hitsC l))), .t (.a [.v (.int .i64 p0), .v (.int .i64 p1), .v (.int .i64 p2)])] post = vc_flash_TimesAt l p0 p1 p2 post := by kernel_rfl
theorem fit_flash_TimesAt : okFn ann_flash_TimesAt Tryz.f53 = true := by kernel_rfl
theorem lp_flash_TimesAt (J : Inv) (post : DV → Prop) : AllG J (loopsFn Tryz.prog tab S23 ann_flash_TimesAt J Tryz.f53 post) = (True) := by kernel_rfl
theorem spec_flash_TimesAt (l : List FHit) (p0 p1 p2 : Int) : vc_flash_TimesAt l p0 p1 p2 (fun r => LeD r (.tu [.a [.v (.int .i64 ((tmsV l (⟨p0, p1, p2⟩ : P3)).lo)), .v (.int .i64 ((tmsV l (⟨p0, p1, p2⟩ : P3)).hi))], .c (.v (.int .i64 (tmsE l (⟨p0, p1, p2⟩ : P3))))])) := by
 unfold vc_flash_TimesAt
 simp only [hits_listC, rgs_listC]
 refine ⟨numsP_hits l, ⟨numsP_gen [_, _], Nat.le_of_ble_eq_true rfl⟩, cond_i (fun h => ?_) (fun h => ⟨⟨numsP_hits l, ?_⟩, ⟨numsP_rgs _, ?_⟩, cond_i (fun q => ?_) (fun q => ?_)⟩)⟩
 ·have h : firstNZ [hitsE l, posE (⟨p0, p1, p2⟩ : P3)] ≠ 0 := by simpa using h
  have e : tmsE l (⟨p0, p1, p2⟩ : P3) = firstNZ [hitsE l, posE (⟨p0, p1, p2⟩ : P3)] := if_neg h
  rw [show tmsV l (⟨p0, p1, p2⟩ : P3) = ⟨0, 0⟩ from if_neg (by rw [e]; exact h), e]
  exact LeD.refl _
 ·have h := fn2 (by simpa using h)
  exact ⟨h.1, (posE_0.1 h.2).mono (by decide)⟩
 ·have h := fn2 (by simpa using h)
  have := (hitsE_ok h.1).1
  simp only [sts, List.length_map]
  omega
 all_goals
  have h : firstNZ [hitsE l, posE (⟨p0, p1, p2⟩ : P3)] = 0 := by simpa using h
  have e : tmsE l (⟨p0, p1, p2⟩ : P3) = unl (decide ((tms l (⟨p0, p1, p2⟩ : P3)).lo ≤ (tms l (⟨p0, p1, p2⟩ : P3)).hi)) 12 := if_pos h
 ·have q := of_decide_eq_true q
  have q2 : ¬ (tms l (⟨p0, p1, p2⟩ : P3)).lo ≤ (tms l (⟨p0, p1, p2⟩ : P3)).hi := by unfold tms; omega
  rw [decide_eq_false q2] at e
  rw [show tmsV l (⟨p0, p1, p2⟩ : P3) = ⟨0, 0⟩ from if_neg (by rw [e]; decide), e]
  exact LeD.refl _
 ·have q := of_decide_eq_false q
  have q2 : (tms l (⟨p0, p1, p2⟩ : P3)).lo ≤ (tms l (⟨p0, p1, p2⟩ : P3)).hi := by unfold tms; omega
  rw [decide_eq_true q2] at e
  rw [show tmsV l (⟨p0, p1, p2⟩ : P3) = tms l (⟨p0, p1, p2⟩ : P3) from if_pos e, e]
  exact LeD.refl _
def con_flash_TimesAt : Con := fun args => match args with
 | [.t (.c (.sl 7 n_l c_l)), .t (.a [.v (.int .i64 p0), .v (.int .i64 p1), .v (.int .i64 p2)])] => some (.tu [.a [.v (.int .i64 ((tmsV (listC n_l mkHit c_l) (⟨p0, p1, p2⟩ : P3)).lo)), .v (.int .i64 ((tmsV (listC n_l mkHit c_l) (⟨p0, p1, p2⟩ : P3)).hi))], .c (.v (.int .i64 (tmsE (listC n_l mkHit c_l) (⟨p0, p1, p2⟩ : P3))))], some (numsP 7 n_l c_l), false)
 | _ => none
theorem ok_flash_TimesAt : Ok Tryz.prog 53 con_flash_TimesAt := by
 refine Ok.fn (ann := ann_flash_TimesAt) mixed tabOK VS23 ValidIt.no (fn := Tryz.f53) (by kernel_rfl) (by kernel_rfl) fit_flash_TimesAt fun args r pre fresh h hp => ?_
 unfold con_flash_TimesAt at h
 split at h
 ·rename_i n_l c_l p0 p1 p2
  cases h
  have hp0 := hp
  refine ⟨rfl, fun _ _ _ => False, [.t (.c (.sl 7 ((listC n_l mkHit c_l).length) (hitsC (listC n_l mkHit c_l)))), .t (.a [.v (.int .i64 p0), .v (.int .i64 p1), .v (.int .i64 p2)])], ?_, Nat.le_of_ble_eq_true (by kernel_rfl), ?_, ?_⟩
  ·exact (LeA_cons (leT_c ((leL_FHit hp0))) (LeA_cons (LeD.refl _) LeA_nil))
  ·rw [ev_flash_TimesAt]; exact spec_flash_TimesAt (listC n_l mkHit c_l) p0 p1 p2
  ·rw [lp_flash_TimesAt]; trivial
 ·cases h
def S24 : Sum := addS S23 53 con_flash_TimesAt
theorem VS24 : Valid Tryz.prog S24 := Valid.add VS23 ok_flash_TimesAt
end Go.Proofs.YtdkpgodakmailaaGreatDoor