/- Texts of this claim, together. -/
import Derived.Test.YtdkpgodakmailaaGreatDoorHC9
import Derived.RangeFuncLeaves
import Derived.OwnWalkIn
import Derived.TacticsInMore
import Derived.LoopNIn
import Derived.LoopIn

set_option linter.unusedVariables false
set_option linter.unusedSimpArgs false
namespace Go.Proofs.YtdkpgodakmailaaGreatDoor
open Go.RowKit Ev
def vc_flash_CheckTable_1 (i : Int) (a0 a1 : Int) (c0 c1 : Int) (post : DV → Prop) : Prop := cond (inB c0 (0 : Int) (100000 : Int)) (cond (i == (0 : Int)) ((true = true) ∧ ((numsP 1 2 (genC [[.v (.int .i64 (unl (inB c1 (0 : Int) (10000 : Int)) (2 : Int)))], [.v (.int .i64 (unl true (9 : Int)))]]) ∧ (([(unl (inB c1 (0 : Int) (10000 : Int)) (2 : Int)), (unl true (9 : Int))] : List Int)).length ≤ 100) ∧ (post (.t (.c (.v (.int .i64 (firstNZ ([(unl (inB c1 (0 : Int) (10000 : Int)) (2 : Int)), (unl true (9 : Int))] : List Int))))))))) (cond (decide (c0 > a0)) ((numsP 1 2 (genC [[.v (.int .i64 (unl (inB c1 (0 : Int) (10000 : Int)) (2 : Int)))], [.v (.int .i64 (unl (decide (c1 ≤ a1)) (9 : Int)))]]) ∧ (([(unl (inB c1 (0 : Int) (10000 : Int)) (2 : Int)), (unl (decide (c1 ≤ a1)) (9 : Int))] : List Int)).length ≤ 100) ∧ (post (.t (.c (.v (.int .i64 (firstNZ ([(unl (inB c1 (0 : Int) (10000 : Int)) (2 : Int)), (unl (decide (c1 ≤ a1)) (9 : Int))] : List Int)))))))) ((false = false) ∧ ((numsP 1 2 (genC [[.v (.int .i64 (unl (inB c1 (0 : Int) (10000 : Int)) (2 : Int)))], [.v (.int .i64 (unl false (9 : Int)))]]) ∧ (([(unl (inB c1 (0 : Int) (10000 : Int)) (2 : Int)), (unl false (9 : Int))] : List Int)).length ≤ 100) ∧ (post (.t (.c (.v (.int .i64 (firstNZ ([(unl (inB c1 (0 : Int) (10000 : Int)) (2 : Int)), (unl false (9 : Int))] : List Int))))))))))) ((false = false) ∧ (cond (i == (0 : Int)) ((true = true) ∧ ((numsP 1 2 (genC [[.v (.int .i64 (unl false (2 : Int)))], [.v (.int .i64 (unl true (9 : Int)))]]) ∧ (([(unl false (2 : Int)), (unl true (9 : Int))] : List Int)).length ≤ 100) ∧ (post (.t (.c (.v (.int .i64 (firstNZ ([(unl false (2 : Int)), (unl true (9 : Int))] : List Int))))))))) (cond (decide (c0 > a0)) ((numsP 1 2 (genC [[.v (.int .i64 (unl false (2 : Int)))], [.v (.int .i64 (unl (decide (c1 ≤ a1)) (9 : Int)))]]) ∧ (([(unl false (2 : Int)), (unl (decide (c1 ≤ a1)) (9 : Int))] : List Int)).length ≤ 100) ∧ (post (.t (.c (.v (.int .i64 (firstNZ ([(unl false (2 : Int)), (unl (decide (c1 ≤ a1)) (9 : Int))] : List Int)))))))) ((false = false) ∧ ((numsP 1 2 (genC [[.v (.int .i64 (unl false (2 : Int)))], [.v (.int .i64 (unl false (9 : Int)))]]) ∧ (([(unl false (2 : Int)), (unl false (9 : Int))] : List Int)).length ≤ 100) ∧ (post (.t (.c (.v (.int .i64 (firstNZ ([(unl false (2 : Int)), (unl false (9 : Int))] : List Int))))))))))))
def ann_flash_CheckTable_1 : Ann := ⟨fun _ => none, fun _ => none, fun _ => [], noIt, false, fun _ => none, fun _ => none⟩
theorem ev_flash_CheckTable_1 (J : Inv) (i : Int) (a0 a1 : Int) (c0 c1 : Int) (post : DV → Prop) : evFn Tryz.prog tab S95 ann_flash_CheckTable_1 J Tryz.f143 [.t (.c (.v (.int .i64 i))), .t (.a [.v (.int .i64 a0), .v (.int .i64 a1)]), .t (.a [.v (.int .i64 c0), .v (.int .i64 c1)])] post = vc_flash_CheckTable_1 i a0 a1 c0 c1 post := by kernel_rfl
theorem fit_flash_CheckTable_1 : okFn ann_flash_CheckTable_1 Tryz.f143 = true := by kernel_rfl
theorem lp_flash_CheckTable_1 (J : Inv) (post : DV → Prop) : AllG J (loopsFn Tryz.prog tab S95 ann_flash_CheckTable_1 J Tryz.f143 post) = (True) := by kernel_rfl
theorem spec_flash_CheckTable_1 (i : Int) (a0 a1 : Int) (c0 c1 : Int) : vc_flash_CheckTable_1 i a0 a1 c0 c1 (fun r => LeD r (.t (.c (.v (.int .i64 (knE i (⟨a0, a1⟩ : Knot) (⟨c0, c1⟩ : Knot))))))) := by
 unfold vc_flash_CheckTable_1 knE
 refine cond_i (fun h => cond_i (fun q => ⟨rfl, ⟨numsP_gen [_, _], Nat.le_of_ble_eq_true rfl⟩, leI ?_⟩) (fun q => cond_i (fun r => ⟨⟨numsP_gen [_, _], Nat.le_of_ble_eq_true rfl⟩, leI ?_⟩) (fun r => ⟨rfl, ⟨numsP_gen [_, _], Nat.le_of_ble_eq_true rfl⟩, leI ?_⟩))) (fun h => ⟨rfl, cond_i (fun q => ⟨rfl, ⟨numsP_gen [_, _], Nat.le_of_ble_eq_true rfl⟩, leI ?_⟩) (fun q => cond_i (fun r => ⟨⟨numsP_gen [_, _], Nat.le_of_ble_eq_true rfl⟩, leI ?_⟩) (fun r => ⟨rfl, ⟨numsP_gen [_, _], Nat.le_of_ble_eq_true rfl⟩, leI ?_⟩))⟩)
 all_goals simp_all
 all_goals (rw [decide_eq_false (show ¬ a0 < c0 by omega)]; rfl)
def con_flash_CheckTable_1 : Con := fun args => match args with
 | [.t (.c (.v (.int .i64 i))), .t (.a [.v (.int .i64 a0), .v (.int .i64 a1)]), .t (.a [.v (.int .i64 c0), .v (.int .i64 c1)])] => some (.t (.c (.v (.int .i64 (knE i (⟨a0, a1⟩ : Knot) (⟨c0, c1⟩ : Knot))))), none, false)
 | _ => none
theorem ok_flash_CheckTable_1 : Ok Tryz.prog 143 con_flash_CheckTable_1 := by
 refine Ok.fn (ann := ann_flash_CheckTable_1) mixed tabOK VS95 ValidIt.no (fn := Tryz.f143) (by kernel_rfl) (by kernel_rfl) fit_flash_CheckTable_1 fun args r pre fresh h hp => ?_
 unfold con_flash_CheckTable_1 at h
 split at h
 ·rename_i i a0 a1 c0 c1
  cases h
  refine ⟨rfl, fun _ _ _ => False, _, LeA.refl _, Nat.le_of_ble_eq_true (by kernel_rfl), ?_, ?_⟩
  ·rw [ev_flash_CheckTable_1]; exact spec_flash_CheckTable_1 i a0 a1 c0 c1
  ·rw [lp_flash_CheckTable_1]; trivial
 ·cases h
noncomputable def St96 : Sum := addS S95 143 con_flash_CheckTable_1
theorem VSt96 : Valid Tryz.prog St96 := Valid.add VS95 ok_flash_CheckTable_1
def mk_cherenkov_flash_each_cherenkov_api_FlashKnot_0 (t : List Knot) (v0_0 : Int) : DS := ⟨[some (.t (.c (.sl 2 t.length (knsC t)))), some (.t (.fn 143 [])), none, none, none, none, none, none, none, some (.t (.c (.sl 2 t.length (knsC t)))), some (.t (.c (.v (.int .i64 ((t.length : Nat) : Int))))), some (.t (.c (.v (.int .i64 v0_0)))), none, none, none, none, none, none, none, none, none, none, none, none, none, none, none, none, none, none, none], [none, none, none, none, none, none, none, none, none, none, none, none, none, none, none, none, none, none, none, none, none, none, none, none, none, none, none, none, none, none, none]⟩
def vc_cherenkov_flash_each_cherenkov_api_FlashKnot (J : Inv) (t : List Knot) (post : DV → Prop) : Prop := ∃ n, J 0 (n :: []) (mk_cherenkov_flash_each_cherenkov_api_FlashKnot_0 t 0)
def ann_cherenkov_flash_each_cherenkov_api_FlashKnot : Ann := ⟨fun r => lookA r [(4, ([[], [], [], [], [3], [3, 4], [2, 3, 4, 5], [2, 3, 4, 5, 6], [], [0, 1, 2, 3, 4, 5, 6, 7, 8], [0, 1, 2, 3, 4, 5, 6, 7, 8, 9]], [[25], [25], [25], [25], [25], [25], [25], [25], [25], [], []]))], fun b => lookA b [(0, (none, some ⟨[0, 1, 9, 10, 11], [], []⟩))], fun _ => [], noIt, false, fun _ => none, fun _ => none⟩
theorem ev_cherenkov_flash_each_cherenkov_api_FlashKnot (J : Inv) (t : List Knot) (post : DV → Prop) : evFn Tryz.prog tab St96 ann_cherenkov_flash_each_cherenkov_api_FlashKnot J Tryz.f142 [.t (.c (.sl 2 t.length (knsC t))), .t (.fn 143 [])] post = vc_cherenkov_flash_each_cherenkov_api_FlashKnot J t post := by kernel_rfl
theorem fit_cherenkov_flash_each_cherenkov_api_FlashKnot : okFn ann_cherenkov_flash_each_cherenkov_api_FlashKnot Tryz.f142 = true := by kernel_rfl
def rd_cherenkov_flash_each_cherenkov_api_FlashKnot_0 (J : Inv) (t : List Knot) (v0_0 : Int) (nn0 : Nat) (post : DV → Prop) : Prop := cond (decide (v0_0 < ((t.length : Nat) : Int))) ((0 ≤ v0_0 ∧ v0_0 < ((t.length : Nat) : Int)) ∧ (lt (IntKind.i64.wrap (v0_0 - (1 : Int))) fun x1 => lt ((if x1 > (0 : Int) then x1 else (0 : Int))) fun x2 => (0 ≤ x2 ∧ x2 < ((t.length : Nat) : Int)) ∧ (cond ((knE v0_0 (⟨((knAt t x2.toNat).d), ((knAt t x2.toNat).y)⟩ : Knot) (⟨((knAt t v0_0.toNat).d), ((knAt t v0_0.toNat).y)⟩ : Knot)) != (0 : Int)) (post (.tu [.c (.v (.int .i64 v0_0)), .c (.v (.int .i64 (knE v0_0 (⟨((knAt t x2.toNat).d), ((knAt t x2.toNat).y)⟩ : Knot) (⟨((knAt t v0_0.toNat).d), ((knAt t v0_0.toNat).y)⟩ : Knot))))])) (lt (IntKind.i64.wrap (v0_0 + (1 : Int))) fun x3 => J 0 (nn0 :: []) (mk_cherenkov_flash_each_cherenkov_api_FlashKnot_0 t x3))))) (post (.tu [.c (.v (.int .i64 0)), .c (.v (.int .i64 0))]))
theorem er_cherenkov_flash_each_cherenkov_api_FlashKnot_0 (J : Inv) (t : List Knot) (v0_0 : Int) (nn0 : Nat) (post : DV → Prop) : round Tryz.prog tab St96 ann_cherenkov_flash_each_cherenkov_api_FlashKnot J Tryz.f142 post 0 (nn0 :: []) (mk_cherenkov_flash_each_cherenkov_api_FlashKnot_0 t v0_0) = rd_cherenkov_flash_each_cherenkov_api_FlashKnot_0 J t v0_0 nn0 post := by kernel_rfl
theorem lp_cherenkov_flash_each_cherenkov_api_FlashKnot (J : Inv) (post : DV → Prop) : AllG J (loopsFn Tryz.prog tab St96 ann_cherenkov_flash_each_cherenkov_api_FlashKnot J Tryz.f142 post) = (((∀ F s, ¬ J 0 (0 :: F) s) ∧ ∀ n F s, J 0 ((n + 1) :: F) s → round Tryz.prog tab St96 ann_cherenkov_flash_each_cherenkov_api_FlashKnot J Tryz.f142 post 0 (n :: F) s) ∧ True) := by kernel_rfl
def J_cherenkov_flash_each_cherenkov_api_FlashKnot (t : List Knot) : Inv := fun b F s => match b, F with
 | 0, [nn0] => ∃ (v0_0 : Int), s = mk_cherenkov_flash_each_cherenkov_api_FlashKnot_0 t v0_0 ∧ (t.length ≤ 1000000 ∧ 0 ≤ v0_0 ∧ v0_0 ≤ t.length ∧ (nn0 : Int) + v0_0 = t.length + 1 ∧ ∀ k : Nat, (k : Int) < v0_0 → knE (k : Int) (knAt t (k - 1)) (knAt t k) = 0)
 | _, _ => False
theorem rnd_cherenkov_flash_each_cherenkov_api_FlashKnot_0 (t : List Knot) (v0_0 : Int) (nn0 : Nat) (hp : (t).length ≤ 1000000) (hi : t.length ≤ 1000000 ∧ 0 ≤ v0_0 ∧ v0_0 ≤ t.length ∧ ((nn0 + 1) : Int) + v0_0 = t.length + 1 ∧ ∀ k : Nat, (k : Int) < v0_0 → knE (k : Int) (knAt t (k - 1)) (knAt t k) = 0) : rd_cherenkov_flash_each_cherenkov_api_FlashKnot_0 (J_cherenkov_flash_each_cherenkov_api_FlashKnot t) t v0_0 nn0 (fun r => LeD r (.tu [.c (.v (.int .i64 (scanI (ktE t) (t).length))), .c (.v (.int .i64 (scan (ktE t) (t).length)))])) := by
 obtain ⟨i0, i1, i2, i3, i4⟩ := hi
 obtain ⟨k, rfl⟩ : ∃ k : Nat, v0_0 = k := ⟨v0_0.toNat, by omega⟩
 have hk : (k : Int).toNat = k := rfl
 unfold rd_cherenkov_flash_each_cherenkov_api_FlashKnot_0
 rw [hk]
 refine cond_i (fun h => ?_) (fun h => ?_)
 ·have h := of_decide_eq_true h
  refine ⟨by omega, lt_i fun x1 h1 => lt_i fun x2 h2 => ?_⟩
  rw [wi (by omega)] at h1
  obtain ⟨m, hm⟩ : ∃ m : Nat, x2 = m := ⟨x2.toNat, by split at h2 <;> omega⟩
  have hm2 : m = k - 1 := by split at h2 <;> omega
  subst hm
  subst hm2
  clear h2
  refine ⟨by omega, cond_i (fun e => ?_) (fun e => lt_i fun x hx => ?_)⟩
  ·have e : knE (k : Int) (knAt t (k - 1)) (knAt t k) ≠ 0 := by simpa using e
   have hlt : k < t.length := by omega
   exact le2 (scanI_at (f := fun k => knE (k : Int) (knAt t (k - 1)) (knAt t k)) (fun j hj => i4 j (by omega)) hlt e).symm (scan_at (f := fun k => knE (k : Int) (knAt t (k - 1)) (knAt t k)) (fun j hj => i4 j (by omega)) hlt e).symm
  ·have e : knE (k : Int) (knAt t (k - 1)) (knAt t k) = 0 := by simpa using e
   rw [wi (by omega)] at hx
   subst hx
   refine ⟨_, rfl, i0, by omega, by omega, by omega, fun j hj => ?_⟩
   by_cases q : j = k
   ·rw [q]; exact e
   ·exact i4 j (by omega)
 ·have h := of_decide_eq_false h
  exact le2 (scanI_end (f := fun k => knE (k : Int) (knAt t (k - 1)) (knAt t k)) fun j hj => i4 j (by omega)).symm (scan_end (f := fun k => knE (k : Int) (knAt t (k - 1)) (knAt t k)) fun j hj => i4 j (by omega)).symm
theorem zero_cherenkov_flash_each_cherenkov_api_FlashKnot_0 (t : List Knot) (v0_0 : Int)  (hi : t.length ≤ 1000000 ∧ 0 ≤ v0_0 ∧ v0_0 ≤ t.length ∧ (0 : Int) + v0_0 = t.length + 1 ∧ ∀ k : Nat, (k : Int) < v0_0 → knE (k : Int) (knAt t (k - 1)) (knAt t k) = 0) : False := by
 omega
theorem spec_cherenkov_flash_each_cherenkov_api_FlashKnot (t : List Knot) (hp : (t).length ≤ 1000000) : vc_cherenkov_flash_each_cherenkov_api_FlashKnot (J_cherenkov_flash_each_cherenkov_api_FlashKnot t) t (fun r => LeD r (.tu [.c (.v (.int .i64 (scanI (ktE t) (t).length))), .c (.v (.int .i64 (scan (ktE t) (t).length)))])) := by
 unfold vc_cherenkov_flash_each_cherenkov_api_FlashKnot
 exact ⟨t.length + 1, 0, rfl, hp, by omega, by omega, by omega, fun j hj => by omega⟩
theorem all_cherenkov_flash_each_cherenkov_api_FlashKnot (t : List Knot) (hp : (t).length ≤ 1000000) : AllG (J_cherenkov_flash_each_cherenkov_api_FlashKnot t) (loopsFn Tryz.prog tab St96 ann_cherenkov_flash_each_cherenkov_api_FlashKnot (J_cherenkov_flash_each_cherenkov_api_FlashKnot t) Tryz.f142 (fun r => LeD r (.tu [.c (.v (.int .i64 (scanI (ktE t) (t).length))), .c (.v (.int .i64 (scan (ktE t) (t).length)))]))) := by
 rw [lp_cherenkov_flash_each_cherenkov_api_FlashKnot]
 refine ⟨⟨?_, ?_⟩, trivial⟩
 ·intro F s h
  obtain _ | ⟨g, F⟩ := F
  case cons => exact h.elim
  obtain ⟨w0, rfl, hi⟩ := h
  exact zero_cherenkov_flash_each_cherenkov_api_FlashKnot_0 t w0 hi
 ·intro n F s h
  obtain _ | ⟨g, F⟩ := F
  case cons => exact h.elim
  obtain ⟨w0, rfl, hi⟩ := h
  rw [er_cherenkov_flash_each_cherenkov_api_FlashKnot_0]
  exact rnd_cherenkov_flash_each_cherenkov_api_FlashKnot_0 t _ _ hp hi
def con_cherenkov_flash_each_cherenkov_api_FlashKnot : Con := fun args => match args with
 | [.t (.c (.sl 2 n_t c_t)), .t (.fn 143 [])] => some (.tu [.c (.v (.int .i64 (scanI (ktE (listC n_t mkKn c_t)) ((listC n_t mkKn c_t)).length))), .c (.v (.int .i64 (scan (ktE (listC n_t mkKn c_t)) ((listC n_t mkKn c_t)).length)))], some (numsP 2 n_t c_t ∧ ((listC n_t mkKn c_t)).length ≤ 1000000), false)
 | _ => none
theorem ok_cherenkov_flash_each_cherenkov_api_FlashKnot : Ok Tryz.prog 142 con_cherenkov_flash_each_cherenkov_api_FlashKnot := by
 refine Ok.fn (ann := ann_cherenkov_flash_each_cherenkov_api_FlashKnot) mixed tabOK VSt96 ValidIt.no (fn := Tryz.f142) (by kernel_rfl) (by kernel_rfl) fit_cherenkov_flash_each_cherenkov_api_FlashKnot fun args r pre fresh h hp => ?_
 unfold con_cherenkov_flash_each_cherenkov_api_FlashKnot at h
 split at h
 ·rename_i n_t c_t
  cases h
  obtain ⟨hp0, hp⟩ := hp
  refine ⟨rfl, J_cherenkov_flash_each_cherenkov_api_FlashKnot (listC n_t mkKn c_t), [.t (.c (.sl 2 ((listC n_t mkKn c_t).length) (knsC (listC n_t mkKn c_t)))), .t (.fn 143 [])], ?_, Nat.le_of_ble_eq_true (by kernel_rfl), ?_, ?_⟩
  ·exact (LeA_cons (leT_c ((leL_Knot hp0))) (LeA_cons (leT_f LeCs.nil) LeA_nil))
  ·rw [ev_cherenkov_flash_each_cherenkov_api_FlashKnot]; exact spec_cherenkov_flash_each_cherenkov_api_FlashKnot (listC n_t mkKn c_t) hp
  ·exact all_cherenkov_flash_each_cherenkov_api_FlashKnot (listC n_t mkKn c_t) hp
 ·cases h
noncomputable def St97 : Sum := addS St96 142 con_cherenkov_flash_each_cherenkov_api_FlashKnot
theorem VSt97 : Valid Tryz.prog St97 := Valid.add VSt96 ok_cherenkov_flash_each_cherenkov_api_FlashKnot
def vc_flash_CheckTable (t : List Knot) (post : DV → Prop) : Prop := cond ((cntW ((t.length : Nat) : Int) (8 : Int)) != (0 : Int)) (post (.tu [.c (.v (.int .i64 0)), .c (.v (.int .i64 (cntW ((t.length : Nat) : Int) (8 : Int))))])) ((numsP 2 t.length (knsC t) ∧ ((listC t.length mkKn (knsC t))).length ≤ 1000000) ∧ (post (.tu [.c (.v (.int .i64 (scanI (ktE (listC t.length mkKn (knsC t))) ((listC t.length mkKn (knsC t))).length))), .c (.v (.int .i64 (scan (ktE (listC t.length mkKn (knsC t))) ((listC t.length mkKn (knsC t))).length)))])))
def ann_flash_CheckTable : Ann := ⟨fun _ => none, fun _ => none, fun _ => [], noIt, false, fun _ => none, fun _ => none⟩
theorem ev_flash_CheckTable (J : Inv) (t : List Knot) (post : DV → Prop) : evFn Tryz.prog tab St97 ann_flash_CheckTable J Tryz.f98 [.t (.a [.sl 2 t.length (knsC t)])] post = vc_flash_CheckTable t post := by kernel_rfl
theorem fit_flash_CheckTable : okFn ann_flash_CheckTable Tryz.f98 = true := by kernel_rfl
theorem lp_flash_CheckTable (J : Inv) (post : DV → Prop) : AllG J (loopsFn Tryz.prog tab St97 ann_flash_CheckTable J Tryz.f98 post) = (True) := by kernel_rfl
theorem spec_flash_CheckTable (t : List Knot) : vc_flash_CheckTable t (fun r => LeD r (.tu [.c (.v (.int .i64 (tabI t))), .c (.v (.int .i64 (tabE t)))])) := by
 unfold vc_flash_CheckTable
 rw [kns_listC]
 refine cond_i (fun h => ?_) (fun h => ?_)
 ·have h : cntE t.length 8 ≠ 0 := by simpa [cntW, cntE] using h
  exact le2 (if_neg h).symm (if_neg h).symm
 ·have h : cntE t.length 8 = 0 := by simpa [cntW, cntE] using h
  refine ⟨⟨numsP_kns t, ?_⟩, le2 (if_pos h).symm (if_pos h).symm⟩
  have h2 := (fn2 h).2
  rw [unl_0 (by decide)] at h2
  have := of_decide_eq_true h2
  omega
def con_flash_CheckTable : Con := fun args => match args with
 | [.t (.a [.sl 2 n_t c_t])] => some (.tu [.c (.v (.int .i64 (tabI (listC n_t mkKn c_t)))), .c (.v (.int .i64 (tabE (listC n_t mkKn c_t))))], some (numsP 2 n_t c_t), false)
 | _ => none
theorem ok_flash_CheckTable : Ok Tryz.prog 98 con_flash_CheckTable := by
 refine Ok.fn (ann := ann_flash_CheckTable) mixed tabOK VSt97 ValidIt.no (fn := Tryz.f98) (by kernel_rfl) (by kernel_rfl) fit_flash_CheckTable fun args r pre fresh h hp => ?_
 unfold con_flash_CheckTable at h
 split at h
 ·rename_i n_t c_t
  cases h
  have hp0 := hp
  refine ⟨rfl, fun _ _ _ => False, [.t (.a [.sl 2 ((listC n_t mkKn c_t).length) (knsC (listC n_t mkKn c_t))])], ?_, Nat.le_of_ble_eq_true (by kernel_rfl), ?_, ?_⟩
  ·exact (LeA_cons (leT_a (LeCs.cons ((leL_Knot hp0)) LeCs.nil)) LeA_nil)
  ·rw [ev_flash_CheckTable]; exact spec_flash_CheckTable (listC n_t mkKn c_t)
  ·rw [lp_flash_CheckTable]; trivial
 ·cases h
noncomputable def St98 : Sum := addS St97 98 con_flash_CheckTable
theorem VSt98 : Valid Tryz.prog St98 := Valid.add VSt97 ok_flash_CheckTable
def vc_flash_yield_1 (c0 c1 : Int) (x : Int) (post : DV → Prop) : Prop := post (.t (.c (.v (.bool (decide (c0 ≥ x))))))
def ann_flash_yield_1 : Ann := ⟨fun _ => none, fun _ => none, fun _ => [], noIt, false, fun _ => none, fun _ => none⟩
theorem ev_flash_yield_1 (J : Inv) (c0 c1 : Int) (x : Int) (post : DV → Prop) : evFn Tryz.prog tab St98 ann_flash_yield_1 J Tryz.f145 [.t (.a [.v (.int .i64 c0), .v (.int .i64 c1)]), .t (.c (.px 1 0 (boxC [.v (.int .i64 x)])))] post = vc_flash_yield_1 c0 c1 x post := by kernel_rfl
theorem fit_flash_yield_1 : okFn ann_flash_yield_1 Tryz.f145 = true := by kernel_rfl
theorem lp_flash_yield_1 (J : Inv) (post : DV → Prop) : AllG J (loopsFn Tryz.prog tab St98 ann_flash_yield_1 J Tryz.f145 post) = (True) := by kernel_rfl
theorem spec_flash_yield_1 (c0 c1 : Int) (x : Int) : vc_flash_yield_1 c0 c1 x (fun r => LeD r (.t (.c (.v (.bool (fstP x (⟨c0, c1⟩ : Knot))))))) := by
 exact LeD.refl _
def con_flash_yield_1 : Con := fun args => match args with
 | [.t (.a [.v (.int .i64 c0), .v (.int .i64 c1)]), .t (.c (.px 1 0 c_pq))] => some (.t (.c (.v (.bool (fstP (cvInt (c_pq 0)) (⟨c0, c1⟩ : Knot))))), some (intsB [0] c_pq = true), false)
 | _ => none
theorem ok_flash_yield_1 : Ok Tryz.prog 145 con_flash_yield_1 := by
 refine Ok.fn (ann := ann_flash_yield_1) mixed tabOK VSt98 ValidIt.no (fn := Tryz.f145) (by kernel_rfl) (by kernel_rfl) fit_flash_yield_1 fun args r pre fresh h hp => ?_
 unfold con_flash_yield_1 at h
 split at h
 ·rename_i c0 c1 c_pq
  cases h
  have hp0 := hp
  refine ⟨rfl, fun _ _ _ => False, [.t (.a [.v (.int .i64 c0), .v (.int .i64 c1)]), .t (.c (.px 1 0 (boxC [.v (.int .i64 (cvInt (c_pq 0)))])))], ?_, Nat.le_of_ble_eq_true (by kernel_rfl), ?_, ?_⟩
  ·exact (LeA_cons (LeD.refl _) (LeA_cons (leT_c (leC_p (LeCs.cons (leC_i (intsB_get hp0 0 (by decide))) LeCs.nil))) LeA_nil))
  ·rw [ev_flash_yield_1]; exact spec_flash_yield_1 c0 c1 (cvInt (c_pq 0))
  ·rw [lp_flash_yield_1]; trivial
 ·cases h
noncomputable def St99 : Sum := addS St98 145 con_flash_yield_1
theorem VSt99 : Valid Tryz.prog St99 := Valid.add VSt98 ok_flash_yield_1
def mk_slices_IndexFunc_cherenkov_api_FlashKnot_cherenkov_api_FlashKnot_0 (t : List Knot) (x : Int) (v0_0 : Int) : DS := ⟨[some (.t (.c (.sl 2 t.length (knsC t)))), some (.t (.fn 145 [.px 1 0 (boxC [.v (.int .i64 x)])])), none, none, none, none, none, some (.t (.c (.v (.int .i64 ((t.length : Nat) : Int))))), some (.t (.c (.v (.int .i64 v0_0)))), none, none, none, none, none, none, none, none, none, none], [none, none, none, none, none, none, none, none, none, none, none, none, none, none, none, none, none, none, none]⟩
def vc_slices_IndexFunc_cherenkov_api_FlashKnot_cherenkov_api_FlashKnot (J : Inv) (t : List Knot) (x : Int) (post : DV → Prop) : Prop := ∃ n, J 0 (n :: []) (mk_slices_IndexFunc_cherenkov_api_FlashKnot_cherenkov_api_FlashKnot_0 t x 0)
def ann_slices_IndexFunc_cherenkov_api_FlashKnot_cherenkov_api_FlashKnot : Ann := ⟨fun _ => none, fun b => lookA b [(0, (none, some ⟨[0, 1, 7, 8], [], []⟩))], fun _ => [], noIt, false, fun _ => none, fun _ => none⟩
theorem ev_slices_IndexFunc_cherenkov_api_FlashKnot_cherenkov_api_FlashKnot (J : Inv) (t : List Knot) (x : Int) (post : DV → Prop) : evFn Tryz.prog tab St99 ann_slices_IndexFunc_cherenkov_api_FlashKnot_cherenkov_api_FlashKnot J Tryz.f144 [.t (.c (.sl 2 t.length (knsC t))), .t (.fn 145 [.px 1 0 (boxC [.v (.int .i64 x)])])] post = vc_slices_IndexFunc_cherenkov_api_FlashKnot_cherenkov_api_FlashKnot J t x post := by kernel_rfl
theorem fit_slices_IndexFunc_cherenkov_api_FlashKnot_cherenkov_api_FlashKnot : okFn ann_slices_IndexFunc_cherenkov_api_FlashKnot_cherenkov_api_FlashKnot Tryz.f144 = true := by kernel_rfl
def rd_slices_IndexFunc_cherenkov_api_FlashKnot_cherenkov_api_FlashKnot_0 (J : Inv) (t : List Knot) (x : Int) (v0_0 : Int) (nn0 : Nat) (post : DV → Prop) : Prop := cond (decide (v0_0 < ((t.length : Nat) : Int))) ((0 ≤ v0_0 ∧ v0_0 < ((t.length : Nat) : Int)) ∧ ((intsB [0] (boxC [.v (.int .i64 x)]) = true) ∧ (cond (fstP x (⟨((knAt t v0_0.toNat).d), ((knAt t v0_0.toNat).y)⟩ : Knot)) (post (.t (.c (.v (.int .i64 v0_0))))) (lt (IntKind.i64.wrap (v0_0 + (1 : Int))) fun x1 => J 0 (nn0 :: []) (mk_slices_IndexFunc_cherenkov_api_FlashKnot_cherenkov_api_FlashKnot_0 t x x1))))) (post (.t (.c (.v (.int .i64 (-1))))))
theorem er_slices_IndexFunc_cherenkov_api_FlashKnot_cherenkov_api_FlashKnot_0 (J : Inv) (t : List Knot) (x : Int) (v0_0 : Int) (nn0 : Nat) (post : DV → Prop) : round Tryz.prog tab St99 ann_slices_IndexFunc_cherenkov_api_FlashKnot_cherenkov_api_FlashKnot J Tryz.f144 post 0 (nn0 :: []) (mk_slices_IndexFunc_cherenkov_api_FlashKnot_cherenkov_api_FlashKnot_0 t x v0_0) = rd_slices_IndexFunc_cherenkov_api_FlashKnot_cherenkov_api_FlashKnot_0 J t x v0_0 nn0 post := by kernel_rfl
theorem lp_slices_IndexFunc_cherenkov_api_FlashKnot_cherenkov_api_FlashKnot (J : Inv) (post : DV → Prop) : AllG J (loopsFn Tryz.prog tab St99 ann_slices_IndexFunc_cherenkov_api_FlashKnot_cherenkov_api_FlashKnot J Tryz.f144 post) = (((∀ F s, ¬ J 0 (0 :: F) s) ∧ ∀ n F s, J 0 ((n + 1) :: F) s → round Tryz.prog tab St99 ann_slices_IndexFunc_cherenkov_api_FlashKnot_cherenkov_api_FlashKnot J Tryz.f144 post 0 (n :: F) s) ∧ True) := by kernel_rfl
def J_slices_IndexFunc_cherenkov_api_FlashKnot_cherenkov_api_FlashKnot (t : List Knot) (x : Int) : Inv := fun b F s => match b, F with
 | 0, [nn0] => ∃ (v0_0 : Int), s = mk_slices_IndexFunc_cherenkov_api_FlashKnot_cherenkov_api_FlashKnot_0 t x v0_0 ∧ (t.length ≤ 1000000 ∧ 0 ≤ v0_0 ∧ v0_0 ≤ t.length ∧ (nn0 : Int) + v0_0 = t.length + 1 ∧ ∀ k : Nat, (k : Int) < v0_0 → fstP x (knAt t k) = false)
 | _, _ => False
theorem rnd_slices_IndexFunc_cherenkov_api_FlashKnot_cherenkov_api_FlashKnot_0 (t : List Knot) (x : Int) (v0_0 : Int) (nn0 : Nat) (hp : (t).length ≤ 1000000) (hi : t.length ≤ 1000000 ∧ 0 ≤ v0_0 ∧ v0_0 ≤ t.length ∧ ((nn0 + 1) : Int) + v0_0 = t.length + 1 ∧ ∀ k : Nat, (k : Int) < v0_0 → fstP x (knAt t k) = false) : rd_slices_IndexFunc_cherenkov_api_FlashKnot_cherenkov_api_FlashKnot_0 (J_slices_IndexFunc_cherenkov_api_FlashKnot_cherenkov_api_FlashKnot t x) t x v0_0 nn0 (fun r => LeD r (.t (.c (.v (.int .i64 (idxP (fstP x) t)))))) := by
 obtain ⟨i0, i1, i2, i3, i4⟩ := hi
 obtain ⟨k, rfl⟩ : ∃ k : Nat, v0_0 = k := ⟨v0_0.toNat, by omega⟩
 have hk : (k : Int).toNat = k := rfl
 unfold rd_slices_IndexFunc_cherenkov_api_FlashKnot_cherenkov_api_FlashKnot_0
 rw [hk]
 refine cond_i (fun h => ?_) (fun h => leI ?_)
 ·have hlt : k < t.length := by have := of_decide_eq_true h; omega
  refine ⟨by omega, rfl, cond_i (fun e => leI ?_) (fun e => lt_i fun x hx => ?_)⟩
  ·exact (idxP_at (d := (⟨0, 0⟩ : Knot)) hlt (fun j hj => i4 j (by omega)) e).symm
  ·rw [wi (by omega)] at hx
   subst hx
   exact ⟨_, rfl, i0, by omega, by omega, by omega, fun j hj => by
    by_cases q : j = k
    ·rw [q]; exact e
    ·exact i4 j (by omega)⟩
 ·have hge : k = t.length := by have := of_decide_eq_false h; omega
  subst hge
  exact (idxP_none (d := (⟨0, 0⟩ : Knot)) fun j hj => i4 j (by omega)).symm
theorem zero_slices_IndexFunc_cherenkov_api_FlashKnot_cherenkov_api_FlashKnot_0 (t : List Knot) (x : Int) (v0_0 : Int)  (hi : t.length ≤ 1000000 ∧ 0 ≤ v0_0 ∧ v0_0 ≤ t.length ∧ (0 : Int) + v0_0 = t.length + 1 ∧ ∀ k : Nat, (k : Int) < v0_0 → fstP x (knAt t k) = false) : False := by
 omega
theorem spec_slices_IndexFunc_cherenkov_api_FlashKnot_cherenkov_api_FlashKnot (t : List Knot) (x : Int) (hp : (t).length ≤ 1000000) : vc_slices_IndexFunc_cherenkov_api_FlashKnot_cherenkov_api_FlashKnot (J_slices_IndexFunc_cherenkov_api_FlashKnot_cherenkov_api_FlashKnot t x) t x (fun r => LeD r (.t (.c (.v (.int .i64 (idxP (fstP x) t)))))) := by
 unfold vc_slices_IndexFunc_cherenkov_api_FlashKnot_cherenkov_api_FlashKnot
 exact ⟨t.length + 1, 0, rfl, hp, by omega, by omega, by omega, fun j hj => by omega⟩
theorem all_slices_IndexFunc_cherenkov_api_FlashKnot_cherenkov_api_FlashKnot (t : List Knot) (x : Int) (hp : (t).length ≤ 1000000) : AllG (J_slices_IndexFunc_cherenkov_api_FlashKnot_cherenkov_api_FlashKnot t x) (loopsFn Tryz.prog tab St99 ann_slices_IndexFunc_cherenkov_api_FlashKnot_cherenkov_api_FlashKnot (J_slices_IndexFunc_cherenkov_api_FlashKnot_cherenkov_api_FlashKnot t x) Tryz.f144 (fun r => LeD r (.t (.c (.v (.int .i64 (idxP (fstP x) t))))))) := by
 rw [lp_slices_IndexFunc_cherenkov_api_FlashKnot_cherenkov_api_FlashKnot]
 refine ⟨⟨?_, ?_⟩, trivial⟩
 ·intro F s h
  obtain _ | ⟨g, F⟩ := F
  case cons => exact h.elim
  obtain ⟨w0, rfl, hi⟩ := h
  exact zero_slices_IndexFunc_cherenkov_api_FlashKnot_cherenkov_api_FlashKnot_0 t x w0 hi
 ·intro n F s h
  obtain _ | ⟨g, F⟩ := F
  case cons => exact h.elim
  obtain ⟨w0, rfl, hi⟩ := h
  rw [er_slices_IndexFunc_cherenkov_api_FlashKnot_cherenkov_api_FlashKnot_0]
  exact rnd_slices_IndexFunc_cherenkov_api_FlashKnot_cherenkov_api_FlashKnot_0 t x _ _ hp hi
def con_slices_IndexFunc_cherenkov_api_FlashKnot_cherenkov_api_FlashKnot : Con := fun args => match args with
 | [.t (.c (.sl 2 n_t c_t)), .t (.fn 145 [.px 1 0 c_pq])] => some (.t (.c (.v (.int .i64 (idxP (fstP (cvInt (c_pq 0))) (listC n_t mkKn c_t))))), some (numsP 2 n_t c_t ∧ intsB [0] c_pq = true ∧ ((listC n_t mkKn c_t)).length ≤ 1000000), false)
 | _ => none
theorem ok_slices_IndexFunc_cherenkov_api_FlashKnot_cherenkov_api_FlashKnot : Ok Tryz.prog 144 con_slices_IndexFunc_cherenkov_api_FlashKnot_cherenkov_api_FlashKnot := by
 refine Ok.fn (ann := ann_slices_IndexFunc_cherenkov_api_FlashKnot_cherenkov_api_FlashKnot) mixed tabOK VSt99 ValidIt.no (fn := Tryz.f144) (by kernel_rfl) (by kernel_rfl) fit_slices_IndexFunc_cherenkov_api_FlashKnot_cherenkov_api_FlashKnot fun args r pre fresh h hp => ?_
 unfold con_slices_IndexFunc_cherenkov_api_FlashKnot_cherenkov_api_FlashKnot at h
 split at h
 ·rename_i n_t c_t c_pq
  cases h
  obtain ⟨hp0, hp1, hp⟩ := hp
  refine ⟨rfl, J_slices_IndexFunc_cherenkov_api_FlashKnot_cherenkov_api_FlashKnot (listC n_t mkKn c_t) (cvInt (c_pq 0)), [.t (.c (.sl 2 ((listC n_t mkKn c_t).length) (knsC (listC n_t mkKn c_t)))), .t (.fn 145 [.px 1 0 (boxC [.v (.int .i64 (cvInt (c_pq 0)))])])], ?_, Nat.le_of_ble_eq_true (by kernel_rfl), ?_, ?_⟩
  ·exact (LeA_cons (leT_c ((leL_Knot hp0))) (LeA_cons (leT_f (LeCs.cons (leC_p (LeCs.cons (leC_i (intsB_get hp1 0 (by decide))) LeCs.nil)) LeCs.nil)) LeA_nil))
  ·rw [ev_slices_IndexFunc_cherenkov_api_FlashKnot_cherenkov_api_FlashKnot]; exact spec_slices_IndexFunc_cherenkov_api_FlashKnot_cherenkov_api_FlashKnot (listC n_t mkKn c_t) (cvInt (c_pq 0)) hp
  ·exact all_slices_IndexFunc_cherenkov_api_FlashKnot_cherenkov_api_FlashKnot (listC n_t mkKn c_t) (cvInt (c_pq 0)) hp
 ·cases h
noncomputable def St100 : Sum := addS St99 144 con_slices_IndexFunc_cherenkov_api_FlashKnot_cherenkov_api_FlashKnot
theorem VSt100 : Valid Tryz.prog St100 := Valid.add VSt99 ok_slices_IndexFunc_cherenkov_api_FlashKnot_cherenkov_api_FlashKnot
def vc_flash_yield (t : List Knot) (x : Int) (post : DV → Prop) : Prop := (numsP 2 t.length (knsC t) ∧ intsB [0] (boxC [.v (.int .i64 x)]) = true ∧ ((listC t.length mkKn (knsC t))).length ≤ 1000000) ∧ (cond (decide ((idxP (fstP x) (listC t.length mkKn (knsC t))) < (0 : Int))) (post (.t (.c (.v (.int .i64 0))))) ((0 ≤ (idxP (fstP x) (listC t.length mkKn (knsC t))) ∧ (idxP (fstP x) (listC t.length mkKn (knsC t))) < ((t.length : Nat) : Int)) ∧ (post (.t (.c (.v (.int .i64 ((knAt t ((idxP (fstP x) (listC t.length mkKn (knsC t))).toNat)).y))))))))
def ann_flash_yield : Ann := ⟨fun _ => none, fun _ => none, fun _ => [], noIt, false, fun _ => none, fun _ => none⟩
theorem ev_flash_yield (J : Inv) (t : List Knot) (x : Int) (post : DV → Prop) : evFn Tryz.prog tab St100 ann_flash_yield J Tryz.f99 [.t (.a [.sl 2 t.length (knsC t)]), .t (.c (.v (.int .i64 x)))] post = vc_flash_yield t x post := by kernel_rfl
theorem fit_flash_yield : okFn ann_flash_yield Tryz.f99 = true := by kernel_rfl
theorem lp_flash_yield (J : Inv) (post : DV → Prop) : AllG J (loopsFn Tryz.prog tab St100 ann_flash_yield J Tryz.f99 post) = (True) := by kernel_rfl
theorem spec_flash_yield (t : List Knot) (x : Int) (hp : (t).length ≤ 1000000) : vc_flash_yield t x (fun r => LeD r (.t (.c (.v (.int .i64 (yldF x t)))))) := by
 unfold vc_flash_yield
 simp only [kns_listC]
 obtain ⟨y1, y2⟩ := yldF_idx x t
 have rg := idxP_rg (fstP x) t
 refine ⟨⟨numsP_kns t, rfl, hp⟩, cond_i (fun h => leI ?_) (fun h => ⟨?_, leI ?_⟩)⟩
 ·exact (y1 (of_decide_eq_true h)).symm
 ·have := of_decide_eq_false h; omega
 ·have := of_decide_eq_false h
  exact (y2 (by omega)).symm
def con_flash_yield : Con := fun args => match args with
 | [.t (.a [.sl 2 n_t c_t]), .t (.c (.v (.int .i64 x)))] => some (.t (.c (.v (.int .i64 (yldF x (listC n_t mkKn c_t))))), some (numsP 2 n_t c_t ∧ ((listC n_t mkKn c_t)).length ≤ 1000000), false)
 | _ => none
theorem ok_flash_yield : Ok Tryz.prog 99 con_flash_yield := by
 refine Ok.fn (ann := ann_flash_yield) mixed tabOK VSt100 ValidIt.no (fn := Tryz.f99) (by kernel_rfl) (by kernel_rfl) fit_flash_yield fun args r pre fresh h hp => ?_
 unfold con_flash_yield at h
 split at h
 ·rename_i n_t c_t x
  cases h
  obtain ⟨hp0, hp⟩ := hp
  refine ⟨rfl, fun _ _ _ => False, [.t (.a [.sl 2 ((listC n_t mkKn c_t).length) (knsC (listC n_t mkKn c_t))]), .t (.c (.v (.int .i64 x)))], ?_, Nat.le_of_ble_eq_true (by kernel_rfl), ?_, ?_⟩
  ·exact (LeA_cons (leT_a (LeCs.cons ((leL_Knot hp0)) LeCs.nil)) (LeA_cons (LeD.refl _) LeA_nil))
  ·rw [ev_flash_yield]; exact spec_flash_yield (listC n_t mkKn c_t) x hp
  ·rw [lp_flash_yield]; trivial
 ·cases h
noncomputable def St101 : Sum := addS St100 99 con_flash_yield
theorem VSt101 : Valid Tryz.prog St101 := Valid.add VSt100 ok_flash_yield
def vc_flash_LightAt (t : List Knot) (x : Int) (u : Int) (post : DV → Prop) : Prop := (numsP 2 t.length (knsC t)) ∧ ((cond (inB x (0 : Int) (100000 : Int)) (True) ((false = false) ∧ (True))) ∧ (lt ((bif inB x (0 : Int) (100000 : Int) then inB u (0 : Int) (100000 : Int) else false)) fun x1 => (numsP 1 2 (genC [[.v (.int .i64 (tabE (listC t.length mkKn (knsC t))))], [.v (.int .i64 (unl x1 (2 : Int)))]]) ∧ (([(tabE (listC t.length mkKn (knsC t))), (unl x1 (2 : Int))] : List Int)).length ≤ 100) ∧ (cond ((firstNZ ([(tabE (listC t.length mkKn (knsC t))), (unl x1 (2 : Int))] : List Int)) != (0 : Int)) (post (.tu [.a [.v (.int .i64 0), .v (.int .i64 0)], .c (.v (.int .i64 (firstNZ ([(tabE (listC t.length mkKn (knsC t))), (unl x1 (2 : Int))] : List Int))))])) ((numsP 2 t.length (knsC t) ∧ ((listC t.length mkKn (knsC t))).length ≤ 1000000) ∧ (lt (IntKind.i64.wrap (u * (yldF x (listC t.length mkKn (knsC t))))) fun x2 => lt (IntKind.i64.wrap (Int.tdiv x2 (1000 : Int))) fun x3 => (IntKind.i64 = IntKind.i64 ∧ (1000 : Int) ≠ 0) ∧ (lt (IntKind.i64.wrap (x2 + (1000 : Int))) fun x4 => lt (IntKind.i64.wrap (x4 - (1 : Int))) fun x5 => lt (IntKind.i64.wrap (Int.tdiv x5 (1000 : Int))) fun x6 => (IntKind.i64 = IntKind.i64 ∧ (1000 : Int) ≠ 0) ∧ (post (.tu [.a [.v (.int .i64 x3), .v (.int .i64 x6)], .c (.v (.int .i64 0))]))))))))
def ann_flash_LightAt : Ann := ⟨fun _ => none, fun _ => none, fun _ => [], noIt, false, fun r => lookA r [(2, (3, [10]))], fun _ => none⟩
theorem ev_flash_LightAt (J : Inv) (t : List Knot) (x : Int) (u : Int) (post : DV → Prop) : evFn Tryz.prog tab St101 ann_flash_LightAt J Tryz.f48 [.t (.a [.sl 2 t.length (knsC t)]), .t (.c (.v (.int .i64 x))), .t (.c (.v (.int .i64 u)))] post = vc_flash_LightAt t x u post := by kernel_rfl
theorem fit_flash_LightAt : okFn ann_flash_LightAt Tryz.f48 = true := by kernel_rfl
theorem lp_flash_LightAt (J : Inv) (post : DV → Prop) : AllG J (loopsFn Tryz.prog tab St101 ann_flash_LightAt J Tryz.f48 post) = (True) := by kernel_rfl
theorem spec_flash_LightAt (t : List Knot) (x : Int) (u : Int) : vc_flash_LightAt t x u (fun r => LeD r (.tu [.a [.v (.int .i64 ((lgtV t x u).lo)), .v (.int .i64 ((lgtV t x u).hi))], .c (.v (.int .i64 (lgtE t x u)))])) := by
 unfold vc_flash_LightAt
 simp only [kns_listC]
 refine ⟨numsP_kns t, cond_i (fun _ => trivial) (fun _ => by trivial), lt_i fun x1 h1 => ⟨⟨numsP_gen [_, _], Nat.le_of_ble_eq_true rfl⟩, cond_i (fun h => ?_) (fun h => ?_)⟩⟩
 all_goals
  have e1 : x1 = (inB x 0 100000 && inB u 0 100000) := by rw [← h1]; cases inB x 0 100000 <;> rfl
  subst e1
 ·have h : lgtE t x u ≠ 0 := by simpa [lgtE] using h
  rw [show lgtV t x u = ⟨0, 0⟩ from if_neg h]
  exact LeD.refl _
 ·have h : lgtE t x u = 0 := by simpa [lgtE] using h
  obtain ⟨k1, k2⟩ := fn2 h
  rw [unl_0 (by decide), Bool.and_eq_true, inB_true, inB_true] at k2
  have yr := yld_rg k1 x
  have hl := (tab_ok k1).1
  rw [show lgtV t x u = lgtR t x u from if_pos h, h]
  unfold lgtR
  have m1 := mul_rg (x := u) (y := yldF x t) (A := 100000) (B := 10000) (C := 1000000000) (by omega) (by omega) (by decide)
  have m2 := Int.mul_nonneg (a := u) (b := yldF x t) (by omega) (by omega)
  refine ⟨⟨numsP_kns t, by omega⟩, lt_i fun x2 g2 => lt_i fun x3 g3 => ⟨by simp, lt_i fun x4 g4 => lt_i fun x5 g5 => lt_i fun x6 g6 => ⟨by simp, ?_⟩⟩⟩
  rw [wi (by omega)] at g2
  subst g2
  rw [Int.tdiv_eq_ediv_of_nonneg m2, wi (by omega)] at g3
  rw [wi (by omega)] at g4
  subst g3 g4
  rw [wi (by omega)] at g5
  subst g5
  rw [Int.tdiv_eq_ediv_of_nonneg (by omega), wi (by omega), show u * yldF x t + 1000 - 1 = u * yldF x t + 999 by omega] at g6
  subst g6
  exact LeD.refl _
def con_flash_LightAt : Con := fun args => match args with
 | [.t (.a [.sl 2 n_t c_t]), .t (.c (.v (.int .i64 x))), .t (.c (.v (.int .i64 u)))] => some (.tu [.a [.v (.int .i64 ((lgtV (listC n_t mkKn c_t) x u).lo)), .v (.int .i64 ((lgtV (listC n_t mkKn c_t) x u).hi))], .c (.v (.int .i64 (lgtE (listC n_t mkKn c_t) x u)))], some (numsP 2 n_t c_t), false)
 | _ => none
theorem ok_flash_LightAt : Ok Tryz.prog 48 con_flash_LightAt := by
 refine Ok.fn (ann := ann_flash_LightAt) mixed tabOK VSt101 ValidIt.no (fn := Tryz.f48) (by kernel_rfl) (by kernel_rfl) fit_flash_LightAt fun args r pre fresh h hp => ?_
 unfold con_flash_LightAt at h
 split at h
 ·rename_i n_t c_t x u
  cases h
  have hp0 := hp
  refine ⟨rfl, fun _ _ _ => False, [.t (.a [.sl 2 ((listC n_t mkKn c_t).length) (knsC (listC n_t mkKn c_t))]), .t (.c (.v (.int .i64 x))), .t (.c (.v (.int .i64 u)))], ?_, Nat.le_of_ble_eq_true (by kernel_rfl), ?_, ?_⟩
  ·exact (LeA_cons (leT_a (LeCs.cons ((leL_Knot hp0)) LeCs.nil)) (LeA_cons (LeD.refl _) (LeA_cons (LeD.refl _) LeA_nil)))
  ·rw [ev_flash_LightAt]; exact spec_flash_LightAt (listC n_t mkKn c_t) x u
  ·rw [lp_flash_LightAt]; trivial
 ·cases h
noncomputable def St102 : Sum := addS St101 48 con_flash_LightAt
theorem VSt102 : Valid Tryz.prog St102 := Valid.add VSt101 ok_flash_LightAt
def vc_flash_fitting (r0 r1 : Int) (y : Int) (post : DV → Prop) : Prop := cond (y == (0 : Int)) (cond (decide (r0 > (0 : Int))) (post (.t (.a [.v (.int .i64 100001), .v (.int .i64 100000)]))) (post (.t (.a [.v (.int .i64 0), .v (.int .i64 100000)])))) (cond (decide (r0 > (0 : Int))) (lt (IntKind.i64.wrap (r0 - (1 : Int))) fun x1 => lt (IntKind.i64.wrap (x1 * (1000 : Int))) fun x2 => lt (IntKind.i64.wrap (Int.tdiv x2 y)) fun x3 => (IntKind.i64 = IntKind.i64 ∧ y ≠ 0) ∧ (lt (IntKind.i64.wrap (x3 + (1 : Int))) fun x4 => lt (IntKind.i64.wrap (r1 + (1 : Int))) fun x5 => lt (IntKind.i64.wrap (x5 * (1000 : Int))) fun x6 => lt (IntKind.i64.wrap (x6 - (1 : Int))) fun x7 => lt (IntKind.i64.wrap (Int.tdiv x7 y)) fun x8 => (IntKind.i64 = IntKind.i64 ∧ y ≠ 0) ∧ (lt ((if x8 < (100000 : Int) then x8 else (100000 : Int))) fun x9 => post (.t (.a [.v (.int .i64 x4), .v (.int .i64 x9)]))))) (lt (IntKind.i64.wrap (r1 + (1 : Int))) fun x10 => lt (IntKind.i64.wrap (x10 * (1000 : Int))) fun x11 => lt (IntKind.i64.wrap (x11 - (1 : Int))) fun x12 => lt (IntKind.i64.wrap (Int.tdiv x12 y)) fun x13 => (IntKind.i64 = IntKind.i64 ∧ y ≠ 0) ∧ (lt ((if x13 < (100000 : Int) then x13 else (100000 : Int))) fun x14 => post (.t (.a [.v (.int .i64 0), .v (.int .i64 x14)])))))
def ann_flash_fitting : Ann := ⟨fun r => lookA r [(8, ([[], [0], [], [2], [2, 3], [2, 3, 4], [2, 3, 4, 5], [], [2, 3, 4, 5, 6, 7], [0, 1, 2, 3, 4, 5, 6, 7, 8], [0, 1, 2, 3, 4, 5, 6, 7, 8, 9], [0, 1, 2, 3, 4, 5, 6, 7, 8, 9, 10]], [[], [], [], [], [], [], [], [], [], [], [], []]))], fun _ => none, fun _ => [], noIt, false, fun _ => none, fun _ => none⟩
theorem ev_flash_fitting (J : Inv) (r0 r1 : Int) (y : Int) (post : DV → Prop) : evFn Tryz.prog tab St102 ann_flash_fitting J Tryz.f104 [.t (.a [.v (.int .i64 r0), .v (.int .i64 r1)]), .t (.c (.v (.int .i64 y)))] post = vc_flash_fitting r0 r1 y post := by kernel_rfl
theorem fit_flash_fitting : okFn ann_flash_fitting Tryz.f104 = true := by kernel_rfl
theorem lp_flash_fitting (J : Inv) (post : DV → Prop) : AllG J (loopsFn Tryz.prog tab St102 ann_flash_fitting J Tryz.f104 post) = (True) := by kernel_rfl
theorem spec_flash_fitting (r0 r1 : Int) (y : Int) (hp : (0 ≤ y ∧ y ≤ 10000) ∧ (0 ≤ r0 ∧ r0 ≤ 1000000) ∧ 0 ≤ r1 ∧ r1 ≤ 1000000) : vc_flash_fitting r0 r1 y (fun r => LeD r (.t (.a [.v (.int .i64 ((fitG (⟨r0, r1⟩ : Rg) y).lo)), .v (.int .i64 ((fitG (⟨r0, r1⟩ : Rg) y).hi))]))) := by
 obtain ⟨q1, q2, q3⟩ := hp
 unfold vc_flash_fitting fitG
 refine cond_i (fun h => ?_) (fun h => ?_)
 ·have h : y = 0 := by simpa using h
  simp only [if_pos h]
  refine cond_i (fun g => ?_) (fun g => ?_)
  ·rw [if_pos (of_decide_eq_true g)]; exact LeD.refl _
  ·rw [if_neg (of_decide_eq_false g)]; exact LeD.refl _
 ·have h : y ≠ 0 := by simpa using h
  simp only [if_neg h]
  have w2 := Int.ediv_nonneg (a := (r1 + 1) * 1000 - 1) (b := y) (by omega) (by omega)
  have v2 := Int.ediv_le_self (a := (r1 + 1) * 1000 - 1) y (by omega)
  refine cond_i (fun g => ?_) (fun g => ?_)
  ·have g := of_decide_eq_true g
   rw [if_pos g]
   have w1 := Int.ediv_nonneg (a := (r0 - 1) * 1000) (b := y) (by omega) (by omega)
   have v1 := Int.ediv_le_self (a := (r0 - 1) * 1000) y (by omega)
   refine lt_i fun x1 h1 => lt_i fun x2 h2 => lt_i fun x3 h3 => ⟨⟨trivial, h⟩, lt_i fun x4 h4 => lt_i fun x5 h5 => lt_i fun x6 h6 => lt_i fun x7 h7 => lt_i fun x8 h8 => ⟨⟨trivial, h⟩, lt_i fun x9 h9 => ?_⟩⟩
   rw [wi (by omega)] at h1
   subst h1
   rw [wi (by omega)] at h2
   subst h2
   rw [Int.tdiv_eq_ediv_of_nonneg (by omega), wi (by omega)] at h3
   subst h3
   rw [wi (by omega)] at h4
   subst h4
   rw [wi (by omega)] at h5
   subst h5
   rw [wi (by omega)] at h6
   subst h6
   rw [wi (by omega)] at h7
   subst h7
   rw [Int.tdiv_eq_ediv_of_nonneg (by omega), wi (by omega)] at h8
   subst h8
   rw [mn_if] at h9
   subst h9
   exact LeD.refl _
  ·rw [if_neg (of_decide_eq_false g)]
   refine lt_i fun x5 h5 => lt_i fun x6 h6 => lt_i fun x7 h7 => lt_i fun x8 h8 => ⟨⟨trivial, h⟩, lt_i fun x9 h9 => ?_⟩
   rw [wi (by omega)] at h5
   subst h5
   rw [wi (by omega)] at h6
   subst h6
   rw [wi (by omega)] at h7
   subst h7
   rw [Int.tdiv_eq_ediv_of_nonneg (by omega), wi (by omega)] at h8
   subst h8
   rw [mn_if] at h9
   subst h9
   exact LeD.refl _
def con_flash_fitting : Con := fun args => match args with
 | [.t (.a [.v (.int .i64 r0), .v (.int .i64 r1)]), .t (.c (.v (.int .i64 y)))] => some (.t (.a [.v (.int .i64 ((fitG (⟨r0, r1⟩ : Rg) y).lo)), .v (.int .i64 ((fitG (⟨r0, r1⟩ : Rg) y).hi))]), some ((0 ≤ y ∧ y ≤ 10000) ∧ (0 ≤ r0 ∧ r0 ≤ 1000000) ∧ 0 ≤ r1 ∧ r1 ≤ 1000000), false)
 | _ => none
theorem ok_flash_fitting : Ok Tryz.prog 104 con_flash_fitting := by
 refine Ok.fn (ann := ann_flash_fitting) mixed tabOK VSt102 ValidIt.no (fn := Tryz.f104) (by kernel_rfl) (by kernel_rfl) fit_flash_fitting fun args r pre fresh h hp => ?_
 unfold con_flash_fitting at h
 split at h
 ·rename_i r0 r1 y
  cases h
  refine ⟨rfl, fun _ _ _ => False, _, LeA.refl _, Nat.le_of_ble_eq_true (by kernel_rfl), ?_, ?_⟩
  ·rw [ev_flash_fitting]; exact spec_flash_fitting r0 r1 y hp
  ·rw [lp_flash_fitting]; trivial
 ·cases h
noncomputable def St103 : Sum := addS St102 104 con_flash_fitting
theorem VSt103 : Valid Tryz.prog St103 := Valid.add VSt102 ok_flash_fitting
def mk_flash_EnergiesAt_0 (t : List Knot) (l : List FHit) (p0 p1 p2 : Int) (v0_0 : List (List CV)) (v0_1 : Int) : DS := ⟨[none, none, none, some (.t (.c (.p 3 0))), none, some (.t (.c (.p 5 0))), some (.t (.c (.p 6 0))), none, none, none, some (.t (.c (.os 10))), none, none, none, none, none, none, none, none, none, none, none, none, none, none, none, none, none, none, none, some (.t (.c (.sl 7 l.length (hitsC l)))), some (.t (.c (.v (.int .i64 ((l.length : Nat) : Int))))), some (.t (.c (.v (.int .i64 v0_1)))), none, none, none, none, none, none, none, none, none, none, none, none, none, none, none, none, none, none, none, none, none, none, none, none, none, none], [none, none, none, some (.box 80 [.sl 2 t.length (knsC t)]), none, some (.box 75 [.v (.int .i64 p0), .v (.int .i64 p1), .v (.int .i64 p2)]), some (.box 94 [.v (.int .i64 0), .v (.int .i64 0)]), none, none, none, some (.gen 94 2 v0_0), none, none, none, none, none, none, none, none, none, none, none, none, none, none, none, none, none, none, none, none, none, none, none, none, none, none, none, none, none, none, none, none, none, none, none, none, none, none, none, none, none, none, none, none, none, none, none, none]⟩
def vc_flash_EnergiesAt (J : Inv) (t : List Knot) (l : List FHit) (p0 p1 p2 : Int) (post : DV → Prop) : Prop := (numsP 2 t.length (knsC t)) ∧ ((numsP 7 l.length (hitsC l)) ∧ ((numsP 1 3 (genC [[.v (.int .i64 (tabE (listC t.length mkKn (knsC t))))], [.v (.int .i64 (hitsE (listC l.length mkHit (hitsC l))))], [.v (.int .i64 (posE (⟨p0, p1, p2⟩ : P3)))]]) ∧ (([(tabE (listC t.length mkKn (knsC t))), (hitsE (listC l.length mkHit (hitsC l))), (posE (⟨p0, p1, p2⟩ : P3))] : List Int)).length ≤ 100) ∧ (cond ((firstNZ ([(tabE (listC t.length mkKn (knsC t))), (hitsE (listC l.length mkHit (hitsC l))), (posE (⟨p0, p1, p2⟩ : P3))] : List Int)) != (0 : Int)) (post (.tu [.a [.v (.int .i64 0), .v (.int .i64 0)], .c (.v (.int .i64 (firstNZ ([(tabE (listC t.length mkKn (knsC t))), (hitsE (listC l.length mkHit (hitsC l))), (posE (⟨p0, p1, p2⟩ : P3))] : List Int))))])) (∃ n, J 0 (n :: []) (mk_flash_EnergiesAt_0 t l p0 p1 p2 ([]) 0)))))
def ann_flash_EnergiesAt : Ann := ⟨fun r => lookA r [(2, ([[], [], [1], [], [1, 2, 3], [0, 1, 2, 3, 4], [0, 1, 2, 3, 4, 5], [0, 1, 2, 3, 4, 5, 6]], [[21, 23, 24, 25], [21, 23, 24, 25], [23, 24, 25], [21, 23, 24, 25], [24, 25], [25], [], []])), (9, ([[], [], [1], [], [], [], [5], [4, 5, 6], [4, 5, 6, 7], [3, 4, 5, 6, 7, 8], [1, 2, 3, 4, 5, 6, 7, 8, 9], [1, 2, 3, 4, 5, 6, 7, 8, 9, 10], [0, 1, 2, 3, 4, 5, 6, 7, 8, 9, 10, 11], [0, 1, 2, 3, 4, 5, 6, 7, 8, 9, 10, 11, 12]], [[43, 44, 45, 46, 47], [43, 44, 45, 46, 47], [43, 44, 45, 46, 47], [43, 44, 45, 46, 47], [43, 44, 45, 46, 47], [43, 44, 45, 46, 47], [43, 44, 45, 46, 47], [44, 45, 46, 47], [45, 46, 47], [46, 47], [47], [], [], []]))], fun b => lookA b [(0, (none, some ⟨[3, 5, 6, 30, 31, 32], [3, 5, 6], [(10, .gen 94 2 [])]⟩))], fun _ => [], noIt, false, fun _ => none, fun _ => none⟩
theorem ev_flash_EnergiesAt (J : Inv) (t : List Knot) (l : List FHit) (p0 p1 p2 : Int) (post : DV → Prop) : evFn Tryz.prog tab St103 ann_flash_EnergiesAt J Tryz.f54 [.t (.a [.sl 2 t.length (knsC t)]), .t (.c (.sl 7 l.length (hitsC l))), .t (.a [.v (.int .i64 p0), .v (.int .i64 p1), .v (.int .i64 p2)])] post = vc_flash_EnergiesAt J t l p0 p1 p2 post := by kernel_rfl
theorem fit_flash_EnergiesAt : okFn ann_flash_EnergiesAt Tryz.f54 = true := by kernel_rfl
def rd_flash_EnergiesAt_0 (J : Inv) (t : List Knot) (l : List FHit) (p0 p1 p2 : Int) (v0_0 : List (List CV)) (v0_1 : Int) (nn0 : Nat) (post : DV → Prop) : Prop := cond (decide (v0_1 < ((l.length : Nat) : Int))) ((0 ≤ v0_1 ∧ v0_1 < ((l.length : Nat) : Int)) ∧ ((((⟨p0, p1, p2⟩ : P3)).bd 15000 ∧ ((hitAt l v0_1.toNat).p).bd 15000) ∧ ((0 ≤ (sqD (⟨p0, p1, p2⟩ : P3) (hitAt l v0_1.toNat).p) ∧ (sqD (⟨p0, p1, p2⟩ : P3) (hitAt l v0_1.toNat).p) < 1099511627776) ∧ ((numsP 2 t.length (knsC t) ∧ ((listC t.length mkKn (knsC t))).length ≤ 1000000) ∧ (((0 ≤ (yldF (rt (sqD (⟨p0, p1, p2⟩ : P3) (hitAt l v0_1.toNat).p)) (listC t.length mkKn (knsC t))) ∧ (yldF (rt (sqD (⟨p0, p1, p2⟩ : P3) (hitAt l v0_1.toNat).p)) (listC t.length mkKn (knsC t))) ≤ 10000) ∧ (0 ≤ ((hitAt l v0_1.toNat).c.lo) ∧ ((hitAt l v0_1.toNat).c.lo) ≤ 1000000) ∧ 0 ≤ ((hitAt l v0_1.toNat).c.hi) ∧ ((hitAt l v0_1.toNat).c.hi) ≤ 1000000) ∧ ((roomP 16 (v0_0.length + ([[.v (.int .i64 ((fitG (hitAt l v0_1.toNat).c (yldF (rt (sqD (⟨p0, p1, p2⟩ : P3) (hitAt l v0_1.toNat).p)) (listC t.length mkKn (knsC t)))).lo)), .v (.int .i64 ((fitG (hitAt l v0_1.toNat).c (yldF (rt (sqD (⟨p0, p1, p2⟩ : P3) (hitAt l v0_1.toNat).p)) (listC t.length mkKn (knsC t)))).hi))]] : List (List CV)).length)) ∧ (lt (IntKind.i64.wrap (v0_1 + (1 : Int))) fun x1 => J 0 (nn0 :: []) (mk_flash_EnergiesAt_0 t l p0 p1 p2 (v0_0 ++ ([[.v (.int .i64 ((fitG (hitAt l v0_1.toNat).c (yldF (rt (sqD (⟨p0, p1, p2⟩ : P3) (hitAt l v0_1.toNat).p)) (listC t.length mkKn (knsC t)))).lo)), .v (.int .i64 ((fitG (hitAt l v0_1.toNat).c (yldF (rt (sqD (⟨p0, p1, p2⟩ : P3) (hitAt l v0_1.toNat).p)) (listC t.length mkKn (knsC t)))).hi))]] : List (List CV))) x1)))))))) ((numsP 2 v0_0.length (genC v0_0) ∧ 0 < ((listC v0_0.length mkRg (genC v0_0))).length ∧ ((listC v0_0.length mkRg (genC v0_0))).length ≤ 1000000) ∧ (cond (decide (((comm (listC v0_0.length mkRg (genC v0_0))).lo) > ((comm (listC v0_0.length mkRg (genC v0_0))).hi))) (post (.tu [.a [.v (.int .i64 0), .v (.int .i64 0)], .c (.v (.int .i64 12))])) (post (.tu [.a [.v (.int .i64 ((comm (listC v0_0.length mkRg (genC v0_0))).lo)), .v (.int .i64 ((comm (listC v0_0.length mkRg (genC v0_0))).hi))], .c (.v (.int .i64 0))]))))
theorem er_flash_EnergiesAt_0 (J : Inv) (t : List Knot) (l : List FHit) (p0 p1 p2 : Int) (v0_0 : List (List CV)) (v0_1 : Int) (nn0 : Nat) (post : DV → Prop) : round Tryz.prog tab St103 ann_flash_EnergiesAt J Tryz.f54 post 0 (nn0 :: []) (mk_flash_EnergiesAt_0 t l p0 p1 p2 v0_0 v0_1) = rd_flash_EnergiesAt_0 J t l p0 p1 p2 v0_0 v0_1 nn0 post := by kernel_rfl
theorem lp_flash_EnergiesAt (J : Inv) (post : DV → Prop) : AllG J (loopsFn Tryz.prog tab St103 ann_flash_EnergiesAt J Tryz.f54 post) = (((∀ F s, ¬ J 0 (0 :: F) s) ∧ ∀ n F s, J 0 ((n + 1) :: F) s → round Tryz.prog tab St103 ann_flash_EnergiesAt J Tryz.f54 post 0 (n :: F) s) ∧ True) := by kernel_rfl
def J_flash_EnergiesAt (t : List Knot) (l : List FHit) (p0 p1 p2 : Int) : Inv := fun b F s => match b, F with
 | 0, [nn0] => ∃ (v0_0 : List (List CV)) (v0_1 : Int), s = mk_flash_EnergiesAt_0 t l p0 p1 p2 v0_0 v0_1 ∧ (engE0 t l (⟨p0, p1, p2⟩ : P3) = 0 ∧ 0 ≤ v0_1 ∧ v0_1 ≤ l.length ∧ (nn0 : Int) + v0_1 = l.length + 1 ∧ v0_0 = ((l.take v0_1.toNat).map (fitH t (⟨p0, p1, p2⟩ : P3))).map rgCv)
 | _, _ => False
set_option maxHeartbeats 8000000 in
set_option maxRecDepth 100000 in
theorem rnd_flash_EnergiesAt_0 (t : List Knot) (l : List FHit) (p0 p1 p2 : Int) (v0_0 : List (List CV)) (v0_1 : Int) (nn0 : Nat) (hi : engE0 t l (⟨p0, p1, p2⟩ : P3) = 0 ∧ 0 ≤ v0_1 ∧ v0_1 ≤ l.length ∧ ((nn0 + 1) : Int) + v0_1 = l.length + 1 ∧ v0_0 = ((l.take v0_1.toNat).map (fitH t (⟨p0, p1, p2⟩ : P3))).map rgCv) : rd_flash_EnergiesAt_0 (J_flash_EnergiesAt t l p0 p1 p2) t l p0 p1 p2 v0_0 v0_1 nn0 (fun r => LeD r (.tu [.a [.v (.int .i64 ((engV t l (⟨p0, p1, p2⟩ : P3)).lo)), .v (.int .i64 ((engV t l (⟨p0, p1, p2⟩ : P3)).hi))], .c (.v (.int .i64 (engE t l (⟨p0, p1, p2⟩ : P3))))])) := by
 obtain ⟨q0, i1, i2, i3, i4⟩ := hi
 obtain ⟨k, rfl⟩ : ∃ k : Nat, v0_1 = k := ⟨v0_1.toNat, by omega⟩
 have hk : (k : Int).toNat = k := rfl
 rw [hk] at i4
 obtain ⟨q1, q2, q3⟩ := fn3 q0
 obtain ⟨⟨z1, z2⟩, z3⟩ := hitsE_ok q2
 have pb := (posE_0.1 q3).mono (B := 15000) (by decide)
 have hl := (tab_ok q1).1
 unfold rd_flash_EnergiesAt_0
 simp only [kns_listC]
 rw [hk]
 refine cond_i (fun h => ?_) (fun h => ?_)
 ·have hlt : k < l.length := by have := of_decide_eq_true h; omega
  obtain ⟨b1, b2, b3⟩ := hit_ok (z3 k hlt)
  have b4 := b1.mono (B := 15000) (by decide)
  have dd := sqD_rg pb b4
  have yr := yld_rg q1 (rt (sqD (⟨p0, p1, p2⟩ : P3) (hitAt l k).p))
  refine ⟨by omega, ⟨pb, b4⟩, by omega, ⟨numsP_kns t, by omega⟩, ⟨yr, by omega, by omega⟩, ?_, lt_i fun x hx => ?_⟩
  ·rw [i4]; unfold roomP maxLen; simp; omega
  ·rw [wi (by omega)] at hx
   subst hx
   refine ⟨_, _, rfl, q0, by omega, by omega, by omega, ?_⟩
   rw [show ((k : Int) + 1).toNat = k + 1 by omega, i4, hitAt_take hlt, List.map_append, List.map_append]; rfl
 ·have hge : k = l.length := by have := of_decide_eq_false h; omega
  rw [hge, List.take_length] at i4
  subst i4
  simp only [rgg_listC]
  refine ⟨⟨numsP_rgg _, by rw [List.length_map]; omega, by rw [List.length_map]; omega⟩, cond_i (fun g => ?_) (fun g => ?_)⟩
  ·have g := of_decide_eq_true g
   have e : engE t l (⟨p0, p1, p2⟩ : P3) = 12 := by rw [show engE t l (⟨p0, p1, p2⟩ : P3) = _ from if_pos q0, show decide ((engR t l (⟨p0, p1, p2⟩ : P3)).lo ≤ (engR t l (⟨p0, p1, p2⟩ : P3)).hi) = false from decide_eq_false (by unfold engR; omega)]; rfl
   rw [show engV t l (⟨p0, p1, p2⟩ : P3) = ⟨0, 0⟩ from if_neg (by rw [e]; decide), e]
   exact LeD.refl _
  ·have g := of_decide_eq_false g
   have e : engE t l (⟨p0, p1, p2⟩ : P3) = 0 := by rw [show engE t l (⟨p0, p1, p2⟩ : P3) = _ from if_pos q0, show decide ((engR t l (⟨p0, p1, p2⟩ : P3)).lo ≤ (engR t l (⟨p0, p1, p2⟩ : P3)).hi) = true from decide_eq_true (by unfold engR; omega)]; rfl
   rw [show engV t l (⟨p0, p1, p2⟩ : P3) = engR t l (⟨p0, p1, p2⟩ : P3) from if_pos e, e]
   exact LeD.refl _
theorem zero_flash_EnergiesAt_0 (t : List Knot) (l : List FHit) (p0 p1 p2 : Int) (v0_0 : List (List CV)) (v0_1 : Int)  (hi : engE0 t l (⟨p0, p1, p2⟩ : P3) = 0 ∧ 0 ≤ v0_1 ∧ v0_1 ≤ l.length ∧ (0 : Int) + v0_1 = l.length + 1 ∧ v0_0 = ((l.take v0_1.toNat).map (fitH t (⟨p0, p1, p2⟩ : P3))).map rgCv) : False := by
 omega
set_option maxHeartbeats 8000000 in
set_option maxRecDepth 100000 in
theorem spec_flash_EnergiesAt (t : List Knot) (l : List FHit) (p0 p1 p2 : Int) : vc_flash_EnergiesAt (J_flash_EnergiesAt t l p0 p1 p2) t l p0 p1 p2 (fun r => LeD r (.tu [.a [.v (.int .i64 ((engV t l (⟨p0, p1, p2⟩ : P3)).lo)), .v (.int .i64 ((engV t l (⟨p0, p1, p2⟩ : P3)).hi))], .c (.v (.int .i64 (engE t l (⟨p0, p1, p2⟩ : P3))))])) := by
 unfold vc_flash_EnergiesAt
 simp only [kns_listC, hits_listC]
 refine ⟨numsP_kns t, numsP_hits l, ⟨numsP_gen [_, _, _], Nat.le_of_ble_eq_true rfl⟩, cond_i (fun h => ?_) (fun h => ?_)⟩
 ·have h : engE0 t l (⟨p0, p1, p2⟩ : P3) ≠ 0 := by simpa [engE0] using h
  have e : engE t l (⟨p0, p1, p2⟩ : P3) = engE0 t l (⟨p0, p1, p2⟩ : P3) := if_neg h
  rw [show engV t l (⟨p0, p1, p2⟩ : P3) = ⟨0, 0⟩ from if_neg (by rw [e]; exact h), e]
  exact LeD.refl _
 ·have h : engE0 t l (⟨p0, p1, p2⟩ : P3) = 0 := by simpa [engE0] using h
  exact ⟨l.length + 1, [], 0, rfl, h, by omega, by omega, by omega, rfl⟩
theorem all_flash_EnergiesAt (t : List Knot) (l : List FHit) (p0 p1 p2 : Int) : AllG (J_flash_EnergiesAt t l p0 p1 p2) (loopsFn Tryz.prog tab St103 ann_flash_EnergiesAt (J_flash_EnergiesAt t l p0 p1 p2) Tryz.f54 (fun r => LeD r (.tu [.a [.v (.int .i64 ((engV t l (⟨p0, p1, p2⟩ : P3)).lo)), .v (.int .i64 ((engV t l (⟨p0, p1, p2⟩ : P3)).hi))], .c (.v (.int .i64 (engE t l (⟨p0, p1, p2⟩ : P3))))]))) := by
 rw [lp_flash_EnergiesAt]
 refine ⟨⟨?_, ?_⟩, trivial⟩
 ·intro F s h
  obtain _ | ⟨g, F⟩ := F
  case cons => exact h.elim
  obtain ⟨w0, w1, rfl, hi⟩ := h
  exact zero_flash_EnergiesAt_0 t l p0 p1 p2 w0 w1 hi
 ·intro n F s h
  obtain _ | ⟨g, F⟩ := F
  case cons => exact h.elim
  obtain ⟨w0, w1, rfl, hi⟩ := h
  rw [er_flash_EnergiesAt_0]
  exact rnd_flash_EnergiesAt_0 t l p0 p1 p2 _ _ _ hi
def con_flash_EnergiesAt : Con := fun args => match args with
 | [.t (.a [.sl 2 n_t c_t]), .t (.c (.sl 7 n_l c_l)), .t (.a [.v (.int .i64 p0), .v (.int .i64 p1), .v (.int .i64 p2)])] => some (.tu [.a [.v (.int .i64 ((engV (listC n_t mkKn c_t) (listC n_l mkHit c_l) (⟨p0, p1, p2⟩ : P3)).lo)), .v (.int .i64 ((engV (listC n_t mkKn c_t) (listC n_l mkHit c_l) (⟨p0, p1, p2⟩ : P3)).hi))], .c (.v (.int .i64 (engE (listC n_t mkKn c_t) (listC n_l mkHit c_l) (⟨p0, p1, p2⟩ : P3))))], some (numsP 2 n_t c_t ∧ numsP 7 n_l c_l), false)
 | _ => none
theorem ok_flash_EnergiesAt : Ok Tryz.prog 54 con_flash_EnergiesAt := by
 refine Ok.fn (ann := ann_flash_EnergiesAt) mixed tabOK VSt103 ValidIt.no (fn := Tryz.f54) (by kernel_rfl) (by kernel_rfl) fit_flash_EnergiesAt fun args r pre fresh h hp => ?_
 unfold con_flash_EnergiesAt at h
 split at h
 ·rename_i n_t c_t n_l c_l p0 p1 p2
  cases h
  obtain ⟨hp0, hp1⟩ := hp
  refine ⟨rfl, J_flash_EnergiesAt (listC n_t mkKn c_t) (listC n_l mkHit c_l) p0 p1 p2, [.t (.a [.sl 2 ((listC n_t mkKn c_t).length) (knsC (listC n_t mkKn c_t))]), .t (.c (.sl 7 ((listC n_l mkHit c_l).length) (hitsC (listC n_l mkHit c_l)))), .t (.a [.v (.int .i64 p0), .v (.int .i64 p1), .v (.int .i64 p2)])], ?_, Nat.le_of_ble_eq_true (by kernel_rfl), ?_, ?_⟩
  ·exact (LeA_cons (leT_a (LeCs.cons ((leL_Knot hp0)) LeCs.nil)) (LeA_cons (leT_c ((leL_FHit hp1))) (LeA_cons (LeD.refl _) LeA_nil)))
  ·rw [ev_flash_EnergiesAt]; exact spec_flash_EnergiesAt (listC n_t mkKn c_t) (listC n_l mkHit c_l) p0 p1 p2
  ·exact all_flash_EnergiesAt (listC n_t mkKn c_t) (listC n_l mkHit c_l) p0 p1 p2
 ·cases h
noncomputable def St104 : Sum := addS St103 54 con_flash_EnergiesAt
theorem VSt104 : Valid Tryz.prog St104 := Valid.add VSt103 ok_flash_EnergiesAt
end Go.Proofs.YtdkpgodakmailaaGreatDoor
set_option linter.unusedVariables false
set_option linter.unusedSimpArgs false
namespace Go.Proofs.YtdkpgodakmailaaGreatDoor
open Go.RowKit Ev
theorem fit_lo {c : Rg} {y e : Int} (hy : 0 ≤ y) (hc : 0 ≤ c.lo) (he : 0 ≤ e ∧ e ≤ 100000) : (e * y + 999) / 1000 ≥ c.lo ↔ min (fitG c y).lo 100001 ≤ e := by
 unfold fitG
 by_cases h : y = 0
 ·subst h
  rw [if_pos rfl]
  by_cases g : c.lo > 0
  ·simp only [if_pos g]; omega
  ·simp only [if_neg g]; omega
 ·rw [if_neg h]
  by_cases g : c.lo > 0
  ·simp only [if_pos g]
   have h1 := Int.ediv_lt_iff_lt_mul (a := (c.lo - 1) * 1000) (b := e) (c := y) (by omega)
   generalize e * y = m at *
   generalize (c.lo - 1) * 1000 / y = q at *
   omega
  ·simp only [if_neg g]
   have := Int.mul_nonneg he.1 hy
   omega
theorem fit_hi {c : Rg} {y e : Int} (hy : 0 ≤ y) (hc : 0 ≤ c.hi) (he : 0 ≤ e ∧ e ≤ 100000) : e * y / 1000 > c.hi ↔ (fitG c y).hi < e := by
 unfold fitG
 by_cases h : y = 0
 ·subst h
  rw [if_pos rfl]
  simp only
  omega
 ·rw [if_neg h]
  simp only
  have h1 := Int.ediv_lt_iff_lt_mul (a := (c.hi + 1) * 1000 - 1) (b := e) (c := y) (by omega)
  generalize e * y = m at *
  generalize ((c.hi + 1) * 1000 - 1) / y = q at *
  omega
end Go.Proofs.YtdkpgodakmailaaGreatDoor
set_option linter.unusedVariables false
set_option linter.unusedSimpArgs false
namespace Go.Proofs.YtdkpgodakmailaaGreatDoor
open Go.RowKit Ev
def vc_ref06_CopyTable (t : List Knot) (post : DV → Prop) : Prop := (roomP 16 (([] : List (List CV)).length + ((List.range t.length).map fun i => fwd ((knsC t) i) 0 2).length)) ∧ (post (.t (.a [.sl 2 ((([] : List (List CV)) ++ ((List.range t.length).map fun i => fwd ((knsC t) i) 0 2)).length) (genC (([] : List (List CV)) ++ ((List.range t.length).map fun i => fwd ((knsC t) i) 0 2)))])))
def ann_ref06_CopyTable : Ann := ⟨fun _ => none, fun _ => none, fun _ => [], noIt, true, fun _ => none, fun _ => none⟩
theorem ev_ref06_CopyTable (J : Inv) (t : List Knot) (post : DV → Prop) : evFn Tryz.prog tab St104 ann_ref06_CopyTable J Tryz.f49 [.t (.a [.sl 2 t.length (knsC t)])] post = vc_ref06_CopyTable t post := by kernel_rfl
theorem fit_ref06_CopyTable : okFn ann_ref06_CopyTable Tryz.f49 = true := by kernel_rfl
theorem lp_ref06_CopyTable (J : Inv) (post : DV → Prop) : AllG J (loopsFn Tryz.prog tab St104 ann_ref06_CopyTable J Tryz.f49 post) = (True) := by kernel_rfl
theorem spec_ref06_CopyTable (t : List Knot) (hp : (t).length ≤ 1000) : vc_ref06_CopyTable t (fun r => LeD r (.t (.a [.sl 2 t.length (knsC t)]))) := by
 unfold vc_ref06_CopyTable
 rw [kns_fwd, List.nil_append]
 refine ⟨?_, ?_⟩
 ·unfold roomP maxLen
  simp
  omega
 ·exact leT_a ⟨fun w N v h => le_kns t w N v h, trivial⟩
def con_ref06_CopyTable : Con := fun args => match args with
 | [.t (.a [.sl 2 n_t c_t])] => some (.t (.a [.sl 2 ((listC n_t mkKn c_t).length) (knsC (listC n_t mkKn c_t))]), some (numsP 2 n_t c_t ∧ ((listC n_t mkKn c_t)).length ≤ 1000), true)
 | _ => none
theorem ok_ref06_CopyTable : Ok Tryz.prog 49 con_ref06_CopyTable := by
 refine Ok.fnFr (ann := ann_ref06_CopyTable) mixed tabOK VSt104 ValidIt.no rfl (fn := Tryz.f49) (by kernel_rfl) (by kernel_rfl) fit_ref06_CopyTable fun args r pre fresh h hp => ?_
 unfold con_ref06_CopyTable at h
 split at h
 ·rename_i n_t c_t
  cases h
  obtain ⟨hp0, hp⟩ := hp
  refine ⟨rfl, (by intro x hx; simp only [List.mem_cons, List.not_mem_nil, or_false] at hx; rcases hx with rfl <;> first | trivial | exact (fun i j _ hj => plain_Knot _ i j)), fun _ _ _ => False, [.t (.a [.sl 2 ((listC n_t mkKn c_t).length) (knsC (listC n_t mkKn c_t))])], ?_, Nat.le_of_ble_eq_true (by kernel_rfl), ?_, ?_⟩
  ·exact (LeA_cons (leT_a (LeCs.cons ((leL_Knot hp0)) LeCs.nil)) LeA_nil)
  ·rw [ev_ref06_CopyTable]; exact spec_ref06_CopyTable (listC n_t mkKn c_t) hp
  ·rw [lp_ref06_CopyTable]; trivial
 ·cases h
noncomputable def Su105 : Sum := addS St104 49 con_ref06_CopyTable
theorem VSu105 : Valid Tryz.prog Su105 := Valid.add VSt104 ok_ref06_CopyTable
def mk_ref06_CheckTable_0 (t : List Knot) (v0_0 : Int) : DS := ⟨[none, some (.t (.c (.p 1 0))), none, none, some (.t (.c (.v (.int .i64 v0_0)))), none, none, none, none, none, none, none, none, none, none, none, none, none, none, none, none, none, none, none, none, none, none, none, none, none, none, none, none, none, none, none, none, none, none, none, none, none, none, none, none, none, none, none, none, none, none, none, none, none, none, none, none, none, none, none, none, none, none, none], [none, some (.box 80 [.sl 2 t.length (knsC t)]), none, none, none, none, none, none, none, none, none, none, none, none, none, none, none, none, none, none, none, none, none, none, none, none, none, none, none, none, none, none, none, none, none, none, none, none, none, none, none, none, none, none, none, none, none, none, none, none, none, none, none, none, none, none, none, none, none, none, none, none, none, none]⟩
def vc_ref06_CheckTable (J : Inv) (t : List Knot) (post : DV → Prop) : Prop := cond (((t.length : Nat) : Int) == (0 : Int)) (post (.tu [.c (.v (.int .i64 0)), .c (.v (.int .i64 10))])) (cond (decide (((t.length : Nat) : Int) > (8 : Int))) (post (.tu [.c (.v (.int .i64 0)), .c (.v (.int .i64 8))])) (∃ n, J 0 (n :: []) (mk_ref06_CheckTable_0 t 0)))
def ann_ref06_CheckTable : Ann := ⟨fun r => lookA r [(11, ([[], [0], [0, 1], [0, 1, 2], [0, 1, 2, 3], [0, 1, 2], [0, 1, 2, 5], [0, 1, 2], [0, 1, 2, 7], [0, 1, 2, 5, 6, 7, 8], [0, 1, 2, 5, 6, 7, 8, 9], [0, 1, 2, 5, 6, 7, 8, 9, 10], [0, 1, 2, 3, 4, 5, 6, 7, 8, 9, 10, 11], [0, 1, 2, 3, 4, 5, 6, 7, 8, 9, 10, 11, 12], [0, 1, 2, 3, 4, 5, 6, 7, 8, 9, 10, 11, 12, 13], [0, 1, 2, 3, 4, 5, 6, 7, 8, 9, 10, 11, 12, 13, 14], [0, 1, 2, 3, 4, 5, 6, 7, 8, 9, 10, 11, 12, 13], [0, 1, 2, 3, 4, 5, 6, 7, 8, 9, 10, 11, 12, 13, 16], [0, 1, 2, 3, 4, 5, 6, 7, 8, 9, 10, 11, 12, 13], [0, 1, 2, 3, 4, 5, 6, 7, 8, 9, 10, 11, 12, 13, 18], [0, 1, 2, 3, 4, 5, 6, 7, 8, 9, 10, 11, 12, 13, 16, 17, 18, 19], [0, 1, 2, 3, 4, 5, 6, 7, 8, 9, 10, 11, 12, 13, 16, 17, 18, 19, 20], [0, 1, 2, 3, 4, 5, 6, 7, 8, 9, 10, 11, 12, 13, 16, 17, 18, 19, 20, 21], [0, 1, 2, 3, 4, 5, 6, 7, 8, 9, 10, 11, 12, 13, 14, 15, 16, 17, 18, 19, 20, 21, 22], [0, 1, 2, 3, 4, 5, 6, 7, 8, 9, 10, 11, 12, 13, 14, 15, 16, 17, 18, 19, 20, 21, 22, 23], [0, 1, 2, 3, 4, 5, 6, 7, 8, 9, 10, 11, 12, 13, 14, 15, 16, 17, 18, 19, 20, 21, 22, 23, 24]], [[], [], [], [], [], [], [], [], [], [], [], [], [], [], [], [], [], [], [], [], [], [], [], [], [], []]))], fun b => lookA b [(0, (none, some ⟨[1, 4], [1], []⟩))], fun _ => [], noIt, false, fun r => lookA r [(9, (5, [35])), (11, (3, [62]))], fun _ => none⟩
theorem ev_ref06_CheckTable (J : Inv) (t : List Knot) (post : DV → Prop) : evFn Tryz.prog tab Su105 ann_ref06_CheckTable J Tryz.f95 [.t (.a [.sl 2 t.length (knsC t)])] post = vc_ref06_CheckTable J t post := by kernel_rfl
theorem fit_ref06_CheckTable : okFn ann_ref06_CheckTable Tryz.f95 = true := by kernel_rfl
def rd_ref06_CheckTable_0 (J : Inv) (t : List Knot) (v0_0 : Int) (nn0 : Nat) (post : DV → Prop) : Prop := cond (decide (v0_0 < ((t.length : Nat) : Int))) ((0 ≤ v0_0 ∧ v0_0 < ((t.length : Nat) : Int)) ∧ ((cond (!(inB ((knAt t v0_0.toNat).d) (0 : Int) (100000 : Int))) ((true = true) ∧ (True)) (True)) ∧ (lt ((bif (!(inB ((knAt t v0_0.toNat).d) (0 : Int) (100000 : Int))) then true else (!(inB ((knAt t v0_0.toNat).y) (0 : Int) (10000 : Int))))) fun x1 => cond x1 (post (.tu [.c (.v (.int .i64 v0_0)), .c (.v (.int .i64 2))])) ((cond (decide (v0_0 > (0 : Int))) (lt (IntKind.i64.wrap (v0_0 - (1 : Int))) fun x4 => (0 ≤ x4 ∧ x4 < ((t.length : Nat) : Int)) ∧ (cond (decide (((knAt t v0_0.toNat).d) ≤ ((knAt t x4.toNat).d))) ((true = true) ∧ (True)) (lt (IntKind.i64.wrap (v0_0 - (1 : Int))) fun x5 => (0 ≤ x5 ∧ x5 < ((t.length : Nat) : Int)) ∧ (True)))) ((false = false) ∧ (True))) ∧ (lt ((bif decide (v0_0 > (0 : Int)) then (bif decide (((knAt t v0_0.toNat).d) ≤ ((knAt t ((IntKind.i64.wrap (v0_0 - (1 : Int))).toNat)).d)) then true else decide (((knAt t v0_0.toNat).y) > ((knAt t ((IntKind.i64.wrap (v0_0 - (1 : Int))).toNat)).y))) else false)) fun x6 => cond x6 (post (.tu [.c (.v (.int .i64 v0_0)), .c (.v (.int .i64 9))])) (lt (IntKind.i64.wrap (v0_0 + (1 : Int))) fun x7 => J 0 (nn0 :: []) (mk_ref06_CheckTable_0 t x7))))))) (post (.tu [.c (.v (.int .i64 0)), .c (.v (.int .i64 0))]))
theorem er_ref06_CheckTable_0 (J : Inv) (t : List Knot) (v0_0 : Int) (nn0 : Nat) (post : DV → Prop) : round Tryz.prog tab Su105 ann_ref06_CheckTable J Tryz.f95 post 0 (nn0 :: []) (mk_ref06_CheckTable_0 t v0_0) = rd_ref06_CheckTable_0 J t v0_0 nn0 post := by kernel_rfl
theorem lp_ref06_CheckTable (J : Inv) (post : DV → Prop) : AllG J (loopsFn Tryz.prog tab Su105 ann_ref06_CheckTable J Tryz.f95 post) = (((∀ F s, ¬ J 0 (0 :: F) s) ∧ ∀ n F s, J 0 ((n + 1) :: F) s → round Tryz.prog tab Su105 ann_ref06_CheckTable J Tryz.f95 post 0 (n :: F) s) ∧ True) := by kernel_rfl
def J_ref06_CheckTable (t : List Knot) : Inv := fun b F s => match b, F with
 | 0, [nn0] => ∃ (v0_0 : Int), s = mk_ref06_CheckTable_0 t v0_0 ∧ (cntE t.length 8 = 0 ∧ 0 ≤ v0_0 ∧ v0_0 ≤ t.length ∧ (nn0 : Int) + v0_0 = t.length + 1 ∧ ∀ j : Nat, (j : Int) < v0_0 → ktE t j = 0)
 | _, _ => False
set_option maxHeartbeats 8000000 in
set_option maxRecDepth 100000 in
theorem rnd_ref06_CheckTable_0 (t : List Knot) (v0_0 : Int) (nn0 : Nat) (hi : cntE t.length 8 = 0 ∧ 0 ≤ v0_0 ∧ v0_0 ≤ t.length ∧ ((nn0 + 1) : Int) + v0_0 = t.length + 1 ∧ ∀ j : Nat, (j : Int) < v0_0 → ktE t j = 0) : rd_ref06_CheckTable_0 (J_ref06_CheckTable t) t v0_0 nn0 (fun r => LeD r (.tu [.c (.v (.int .i64 (tabI t))), .c (.v (.int .i64 (tabE t)))])) := by
 obtain ⟨i0, i1, i2, i3, i4⟩ := hi
 obtain ⟨k, rfl⟩ : ∃ k : Nat, v0_0 = k := ⟨v0_0.toNat, by omega⟩
 have hk : (k : Int).toNat = k := rfl
 have l8 : t.length ≤ 8 := by
  have h2 := (fn2 i0).2
  rw [unl_0 (by decide)] at h2
  have := of_decide_eq_true h2
  omega
 unfold rd_ref06_CheckTable_0
 rw [hk]
 have bad : ∀ e, e ≠ 0 → k < t.length → ktE t k = e → LeD (.tu [.c (.v (.int .i64 (k : Int))), .c (.v (.int .i64 e))]) (.tu [.c (.v (.int .i64 (tabI t))), .c (.v (.int .i64 (tabE t)))]) := fun e he hlt q => by
  subst q
  rw [show tabI t = _ from if_pos i0, show tabE t = _ from if_pos i0]
  exact le2 (scanI_at (fun j hj => i4 j (by omega)) hlt he).symm (scan_at (fun j hj => i4 j (by omega)) hlt he).symm
 refine cond_i (fun h => ?_) (fun h => ?_)
 ·have hlt : k < t.length := by have := of_decide_eq_true h; omega
  have eK : ktE t k = knE (k : Int) (knAt t (k - 1)) (knAt t k) := rfl
  refine ⟨by omega, cond_i (fun _ => by trivial) (fun _ => trivial), lt_i fun x1 h1 => cond_i (fun e => bad 2 (by decide) hlt ?_) (fun e => ?_)⟩
  ·rw [eK]; unfold knE
   rw [← h1] at e
   have : (inB (knAt t k).d 0 100000 && inB (knAt t k).y 0 10000) = false := by
    cases q : inB (knAt t k).d 0 100000
    ·rfl
    ·rw [q] at e; simpa using e
   rw [this]; rfl
  ·have e0 : (inB (knAt t k).d 0 100000 && inB (knAt t k).y 0 10000) = true := by
    rw [← h1] at e
    cases q : inB (knAt t k).d 0 100000
    ·rw [q] at e; cases e
    ·rw [q] at e; simpa using e
   have eK2 : ktE t k = unl (decide ((k : Int) = 0) || (decide ((knAt t k).d > (knAt t (k - 1)).d) && decide ((knAt t k).y ≤ (knAt t (k - 1)).y))) 9 := by
    rw [eK]; unfold knE; rw [e0]
    cases (decide ((k : Int) = 0) || (decide ((knAt t k).d > (knAt t (k - 1)).d) && decide ((knAt t k).y ≤ (knAt t (k - 1)).y))) <;> rfl
   refine ⟨cond_i (fun p => lt_i fun x4 h4 => ?_) (fun _ => by trivial), lt_i fun x6 h6 => cond_i (fun c => bad 9 (by decide) hlt ?_) (fun c => lt_i fun x hx => ?_)⟩
   ·have p := of_decide_eq_true p
    rw [wi (by omega)] at h4
    refine ⟨by omega, cond_i (fun _ => by trivial) (fun _ => lt_i fun x5 h5 => ?_)⟩
    rw [wi (by omega)] at h5
    exact ⟨by omega, trivial⟩
   ·have hp0 : (k : Int) > 0 := by
     by_cases z : (k : Int) > 0
     ·exact z
     ·rw [decide_eq_false z] at h6; rw [← h6] at c; cases c
    rw [decide_eq_true hp0, wi (by omega), show ((k : Int) - 1).toNat = k - 1 by omega] at h6
    rw [eK2, decide_eq_false (show ¬ (k : Int) = 0 by omega)]
    have : (decide ((knAt t k).d > (knAt t (k - 1)).d) && decide ((knAt t k).y ≤ (knAt t (k - 1)).y)) = false := by
     rw [← h6] at c
     simp only [_root_.cond_true] at c
     by_cases z : (knAt t k).d ≤ (knAt t (k - 1)).d
     ·rw [decide_eq_false (show ¬ (knAt t k).d > (knAt t (k - 1)).d by omega)]; rfl
     ·rw [decide_eq_false z] at c
      have c : decide ((knAt t k).y > (knAt t (k - 1)).y) = true := c
      have := of_decide_eq_true c
      rw [decide_eq_false (show ¬ (knAt t k).y ≤ (knAt t (k - 1)).y by omega), Bool.and_false]
    rw [this]; rfl
   ·have v : ktE t k = 0 := by
     rw [eK2]
     by_cases z : (k : Int) > 0
     ·rw [decide_eq_true z, wi (by omega), show ((k : Int) - 1).toNat = k - 1 by omega] at h6
      rw [← h6] at c
      simp only [_root_.cond_true] at c
      by_cases z : (knAt t k).d ≤ (knAt t (k - 1)).d
      ·rw [decide_eq_true z] at c; cases c
      ·rw [decide_eq_false z] at c
       have c : decide ((knAt t k).y > (knAt t (k - 1)).y) = false := c
       have := of_decide_eq_false c
       rw [decide_eq_true (show (knAt t k).d > (knAt t (k - 1)).d by omega), decide_eq_true (show (knAt t k).y ≤ (knAt t (k - 1)).y by omega), Bool.and_true, Bool.or_true]; rfl
     ·rw [decide_eq_true (show (k : Int) = 0 by omega)]; rfl
    rw [wi (by omega)] at hx
    subst hx
    refine ⟨_, rfl, i0, by omega, by omega, by omega, fun j hj => ?_⟩
    by_cases q : j = k
    ·rw [q]; exact v
    ·exact i4 j (by omega)
 ·have hge : k = t.length := by have := of_decide_eq_false h; omega
  rw [show tabI t = _ from if_pos i0, show tabE t = _ from if_pos i0]
  exact le2 (scanI_end fun j hj => i4 j (by omega)).symm (scan_end fun j hj => i4 j (by omega)).symm
theorem zero_ref06_CheckTable_0 (t : List Knot) (v0_0 : Int)  (hi : cntE t.length 8 = 0 ∧ 0 ≤ v0_0 ∧ v0_0 ≤ t.length ∧ (0 : Int) + v0_0 = t.length + 1 ∧ ∀ j : Nat, (j : Int) < v0_0 → ktE t j = 0) : False := by
 omega
set_option maxHeartbeats 8000000 in
set_option maxRecDepth 100000 in
theorem spec_ref06_CheckTable (t : List Knot) : vc_ref06_CheckTable (J_ref06_CheckTable t) t (fun r => LeD r (.tu [.c (.v (.int .i64 (tabI t))), .c (.v (.int .i64 (tabE t)))])) := by
 unfold vc_ref06_CheckTable
 have bad : ∀ e, e ≠ 0 → cntE t.length 8 = e → LeD (.tu [.c (.v (.int .i64 0)), .c (.v (.int .i64 e))]) (.tu [.c (.v (.int .i64 (tabI t))), .c (.v (.int .i64 (tabE t)))]) := fun e he q => by
  subst q
  exact le2 (if_neg he).symm (if_neg he).symm
 refine cond_i (fun h => bad 10 (by decide) ?_) (fun h => cond_i (fun h2 => bad 8 (by decide) ?_) (fun h2 => ?_))
 ·have h : (t.length : Int) = 0 := by simpa using h
  unfold cntE; rw [h]; rfl
 ·have h : (t.length : Int) ≠ 0 := by simpa using h
  have h2 := of_decide_eq_true h2
  unfold cntE; rw [decide_eq_true (show (t.length : Int) > 0 by omega), decide_eq_false (show ¬ (t.length : Int) ≤ 8 by omega)]; rfl
 ·have h : (t.length : Int) ≠ 0 := by simpa using h
  have h2 := of_decide_eq_false h2
  refine ⟨t.length + 1, 0, rfl, ?_, by omega, by omega, by omega, fun j hj => by omega⟩
  unfold cntE; rw [decide_eq_true (show (t.length : Int) > 0 by omega), decide_eq_true (show (t.length : Int) ≤ 8 by omega)]; rfl
theorem all_ref06_CheckTable (t : List Knot) : AllG (J_ref06_CheckTable t) (loopsFn Tryz.prog tab Su105 ann_ref06_CheckTable (J_ref06_CheckTable t) Tryz.f95 (fun r => LeD r (.tu [.c (.v (.int .i64 (tabI t))), .c (.v (.int .i64 (tabE t)))]))) := by
 rw [lp_ref06_CheckTable]
 refine ⟨⟨?_, ?_⟩, trivial⟩
 ·intro F s h
  obtain _ | ⟨g, F⟩ := F
  case cons => exact h.elim
  obtain ⟨w0, rfl, hi⟩ := h
  exact zero_ref06_CheckTable_0 t w0 hi
 ·intro n F s h
  obtain _ | ⟨g, F⟩ := F
  case cons => exact h.elim
  obtain ⟨w0, rfl, hi⟩ := h
  rw [er_ref06_CheckTable_0]
  exact rnd_ref06_CheckTable_0 t _ _ hi
def con_ref06_CheckTable : Con := fun args => match args with
 | [.t (.a [.sl 2 n_t c_t])] => some (.tu [.c (.v (.int .i64 (tabI (listC n_t mkKn c_t)))), .c (.v (.int .i64 (tabE (listC n_t mkKn c_t))))], some (numsP 2 n_t c_t), false)
 | _ => none
theorem ok_ref06_CheckTable : Ok Tryz.prog 95 con_ref06_CheckTable := by
 refine Ok.fn (ann := ann_ref06_CheckTable) mixed tabOK VSu105 ValidIt.no (fn := Tryz.f95) (by kernel_rfl) (by kernel_rfl) fit_ref06_CheckTable fun args r pre fresh h hp => ?_
 unfold con_ref06_CheckTable at h
 split at h
 ·rename_i n_t c_t
  cases h
  have hp0 := hp
  refine ⟨rfl, J_ref06_CheckTable (listC n_t mkKn c_t), [.t (.a [.sl 2 ((listC n_t mkKn c_t).length) (knsC (listC n_t mkKn c_t))])], ?_, Nat.le_of_ble_eq_true (by kernel_rfl), ?_, ?_⟩
  ·exact (LeA_cons (leT_a (LeCs.cons ((leL_Knot hp0)) LeCs.nil)) LeA_nil)
  ·rw [ev_ref06_CheckTable]; exact spec_ref06_CheckTable (listC n_t mkKn c_t)
  ·exact all_ref06_CheckTable (listC n_t mkKn c_t)
 ·cases h
noncomputable def Su106 : Sum := addS Su105 95 con_ref06_CheckTable
theorem VSu106 : Valid Tryz.prog Su106 := Valid.add VSu105 ok_ref06_CheckTable
end Go.Proofs.YtdkpgodakmailaaGreatDoor
set_option linter.unusedVariables false
set_option linter.unusedSimpArgs false
namespace Go.Proofs.YtdkpgodakmailaaGreatDoor
open Go.RowKit Ev
def dsF (p : P3) (h : FHit) : Int := rt (sqD p h.p)
theorem dsF_rg {p : P3} {h : FHit} (hp : p.bd 15000) (hh : h.p.bd 15000) : 0 ≤ dsF p h ∧ dsF p h ≤ 100000 := by
 have g := sqD_rg hp hh
 obtain ⟨g1, g2, g3, g4⟩ := rt_spec (n := sqD p h.p) (by omega) (by omega)
 refine ⟨g1, ?_⟩
 unfold dsF
 rcases Int.le_total (rt (sqD p h.p)) 100000 with h1 | h1
 ·exact h1
 ·have := Int.mul_le_mul h1 h1 (by decide) (by omega); omega
def fitB (t : List Knot) (p : P3) (e : Int) (h : FHit) : Bool := decide (lgtE t (dsF p h) e = 0) && (decide ((lgtV t (dsF p h) e).lo ≤ h.c.hi) && decide ((lgtV t (dsF p h) e).hi ≥ h.c.lo))
def fitsB (t : List Knot) (l : List FHit) (p : P3) (e : Int) : Bool := l.all (fitB t p e)
def okH (l : List FHit) : Prop := 0 < l.length ∧ l.length ≤ 8 ∧ ∀ h ∈ l, h.err = 0
theorem okH_iff {l : List FHit} : hitsE l = 0 ↔ okH l := by
 constructor
 ·intro h
  obtain ⟨⟨h1, h2⟩, h3⟩ := hitsE_ok h
  refine ⟨h1, h2, fun x hx => ?_⟩
  obtain ⟨i, hi, rfl⟩ := List.getElem_of_mem hx
  have := h3 i hi
  rwa [show hitAt l i = l[i] by simp [hitAt, List.getD, hi]] at this
 ·rintro ⟨h1, h2, h3⟩
  unfold hitsE
  have hc : cntE l.length 8 = 0 := by unfold cntE; rw [decide_eq_true (show (l.length : Int) > 0 by omega), decide_eq_true (show (l.length : Int) ≤ 8 by omega)]; rfl
  rw [if_pos hc]
  exact scan_end fun i hi => by rw [show hitAt l i = l[i] by simp [hitAt, List.getD, hi]]; exact h3 _ (List.getElem_mem hi)
theorem lgt_in {t : List Knot} {x e : Int} (ht : tabE t = 0) (hx : 0 ≤ x ∧ x ≤ 100000) (he : 0 ≤ e ∧ e ≤ 100000) : lgtE t x e = 0 ∧ lgtV t x e = lgtR t x e := by
 have e1 : lgtE t x e = 0 := by unfold lgtE; rw [ht, inB_true.2 hx, inB_true.2 he]; rfl
 exact ⟨e1, if_pos e1⟩
theorem lgtR_rg {t : List Knot} {x e : Int} (ht : tabE t = 0) (he : 0 ≤ e ∧ e ≤ 50000) : 0 ≤ (lgtR t x e).lo ∧ (lgtR t x e).lo ≤ (lgtR t x e).hi ∧ (lgtR t x e).hi ≤ (lgtR t x e).lo + 1 ∧ (lgtR t x e).hi ≤ 500000 := by
 have yr := yld_rg ht x
 have m1 := Int.mul_nonneg (a := e) (b := yldF x t) he.1 yr.1
 have m2 := Int.mul_le_mul (a := e) (b := yldF x t) (c := 50000) (d := 10000) he.2 yr.2 yr.1 (by decide)
 unfold lgtR
 simp only
 generalize e * yldF x t = m at *
 omega
theorem comm_iff : ∀ {l : List Rg} {e : Int}, 0 < l.length → ((comm l).lo ≤ e ∧ e ≤ (comm l).hi ↔ ∀ g ∈ l, g.lo ≤ e ∧ e ≤ g.hi) := by
 have key : ∀ (l : List Rg) (a : Rg) (e : Int), ((l.foldl meetR a).lo ≤ e ∧ e ≤ (l.foldl meetR a).hi ↔ (a.lo ≤ e ∧ e ≤ a.hi) ∧ ∀ g ∈ l, g.lo ≤ e ∧ e ≤ g.hi) := by
  intro l
  induction l with
  | nil => intro a e; simp
  | cons g l ih =>
   intro a e
   rw [List.foldl_cons, ih]
   simp only [List.mem_cons, forall_eq_or_imp]
   have : ((meetR a g).lo ≤ e ∧ e ≤ (meetR a g).hi) ↔ (a.lo ≤ e ∧ e ≤ a.hi) ∧ g.lo ≤ e ∧ e ≤ g.hi := by
    show (max a.lo g.lo ≤ e ∧ e ≤ min a.hi g.hi) ↔ _
    omega
   rw [this, and_assoc]
 intro l e h0
 cases l with
 | nil => simp at h0
 | cons g l =>
  have := key l g e
  simp only [List.mem_cons, forall_eq_or_imp]
  exact this
theorem fits_iff {t : List Knot} {l : List FHit} {p : P3} {e : Int} (ht : tabE t = 0) (hl : okH l) (hp : p.bd 15000) (he : 0 ≤ e ∧ e ≤ 100000) : fitsB t l p e = true ↔ (engR t l p).lo ≤ e ∧ e ≤ (engR t l p).hi := by
 unfold engR
 rw [comm_iff (by rw [List.length_map]; exact hl.1)]
 unfold fitsB
 rw [List.all_eq_true]
 simp only [List.mem_map, forall_exists_index, and_imp, forall_apply_eq_imp_iff₂]
 refine forall_congr' fun h => forall_congr' fun hh => ?_
 obtain ⟨b1, _, b3⟩ := hit_ok (hl.2.2 h hh)
 have yr := yld_rg ht (dsF p h)
 obtain ⟨l1, l2⟩ := lgt_in ht (dsF_rg hp (b1.mono (B := 15000) (by decide))) he
 unfold fitB
 rw [l1, l2]
 simp only [Bool.and_eq_true, decide_eq_true_eq, true_and]
 have k1 := fit_lo (c := h.c) yr.1 b3.1 he
 have k2 := fit_hi (c := h.c) yr.1 (show 0 ≤ h.c.hi by omega) he
 show (e * yldF (dsF p h) t / 1000 ≤ h.c.hi ∧ (e * yldF (dsF p h) t + 999) / 1000 ≥ h.c.lo) ↔ (fitG h.c (yldF (dsF p h) t)).lo ≤ e ∧ e ≤ (fitG h.c (yldF (dsF p h) t)).hi
 rw [k1]
 have k3 : e * yldF (dsF p h) t / 1000 ≤ h.c.hi ↔ e ≤ (fitG h.c (yldF (dsF p h) t)).hi := by
  rw [← Int.not_lt, ← Int.not_lt]
  exact not_congr k2
 rw [k3]
 omega
theorem mdF_3 (a : Int) : 0 ≤ mdF a 3 ∧ mdF a 3 < 3 := by
 have h1 := Int.tmod_lt_of_pos a (show (0 : Int) < 3 by decide)
 have h2 : -3 < Int.tmod a 3 := by
  have := Int.tmod_lt_of_pos (-a) (show (0 : Int) < 3 by decide)
  rw [Int.neg_tmod] at this
  omega
 unfold mdF
 split
 ·rw [wi (by omega)]; omega
 ·omega
theorem err_c {h : FHit} {c : Rg} (e : h.err = 0) (hc : 0 ≤ c.lo ∧ c.lo ≤ c.hi ∧ c.hi ≤ 1000000) : (⟨h.p, h.t, c⟩ : FHit).err = 0 := by
 obtain ⟨b1, b2, b3⟩ := hit_ok e
 unfold FHit.err rgIn rgE
 simp only
 rw [posE_0.2 b1, (unl_0 (by decide)).2 (show (inB h.t.lo 0 1000000000 && inB h.t.hi 0 1000000000 && (inB c.lo 0 1000000 && inB c.hi 0 1000000)) = true by simp only [Bool.and_eq_true, inB_true]; omega), (unl_0 (by decide)).2 (decide_eq_true b2.2.1), (unl_0 (by decide)).2 (decide_eq_true hc.2.1)]
 rfl
theorem set_next {g : FHit → FHit} {l : List FHit} {k : Nat} (hk : k < l.length) : (((l.take k).map g ++ l.drop k).map hitCv).set k (hitCv (g (hitAt l k))) = ((l.take (k + 1)).map g ++ l.drop (k + 1)).map hitCv := by
 have e : l.drop k = hitAt l k :: l.drop (k + 1) := by rw [List.drop_eq_getElem_cons hk]; simp [hitAt, List.getD, hk]
 have hl : (((l.take k).map g).map hitCv).length = k := by rw [List.length_map, List.length_map, List.length_take]; omega
 rw [List.map_append, List.set_append_right _ _ (by omega), hl, Nat.sub_self, e, List.map_cons, List.set_cons_zero, hitAt_take hk]
 simp
theorem get_next {g : FHit → FHit} {l : List FHit} {k : Nat} (hk : k < l.length) : (((l.take k).map g ++ l.drop k).map hitCv).getD k [] = hitCv (hitAt l k) := by
 have hl : ((l.take k).map g).length = k := by rw [List.length_map, List.length_take]; omega
 rw [List.getD_eq_getElem?_getD, List.getElem?_map, List.getElem?_append_right (by omega), hl, Nat.sub_self, List.getElem?_drop, Nat.add_zero]
 simp [hitAt, List.getD, hk]
theorem put_c (h : FHit) (a b : Int) : put (hitCv h) 5 [.v (.int .i64 a), .v (.int .i64 b)] = hitCv ⟨h.p, h.t, ⟨a, b⟩⟩ := rfl
theorem next_len {g : FHit → FHit} {l : List FHit} {k : Nat} : (((l.take k).map g ++ l.drop k).map hitCv).length = l.length := by
 simp only [List.length_map, List.length_append, List.length_take, List.length_drop]; omega
end Go.Proofs.YtdkpgodakmailaaGreatDoor
set_option linter.unusedVariables false
set_option linter.unusedSimpArgs false
namespace Go.Proofs.YtdkpgodakmailaaGreatDoor
open Go.RowKit Ev
def vc_ref06_TableErr (t : List Knot) (post : DV → Prop) : Prop := (numsP 2 t.length (knsC t)) ∧ (post (.t (.c (.v (.int .i64 (tabE (listC t.length mkKn (knsC t))))))))
def ann_ref06_TableErr : Ann := ⟨fun _ => none, fun _ => none, fun _ => [], noIt, false, fun _ => none, fun _ => none⟩
theorem ev_ref06_TableErr (J : Inv) (t : List Knot) (post : DV → Prop) : evFn Tryz.prog tab Su106 ann_ref06_TableErr J Tryz.f41 [.t (.a [.sl 2 t.length (knsC t)])] post = vc_ref06_TableErr t post := by kernel_rfl
theorem fit_ref06_TableErr : okFn ann_ref06_TableErr Tryz.f41 = true := by kernel_rfl
theorem lp_ref06_TableErr (J : Inv) (post : DV → Prop) : AllG J (loopsFn Tryz.prog tab Su106 ann_ref06_TableErr J Tryz.f41 post) = (True) := by kernel_rfl
theorem spec_ref06_TableErr (t : List Knot) : vc_ref06_TableErr t (fun r => LeD r (.t (.c (.v (.int .i64 (tabE t)))))) := by
 unfold vc_ref06_TableErr
 rw [kns_listC]
 exact ⟨numsP_kns t, LeD.refl _⟩
def con_ref06_TableErr : Con := fun args => match args with
 | [.t (.a [.sl 2 n_t c_t])] => some (.t (.c (.v (.int .i64 (tabE (listC n_t mkKn c_t))))), some (numsP 2 n_t c_t), false)
 | _ => none
theorem ok_ref06_TableErr : Ok Tryz.prog 41 con_ref06_TableErr := by
 refine Ok.fn (ann := ann_ref06_TableErr) mixed tabOK VSu106 ValidIt.no (fn := Tryz.f41) (by kernel_rfl) (by kernel_rfl) fit_ref06_TableErr fun args r pre fresh h hp => ?_
 unfold con_ref06_TableErr at h
 split at h
 ·rename_i n_t c_t
  cases h
  have hp0 := hp
  refine ⟨rfl, fun _ _ _ => False, [.t (.a [.sl 2 ((listC n_t mkKn c_t).length) (knsC (listC n_t mkKn c_t))])], ?_, Nat.le_of_ble_eq_true (by kernel_rfl), ?_, ?_⟩
  ·exact (LeA_cons (leT_a (LeCs.cons ((leL_Knot hp0)) LeCs.nil)) LeA_nil)
  ·rw [ev_ref06_TableErr]; exact spec_ref06_TableErr (listC n_t mkKn c_t)
  ·rw [lp_ref06_TableErr]; trivial
 ·cases h
noncomputable def Sw107 : Sum := addS Su106 41 con_ref06_TableErr
theorem VSw107 : Valid Tryz.prog Sw107 := Valid.add VSu106 ok_ref06_TableErr
def vc_ref06_CopyHits_b (l : List FHit) (post : DV → Row → Prop) : Prop := (roomP 56 (([] : List (List CV)).length + ((List.range l.length).map fun i => fwd ((hitsC l) i) 0 7).length)) ∧ (post (.t (.c (.os 0))) (.gen 96 7 (([] : List (List CV)) ++ ((List.range l.length).map fun i => fwd ((hitsC l) i) 0 7))))
def ann_ref06_CopyHits_b : Ann := ⟨fun _ => none, fun _ => none, fun _ => [], noIt, false, fun _ => none, fun _ => none⟩
theorem ev_ref06_CopyHits_b (J : Inv) (l : List FHit) (post : DV → Row → Prop) : evFnO Tryz.prog tab Sw107 ann_ref06_CopyHits_b J Tryz.f32 [.t (.c (.sl 7 l.length (hitsC l)))] post = vc_ref06_CopyHits_b l post := by kernel_rfl
theorem fit_ref06_CopyHits_b : okFn ann_ref06_CopyHits_b Tryz.f32 = true := by kernel_rfl
theorem lp_ref06_CopyHits_b (J : Inv) (post : DV → Row → Prop) : AllG J (loopsFnO Tryz.prog tab Sw107 ann_ref06_CopyHits_b J Tryz.f32 post) = (True) := by kernel_rfl
theorem spec_ref06_CopyHits_b (l : List FHit) (hp : (l).length ≤ 1000) : vc_ref06_CopyHits_b l (fun r' R' => r' = (.t (.c (.os 0))) ∧ R' = (.gen 96 7 (l.map hitCv))) := by
 unfold vc_ref06_CopyHits_b
 rw [hits_fwd, List.nil_append]
 refine ⟨?_, rfl, rfl⟩
 unfold roomP maxLen
 simp
 omega
def con_ref06_CopyHits_b : Con := fun args => match args with
 | [.t (.c (.sl 7 n_l c_l))] => some (.t (.c (.os 0)), some (numsP 7 n_l c_l ∧ ((listC n_l mkHit c_l)).length ≤ 1000), .own (.gen 96 7 ((listC n_l mkHit c_l).map hitCv)))
 | _ => none
theorem ok_ref06_CopyHits_b : Ok Tryz.prog 32 con_ref06_CopyHits_b := by
 refine Ok.fnO (ann := ann_ref06_CopyHits_b) mixed tabOK VSw107 ValidIt.no (fn := Tryz.f32) (by kernel_rfl) (by kernel_rfl) fit_ref06_CopyHits_b fun args r pre fresh h hp => ?_
 unfold con_ref06_CopyHits_b at h
 split at h
 ·rename_i n_l c_l
  cases h
  obtain ⟨hp0, hp⟩ := hp
  refine ⟨_, rfl, plainR_hits _ _, fun _ _ _ => False, [.t (.c (.sl 7 ((listC n_l mkHit c_l).length) (hitsC (listC n_l mkHit c_l))))], ?_, Nat.le_of_ble_eq_true (by kernel_rfl), ?_, ?_⟩
  ·exact (LeA_cons (leT_c ((leL_FHit hp0))) LeA_nil)
  ·rw [ev_ref06_CopyHits_b]; exact spec_ref06_CopyHits_b (listC n_l mkHit c_l) hp
  ·rw [lp_ref06_CopyHits_b]; trivial
 ·cases h
end Go.Proofs.YtdkpgodakmailaaGreatDoor
set_option linter.unusedVariables false
set_option linter.unusedSimpArgs false
namespace Go.Proofs.YtdkpgodakmailaaGreatDoor
open Go.RowKit Ev
def sprF (sp : List (List Rg)) (k : Nat) : Int := max 0 ((comm (rlAt sp k)).lo - (comm (rlAt sp k)).hi)
def sprY (sp : List (List Rg)) (i : Nat) : List TV := [.c (.v (.int .i64 (i : Int))), .c (.v (.int .i64 (sprF sp i)))]
theorem comm_rg {l : List Rg} {K : Int} (h0 : 0 < l.length) (h : ∀ g ∈ l, -K ≤ g.lo ∧ g.lo ≤ K ∧ -K ≤ g.hi ∧ g.hi ≤ K) : -K ≤ (comm l).lo ∧ (comm l).lo ≤ K ∧ -K ≤ (comm l).hi ∧ (comm l).hi ≤ K := by
 have key : ∀ (l : List Rg) (a : Rg), (-K ≤ a.lo ∧ a.lo ≤ K ∧ -K ≤ a.hi ∧ a.hi ≤ K) → (∀ g ∈ l, -K ≤ g.lo ∧ g.lo ≤ K ∧ -K ≤ g.hi ∧ g.hi ≤ K) → -K ≤ (l.foldl meetR a).lo ∧ (l.foldl meetR a).lo ≤ K ∧ -K ≤ (l.foldl meetR a).hi ∧ (l.foldl meetR a).hi ≤ K := by
  intro l
  induction l with
  | nil => exact fun a h _ => h
  | cons g l ih =>
   intro a ha hl
   have hg := hl g (by simp)
   refine ih _ ?_ fun x hx => hl x (by simp [hx])
   show -K ≤ max a.lo g.lo ∧ max a.lo g.lo ≤ K ∧ -K ≤ min a.hi g.hi ∧ min a.hi g.hi ≤ K
   omega
 cases l with
 | nil => simp at h0
 | cons g l => exact key l g (h g (by simp)) fun x hx => h x (by simp [hx])
set_option maxRecDepth 100000 in
set_option maxHeartbeats 2000000 in
theorem seq_spreads (w : World) (N : Nat → Prop) (vs : List Value) (sp : List (List Rg)) (x y z a b c d : CV) (hsp : ∀ k, k < sp.length → 0 < (rlAt sp k).length ∧ (rlAt sp k).length ≤ 8 ∧ ∀ g ∈ rlAt sp k, -2000000000 ≤ g.lo ∧ g.lo ≤ 2000000000 ∧ -2000000000 ≤ g.hi ∧ g.hi ≤ 2000000000) (hl : sp.length ≤ 1000)
  (hv : All2 (RelF w N) [x, y, z, a, b, c, .sl 1 sp.length (rlsC sp)] vs) :
  SeqIt Tryz.prog 148 #[.agg vs.toArray] #[] sp.length (fun i => ((sprY sp i).map tvVal).toArray) (fun A B => A.heap.size ≤ B.heap.size ∧ ∀ b, b < w.heap.size → N b → B.heap[b]? = A.heap[b]?) w := by
 intro l J Jx W hb hJ hJx hgJ hgX hY h0
 refine callsIn_of_wp Tryz.func148 rfl trivial ?_ rfl
 obtain ⟨v0, us0, rfl, r0, hv0⟩ := hv.cons_inv
 obtain ⟨v1, us1, rfl, r1, hv1⟩ := hv0.cons_inv
 obtain ⟨v2, us2, rfl, r2, hv2⟩ := hv1.cons_inv
 obtain ⟨v3, us3, rfl, r3, hv3⟩ := hv2.cons_inv
 obtain ⟨v4, us4, rfl, r4, hv4⟩ := hv3.cons_inv
 obtain ⟨v5, us5, rfl, r5, hv5⟩ := hv4.cons_inv
 obtain ⟨v6, us6, rfl, r6, hv6⟩ := hv5.cons_inv
 obtain rfl := hv6.nil_inv
 obtain ⟨ao, cap, rfl, hcap, hmx, hnil, hcells⟩ := r6
 simp only [Tryz.ntmps148, List.size_toArray, List.length_cons, List.length_nil, Nat.reduceAdd, Nat.reduceSub, Array.replicate_succ, Array.replicate_zero, List.push_toArray, List.append_toArray, List.nil_append, List.cons_append]
 have hW := hb.size
 have hcells : ∀ k, k < sp.length → ∃ b off, ao = some ⟨b, off, none⟩ ∧ b < w.heap.size ∧ N b ∧ ∃ ao' cap', w.cell? ⟨b, off + k, none⟩ = some (.slice ao' (rlAt sp k).length cap') ∧ RelF w N (.sl 2 (rlAt sp k).length (rgsC (rlAt sp k))) (.slice ao' (rlAt sp k).length cap') := by
  intro k hk
  obtain ⟨b, off, e1, e2, e3, e4⟩ := hcells (by omega)
  obtain ⟨x, x1, x2⟩ := e4 k 0 hk (by omega)
  obtain ⟨ao', cap', y1, y2⟩ := id x2
  rw [Nat.mul_one, Nat.add_zero, y1] at x1
  rw [y1] at x2
  exact ⟨b, off, e1, e2, e3, ao', cap', x1, x2⟩
 have HC := hid hcells
 have HY := hid hY
 have HSP := hid hsp
 have HJ := hid hJ
 have HG := hid hgJ
 clear hcells hY hsp hJ hgJ hgX hJx r0 r1 r2 r3 r4 r5 hcap hmx hnil hv hv0 hv1 hv2 hv3 hv4 hv5 hv6
 gi_wp2
 gi_loopw [10] (fun i wr => ∃ k : Nat, k ≤ sp.length ∧ i = .int .i64 k ∧ J k wr ∧ W.heap.size ≤ wr.heap.size ∧ Hid (∀ b, b < w.heap.size → N b → wr.heap[b]? = W.heap[b]?)) (fun i _ => sp.length - (intOf i).toNat)
 case atStart => exact ⟨0, Nat.zero_le _, rfl, HJ.out 0 W _ none h0 (below_grown ((Below.refl _ _).alloc (Nat.le_refl _) _)) (fun r e => by cases e), by simp, hid fun b hb0 _ => Below.heap_alloc _ _ _ (by omega)⟩
 case round =>
  obtain ⟨k, hk, rfl, hJs, hsz, HK⟩ := hrel
  by_cases hlt : k < sp.length
  ·obtain ⟨b, off, rfl, hb1, hN1, ao', cap', hc, hrl⟩ := HC.out k hlt
   have hcx : wr.cell? ⟨b, off + k, none⟩ = some (.slice ao' (rlAt sp k).length cap') := (World.cell?_of_block (w := w) (a := ⟨b, off + k, none⟩) ((HK.out b hb1 hN1).trans (hb.block b hb1))).trans hc
   have HR := hid hrl
   clear hrl hc
   have hGr := HG.out k wr hJs
   obtain ⟨s1, s2, s3⟩ := HSP.out k hlt
   have HCOM : Hid (Calls Tryz.prog 102 #[.slice ao' (rlAt sp k).length cap'] wr fun e w' => e = .returned (.agg #[.int .i64 (comm (rlAt sp k)).lo, .int .i64 (comm (rlAt sp k)).hi]) ∧ Below wr.heap.size wr w') := by
    refine hid (((ok_flash_common [.t (.c (.sl 2 (rlAt sp k).length (rgsC (rlAt sp k))))] _ _ _ rfl ⟨numsP_rgs _, by rw [rgs_listC]; omega, by rw [rgs_listC]; omega⟩).2 wr N [.slice ao' (rlAt sp k).length cap'] hGr ⟨RelF.mono (by omega) (fun b hb0 hlt0 off => World.cell?_of_block (w := w) (a := ⟨b, off, none⟩) ((HK.out b hlt0 hb0).trans (hb.block b hlt0))) (fun b hb0 _ => hb0) _ HR.out, trivial⟩).mono ?_)
    rintro e w' ⟨v, rfl, hr, hbl⟩
    rw [rgs_listC] at hr
    obtain ⟨us, rfl, t1⟩ := hr
    obtain ⟨x0, us0, rfl, t2, t3⟩ := t1.cons_inv
    obtain ⟨x1, us1, rfl, t4, t5⟩ := t3.cons_inv
    obtain rfl := t5.nil_inv
    obtain ⟨rfl, _⟩ := t2
    obtain ⟨rfl, _⟩ := t4
    exact ⟨rfl, hbl⟩
   gi_wp2
   refine ⟨trivial, rfl, callsIn_wide.2 (HCOM.out.mono ?_)⟩
   rintro _ w1 ⟨rfl, hb1'⟩
   have cr := comm_rg (K := 2000000000) s1 (fun g hg => by have := s3 g hg; omega)
   have hsv : sprF sp k = max 0 ((comm (rlAt sp k)).lo - (comm (rlAt sp k)).hi) := rfl
   have HSV := hid hsv
   obtain ⟨lo, elo⟩ : ∃ lo, lo = (comm (rlAt sp k)).lo := ⟨_, rfl⟩
   obtain ⟨hi, ehi⟩ : ∃ hi, hi = (comm (rlAt sp k)).hi := ⟨_, rfl⟩
   rw [← elo, ← ehi] at cr hsv ⊢
   have HE := hid hsv
   have hw : wrap64 (lo - hi) = lo - hi := IntWalk.wrap64_in _ (by omega)
   clear elo ehi HSV HCOM hsv s3
   have HYK : ∀ W1, J k W1 → ∀ m, m = sprF sp k → YieldAt Fence.wide 0 Tryz.prog l #[.int .i64 (k : Int), .int .i64 m] W1 fun e W' => (e = .returned (.bool true) ∧ J (k + 1) W' ∧ W1.heap.size ≤ W'.heap.size ∧ ∀ b, b < w.heap.size → N b → W'.heap[b]? = W1.heap[b]?) ∨ (e = .returned (.bool false) ∧ Jx () W') := fun W1 h1 m hm => by
    subst hm
    exact HY.out k W1 hlt h1
   have HYK := hid HYK
   have hJ1 : Hid (J k (w1.alloc (Obj.cells #[Value.int IntKind.i64 lo, Value.int IntKind.i64 hi] 94))) := hid (HJ.out k wr _ none hJs (below_grown (hb1'.alloc hb1'.size _)) (fun r e => by cases e))
   by_cases hpos : 0 < lo - hi
   ·obtain ⟨fn, tmps, assign, body, hy, hR⟩ := HYK.out _ hJ1.out (lo - hi) (by rw [HE.out]; omega)
    gi_wp2
    refine ⟨rfl, hR.mono ?_⟩
    rintro e W3 (⟨rfl, hJ3, hs3, hk3⟩ | ⟨rfl, hJx3⟩)
    ·gi_wp2
     go_roundw
     case rel =>
      refine ⟨k + 1, by omega, by simp, hJ3, ?_, hid fun b0 hb0 hN0 => ?_⟩
      ·have := hb1'.size
       rw [World.size_alloc] at hs3
       omega
      ·have h1 := hb1'.size
       rw [hk3 b0 hb0 hN0, Below.heap_alloc _ _ _ (by omega), hb1'.block b0 (by omega), HK.out b0 hb0 hN0]
     case measure => simp [intOf]; omega
    ·gi_wp2
     refine bodyPost_ret (results_none rfl _ _ _) rfl ?_
     exact ⟨⟨_, rfl⟩, .inr hJx3⟩
   ·obtain ⟨fn, tmps, assign, body, hy, hR⟩ := HYK.out _ hJ1.out 0 (by rw [HE.out]; omega)
    gi_wp2
    refine ⟨rfl, hR.mono ?_⟩
    rintro e W3 (⟨rfl, hJ3, hs3, hk3⟩ | ⟨rfl, hJx3⟩)
    ·gi_wp2
     go_roundw
     case rel =>
      refine ⟨k + 1, by omega, by simp, hJ3, ?_, hid fun b0 hb0 hN0 => ?_⟩
      ·have := hb1'.size
       rw [World.size_alloc] at hs3
       omega
      ·have h1 := hb1'.size
       rw [hk3 b0 hb0 hN0, Below.heap_alloc _ _ _ (by omega), hb1'.block b0 (by omega), HK.out b0 hb0 hN0]
     case measure => simp [intOf]; omega
    ·gi_wp2
     refine bodyPost_ret (results_none rfl _ _ _) rfl ?_
     exact ⟨⟨_, rfl⟩, .inr hJx3⟩
  ·obtain rfl : k = sp.length := by omega
   gi_wp2
   go_end0
   exact ⟨⟨_, rfl⟩, .inl hJs⟩
end Go.Proofs.YtdkpgodakmailaaGreatDoor
set_option linter.unusedVariables false
set_option linter.unusedSimpArgs false
namespace Go.Proofs.YtdkpgodakmailaaGreatDoor
open Go.RowKit Ev
def spOk (sp : List (List Rg)) : Prop := sp.length ≤ 1000 ∧ ∀ k, k < sp.length → 0 < (rlAt sp k).length ∧ (rlAt sp k).length ≤ 8 ∧ ∀ g ∈ rlAt sp k, -2000000000 ≤ g.lo ∧ g.lo ≤ 2000000000 ∧ -2000000000 ≤ g.hi ∧ g.hi ≤ 2000000000
def con_spreads : ItC := fun l => match l with
 | [.sl 7 n_l c_l, .v (.int .i64 g0), .v (.int .i64 g1), .v (.int .i64 g2), .v (.int .i64 g3), .v (.int .i64 g4), .sl 1 n_sp c_sp] => some ⟨(rlOf n_sp c_sp).length, 2, sprY (rlOf n_sp c_sp), some (rlP n_sp c_sp ∧ spOk (rlOf n_sp c_sp)), true, none, none⟩
 | _ => none
theorem ok_spreads : OkIt Tryz.prog 148 con_spreads := by
 intro l R h hp
 unfold con_spreads at h
 split at h
 ·rename_i n_l c_l g0 g1 g2 g3 g4 n_sp c_sp
  cases h
  obtain ⟨hp0, hp1, hp2⟩ := hp
  refine ⟨Enters.of (fn := Tryz.f148) (by kernel_rfl) (by kernel_rfl) (by kernel_rfl), fun i _ => ⟨rfl, rfl⟩, fun w N vs hv => ?_⟩
  obtain ⟨v0, us0, rfl, r0, hv0⟩ := hv.cons_inv
  obtain ⟨v1, us1, rfl, r1, hv1⟩ := hv0.cons_inv
  obtain ⟨v2, us2, rfl, r2, hv2⟩ := hv1.cons_inv
  obtain ⟨v3, us3, rfl, r3, hv3⟩ := hv2.cons_inv
  obtain ⟨v4, us4, rfl, r4, hv4⟩ := hv3.cons_inv
  obtain ⟨v5, us5, rfl, r5, hv5⟩ := hv4.cons_inv
  obtain ⟨v6, us6, rfl, r6, hv6⟩ := hv5.cons_inv
  obtain rfl := hv6.nil_inv
  exact (seq_spreads w N [v0, v1, v2, v3, v4, v5, v6] (rlOf n_sp c_sp) _ _ _ _ _ _ (.v (.int .i64 0)) hp2 hp1 ⟨r0, r1, r2, r3, r4, r5, leL_LRg hp0 w N v6 r6, trivial⟩).weak fun A B h => h.1
 ·cases h
def I1 : It := addI noIt 148 con_spreads
theorem VI1 : ValidIt Tryz.prog I1 := ValidIt.add ValidIt.no ok_spreads
end Go.Proofs.YtdkpgodakmailaaGreatDoor
set_option linter.unusedVariables false
set_option linter.unusedSimpArgs false
namespace Go.Proofs.YtdkpgodakmailaaGreatDoor
open Go.RowKit Ev
theorem spOk_opn {l : List FHit} {x : Lat} (h : bothE l x = 0) : spOk (opnS l x) := by
 obtain ⟨h1, h2⟩ := fn2 (show firstNZ [hitsE l, latE x] = 0 from h)
 obtain ⟨⟨z1, z2⟩, z3⟩ := hitsE_ok h1
 have hz := sz_rg h2
 rw [show opnS l x = _ from if_pos h]
 have hl : ((allP x).map (sts l)).length = x.sz.toNat := by rw [List.length_map, allP_len]
 refine ⟨by omega, fun k hk => ?_⟩
 rw [hl] at hk
 have e : rlAt ((allP x).map (sts l)) k = sts l (posAt x k) := by
  rw [rlAt_lt (by omega), List.getElem_map]
  congr 1
  simp [allP]
 rw [e, sts_len]
 refine ⟨z1, z2, fun g hg => ?_⟩
 obtain ⟨a, ha, rfl⟩ := List.mem_map.1 hg
 obtain ⟨i, hi, rfl⟩ := List.getElem_of_mem ha
 obtain ⟨b1, b2, _⟩ := hit_ok (z3 i hi)
 rw [show hitAt l i = l[i] by simp [hitAt, List.getD, hi]] at b1 b2
 have dd := dly_rg (posAt_bd h2 (show (0 : Int) ≤ (k : Int) by omega) (by omega)) (b1.mono (B := 15000) (by decide))
 unfold stR
 simp only
 omega
end Go.Proofs.YtdkpgodakmailaaGreatDoor
set_option linter.unusedVariables false
set_option linter.unusedSimpArgs false
namespace Go.Proofs.YtdkpgodakmailaaGreatDoor
open Go.RowKit Ev
def vtxK (sp : List (List Rg)) (k : Nat) : List Int := ((List.range k).filter fun i => sprF sp i == 0).map fun i : Nat => (i : Int)
theorem vtxK_succ (sp : List (List Rg)) (k : Nat) : vtxK sp (k + 1) = vtxK sp k ++ (if (sprF sp k == 0) = true then [(k : Int)] else []) := by
 unfold vtxK
 rw [List.range_succ, List.filter_append, List.map_append]
 congr 1
 rw [List.filter_cons]
 cases (sprF sp k == 0) <;> rfl
theorem vtxK_len (sp : List (List Rg)) (k : Nat) : (vtxK sp k).length ≤ k := by
 unfold vtxK
 rw [List.length_map]
 have := List.length_filter_le (fun i => sprF sp i == 0) (List.range k)
 rwa [List.length_range] at this
def vtxL (sp : List (List Rg)) : List Int := vtxK sp sp.length
def vtxO (l : List FHit) (x : Lat) : List Int := if bothE l x = 0 then vtxL (opnS l x) else []
def mk_cherenkov_flash_search_vertices_0 (l : List FHit) (g0 g1 g2 g3 g4 : Int) (sp : List (List Rg)) (v0_0 : List Int) : DS := ⟨[none, none, none, some (.t (.c (.p 3 0))), none, none, none, some (.t (.fb 148 [.sl 7 l.length (hitsC l), .v (.int .i64 g0), .v (.int .i64 g1), .v (.int .i64 g2), .v (.int .i64 g3), .v (.int .i64 g4), .sl 1 sp.length (rlsC sp)])), none, none, none, none, none, none, none, none, none], [some (.num 3 .i64 v0_0), none, none, some (.box 23 [.os 0]), none, none, none, none, none, none, none, none, none, none, none, none, none]⟩
def vc_cherenkov_flash_search_vertices (J : Inv) (l : List FHit) (g0 g1 g2 g3 g4 : Int) (sp : List (List Rg)) (post : DV → Row → Prop) : Prop := (rlP sp.length (rlsC sp) ∧ spOk (rlOf (sp.length) (rlsC sp))) ∧ (J 0 [0] (mk_cherenkov_flash_search_vertices_0 l g0 g1 g2 g3 g4 sp ([])))
def ann_cherenkov_flash_search_vertices : Ann := ⟨fun _ => none, fun b => lookA b [(0, (none, some ⟨[3, 7], [3], []⟩))], fun b => (lookA b [(0, [(3, 0, 0, .num 3 .i64 ([]))])]).getD [], I1, false, fun _ => none, fun _ => none⟩
theorem ev_cherenkov_flash_search_vertices (J : Inv) (l : List FHit) (g0 g1 g2 g3 g4 : Int) (sp : List (List Rg)) (post : DV → Row → Prop) : evFnO Tryz.prog tab Su106 ann_cherenkov_flash_search_vertices J Tryz.f101 [.t (.a [.sl 7 l.length (hitsC l), .v (.int .i64 g0), .v (.int .i64 g1), .v (.int .i64 g2), .v (.int .i64 g3), .v (.int .i64 g4), .sl 1 sp.length (rlsC sp)])] post = vc_cherenkov_flash_search_vertices J l g0 g1 g2 g3 g4 sp post := by kernel_rfl
theorem fit_cherenkov_flash_search_vertices : okFn ann_cherenkov_flash_search_vertices Tryz.f101 = true := by kernel_rfl
def rd_cherenkov_flash_search_vertices_0 (J : Inv) (l : List FHit) (g0 g1 g2 g3 g4 : Int) (sp : List (List Rg)) (v0_0 : List Int) (nn0 : Nat) (post : DV → Row → Prop) : Prop := (nn0 = (rlOf (sp.length) (rlsC sp)).length → post (.t (.c (.os 0))) (.num 3 .i64 v0_0)) ∧ (nn0 < (rlOf (sp.length) (rlsC sp)).length → cond ((sprF (rlOf (sp.length) (rlsC sp)) nn0) == (0 : Int)) (((IntKind.i64 = IntKind.i64 ∧ True) ∧ roomP 8 (v0_0.length + ([((nn0 : Nat) : Int)] : List Int).length)) ∧ (((some (.t (.fb 148 [.sl 7 l.length (hitsC l), .v (.int .i64 g0), .v (.int .i64 g1), .v (.int .i64 g2), .v (.int .i64 g3), .v (.int .i64 g4), .sl 1 sp.length (rlsC sp)])) : Option DV) = some (.t (.fb 148 [.sl 7 l.length (hitsC l), .v (.int .i64 g0), .v (.int .i64 g1), .v (.int .i64 g2), .v (.int .i64 g3), .v (.int .i64 g4), .sl 1 sp.length (rlsC sp)]))) ∧ J 0 [nn0 + 1] (mk_cherenkov_flash_search_vertices_0 l g0 g1 g2 g3 g4 sp (v0_0 ++ ([((nn0 : Nat) : Int)]))))) (((some (.t (.fb 148 [.sl 7 l.length (hitsC l), .v (.int .i64 g0), .v (.int .i64 g1), .v (.int .i64 g2), .v (.int .i64 g3), .v (.int .i64 g4), .sl 1 sp.length (rlsC sp)])) : Option DV) = some (.t (.fb 148 [.sl 7 l.length (hitsC l), .v (.int .i64 g0), .v (.int .i64 g1), .v (.int .i64 g2), .v (.int .i64 g3), .v (.int .i64 g4), .sl 1 sp.length (rlsC sp)]))) ∧ J 0 [nn0 + 1] (mk_cherenkov_flash_search_vertices_0 l g0 g1 g2 g3 g4 sp v0_0)))
theorem er_cherenkov_flash_search_vertices_0 (J : Inv) (l : List FHit) (g0 g1 g2 g3 g4 : Int) (sp : List (List Rg)) (v0_0 : List Int) (nn0 : Nat) (post : DV → Row → Prop) : roundO Tryz.prog tab Su106 ann_cherenkov_flash_search_vertices J Tryz.f101 post 0 (nn0 :: []) (mk_cherenkov_flash_search_vertices_0 l g0 g1 g2 g3 g4 sp v0_0) = rd_cherenkov_flash_search_vertices_0 J l g0 g1 g2 g3 g4 sp v0_0 nn0 post := by kernel_rfl
theorem lp_cherenkov_flash_search_vertices (J : Inv) (post : DV → Row → Prop) : AllG J (loopsFnO Tryz.prog tab Su106 ann_cherenkov_flash_search_vertices J Tryz.f101 post) = ((∀ i s, J 0 [i] s → roundO Tryz.prog tab Su106 ann_cherenkov_flash_search_vertices J Tryz.f101 post 0 [i] s) ∧ True) := by kernel_rfl
def J_cherenkov_flash_search_vertices (l : List FHit) (g0 g1 g2 g3 g4 : Int) (sp : List (List Rg)) : Inv := fun b F s => match b, F with
 | 0, [nn0] => ∃ (v0_0 : List Int), s = mk_cherenkov_flash_search_vertices_0 l g0 g1 g2 g3 g4 sp v0_0 ∧ (spOk sp ∧ nn0 ≤ sp.length ∧ v0_0 = vtxK sp nn0)
 | _, _ => False
theorem rnd_cherenkov_flash_search_vertices_0 (l : List FHit) (g0 g1 g2 g3 g4 : Int) (sp : List (List Rg)) (v0_0 : List Int) (nn0 : Nat) (hp : spOk sp) (hi : spOk sp ∧ nn0 ≤ sp.length ∧ v0_0 = vtxK sp nn0) : rd_cherenkov_flash_search_vertices_0 (J_cherenkov_flash_search_vertices l g0 g1 g2 g3 g4 sp) l g0 g1 g2 g3 g4 sp v0_0 nn0 (fun r' R' => r' = (.t (.c (.os 0))) ∧ R' = (.num 3 .i64 (vtxL sp))) := by
 obtain ⟨i0, i1, i2⟩ := hi
 have hl := vtxK_len sp nn0
 have h1 := i0.1
 unfold rd_cherenkov_flash_search_vertices_0
 simp only [rls_of]
 refine ⟨fun h => ?_, fun h => cond_i (fun e => ⟨⟨by trivial, ?_⟩, by trivial, _, rfl, i0, by omega, ?_⟩) (fun e => ⟨by trivial, _, rfl, i0, by omega, ?_⟩)⟩
 ·subst h
  subst i2
  exact ⟨by trivial, rfl⟩
 ·rw [i2]; unfold roomP maxLen; simp; omega
 ·rw [vtxK_succ, i2, if_pos e]
 ·rw [vtxK_succ, i2, if_neg (by rw [e]; simp), List.append_nil]
theorem spec_cherenkov_flash_search_vertices (l : List FHit) (g0 g1 g2 g3 g4 : Int) (sp : List (List Rg)) (hp : spOk sp) : vc_cherenkov_flash_search_vertices (J_cherenkov_flash_search_vertices l g0 g1 g2 g3 g4 sp) l g0 g1 g2 g3 g4 sp (fun r' R' => r' = (.t (.c (.os 0))) ∧ R' = (.num 3 .i64 (vtxL sp))) := by
 unfold vc_cherenkov_flash_search_vertices
 rw [rls_of]
 exact ⟨⟨rlP_rls sp, hp⟩, _, rfl, hp, Nat.zero_le _, rfl⟩
theorem all_cherenkov_flash_search_vertices (l : List FHit) (g0 g1 g2 g3 g4 : Int) (sp : List (List Rg)) (hp : spOk sp) : AllG (J_cherenkov_flash_search_vertices l g0 g1 g2 g3 g4 sp) (loopsFnO Tryz.prog tab Su106 ann_cherenkov_flash_search_vertices (J_cherenkov_flash_search_vertices l g0 g1 g2 g3 g4 sp) Tryz.f101 (fun r' R' => r' = (.t (.c (.os 0))) ∧ R' = (.num 3 .i64 (vtxL sp)))) := by
 rw [lp_cherenkov_flash_search_vertices]
 refine ⟨?_, trivial⟩
 ·intro i s h
  obtain ⟨w0, rfl, hi⟩ := h
  rw [er_cherenkov_flash_search_vertices_0]
  exact rnd_cherenkov_flash_search_vertices_0 l g0 g1 g2 g3 g4 sp _ _ hp hi
def con_cherenkov_flash_search_vertices : Con := fun args => match args with
 | [.t (.a [.sl 7 n_l c_l, .v (.int .i64 g0), .v (.int .i64 g1), .v (.int .i64 g2), .v (.int .i64 g3), .v (.int .i64 g4), .sl 1 n_sp c_sp])] => some (.t (.c (.os 0)), some (numsP 7 n_l c_l ∧ rlP n_sp c_sp ∧ spOk (rlOf n_sp c_sp)), .own (.num 3 .i64 (vtxL (rlOf n_sp c_sp))))
 | _ => none
theorem ok_cherenkov_flash_search_vertices : Ok Tryz.prog 101 con_cherenkov_flash_search_vertices := by
 refine Ok.fnO (ann := ann_cherenkov_flash_search_vertices) mixed tabOK VSu106 VI1 (fn := Tryz.f101) (by kernel_rfl) (by kernel_rfl) fit_cherenkov_flash_search_vertices fun args r pre fresh h hp => ?_
 unfold con_cherenkov_flash_search_vertices at h
 split at h
 ·rename_i n_l c_l g0 g1 g2 g3 g4 n_sp c_sp
  cases h
  obtain ⟨hp0, hp1, hp⟩ := hp
  refine ⟨_, rfl, trivial, J_cherenkov_flash_search_vertices (listC n_l mkHit c_l) g0 g1 g2 g3 g4 (rlOf n_sp c_sp), [.t (.a [.sl 7 ((listC n_l mkHit c_l).length) (hitsC (listC n_l mkHit c_l)), .v (.int .i64 g0), .v (.int .i64 g1), .v (.int .i64 g2), .v (.int .i64 g3), .v (.int .i64 g4), .sl 1 ((rlOf n_sp c_sp).length) (rlsC (rlOf n_sp c_sp))])], ?_, Nat.le_of_ble_eq_true (by kernel_rfl), ?_, ?_⟩
  ·exact (LeA_cons (leT_a (LeCs.cons ((leL_FHit hp0)) (LeCs.cons (LeC1.refl _) (LeCs.cons (LeC1.refl _) (LeCs.cons (LeC1.refl _) (LeCs.cons (LeC1.refl _) (LeCs.cons (LeC1.refl _) (LeCs.cons ((leL_LRg hp1)) LeCs.nil)))))))) LeA_nil)
  ·rw [ev_cherenkov_flash_search_vertices]; exact spec_cherenkov_flash_search_vertices (listC n_l mkHit c_l) g0 g1 g2 g3 g4 (rlOf n_sp c_sp) hp
  ·exact all_cherenkov_flash_search_vertices (listC n_l mkHit c_l) g0 g1 g2 g3 g4 (rlOf n_sp c_sp) hp
 ·cases h
noncomputable def Sx107 : Sum := addS Su106 101 con_cherenkov_flash_search_vertices
theorem VSx107 : Valid Tryz.prog Sx107 := Valid.add VSu106 ok_cherenkov_flash_search_vertices
def vc_flash_VerticesOf (l : List FHit) (g0 g1 g2 g3 g4 : Int) (post : DV → Prop) : Prop := (numsP 7 l.length (hitsC l)) ∧ (cond ((bothE (listC l.length mkHit (hitsC l)) (⟨⟨g0, g1, g2⟩, g3, g4⟩ : Lat)) != (0 : Int)) (post (.tu [.c (.v (.slice none 0 0)), .c (.v (.int .i64 (bothE (listC l.length mkHit (hitsC l)) (⟨⟨g0, g1, g2⟩, g3, g4⟩ : Lat))))])) ((numsP 7 ((opnH (listC l.length mkHit (hitsC l)) (⟨⟨g0, g1, g2⟩, g3, g4⟩ : Lat)).length) (hitsC (opnH (listC l.length mkHit (hitsC l)) (⟨⟨g0, g1, g2⟩, g3, g4⟩ : Lat))) ∧ rlP ((opnS (listC l.length mkHit (hitsC l)) (⟨⟨g0, g1, g2⟩, g3, g4⟩ : Lat)).length) (rlsC (opnS (listC l.length mkHit (hitsC l)) (⟨⟨g0, g1, g2⟩, g3, g4⟩ : Lat))) ∧ spOk (rlOf ((opnS (listC l.length mkHit (hitsC l)) (⟨⟨g0, g1, g2⟩, g3, g4⟩ : Lat)).length) (rlsC (opnS (listC l.length mkHit (hitsC l)) (⟨⟨g0, g1, g2⟩, g3, g4⟩ : Lat))))) ∧ (post (.tu [.c (.sl 1 ((vtxL (rlOf ((opnS (listC l.length mkHit (hitsC l)) (⟨⟨g0, g1, g2⟩, g3, g4⟩ : Lat)).length) (rlsC (opnS (listC l.length mkHit (hitsC l)) (⟨⟨g0, g1, g2⟩, g3, g4⟩ : Lat))))).length) (numsC .i64 (vtxL (rlOf ((opnS (listC l.length mkHit (hitsC l)) (⟨⟨g0, g1, g2⟩, g3, g4⟩ : Lat)).length) (rlsC (opnS (listC l.length mkHit (hitsC l)) (⟨⟨g0, g1, g2⟩, g3, g4⟩ : Lat))))))), .c (.v (.int .i64 0))]))))
def ann_flash_VerticesOf : Ann := ⟨fun _ => none, fun _ => none, fun _ => [], I1, true, fun _ => none, fun _ => none⟩
theorem ev_flash_VerticesOf (J : Inv) (l : List FHit) (g0 g1 g2 g3 g4 : Int) (post : DV → Prop) : evFn Tryz.prog tab Sx107 ann_flash_VerticesOf J Tryz.f52 [.t (.c (.sl 7 l.length (hitsC l))), .t (.a [.v (.int .i64 g0), .v (.int .i64 g1), .v (.int .i64 g2), .v (.int .i64 g3), .v (.int .i64 g4)])] post = vc_flash_VerticesOf l g0 g1 g2 g3 g4 post := by kernel_rfl
theorem fit_flash_VerticesOf : okFn ann_flash_VerticesOf Tryz.f52 = true := by kernel_rfl
theorem lp_flash_VerticesOf (J : Inv) (post : DV → Prop) : AllG J (loopsFn Tryz.prog tab Sx107 ann_flash_VerticesOf J Tryz.f52 post) = (True) := by kernel_rfl
theorem spec_flash_VerticesOf (l : List FHit) (g0 g1 g2 g3 g4 : Int) : vc_flash_VerticesOf l g0 g1 g2 g3 g4 (fun r => LeD r (.tu [.c (.sl 1 ((vtxO l (⟨⟨g0, g1, g2⟩, g3, g4⟩ : Lat)).length) (intsC (vtxO l (⟨⟨g0, g1, g2⟩, g3, g4⟩ : Lat)))), .c (.v (.int .i64 (bothE l (⟨⟨g0, g1, g2⟩, g3, g4⟩ : Lat))))])) := by
 unfold vc_flash_VerticesOf
 simp only [hits_listC, rls_of]
 refine ⟨numsP_hits l, cond_i (fun h => ?_) (fun h => ?_)⟩
 ·have h : bothE l (⟨⟨g0, g1, g2⟩, g3, g4⟩ : Lat) ≠ 0 := by simpa using h
  rw [show vtxO l (⟨⟨g0, g1, g2⟩, g3, g4⟩ : Lat) = [] from if_neg h]
  exact le_tu le_nil (LeD.refl _)
 ·have h : bothE l (⟨⟨g0, g1, g2⟩, g3, g4⟩ : Lat) = 0 := by simpa using h
  rw [show vtxO l (⟨⟨g0, g1, g2⟩, g3, g4⟩ : Lat) = _ from if_pos h, h]
  refine ⟨⟨numsP_hits _, rlP_rls _, spOk_opn h⟩, LeD.refl _⟩
def con_flash_VerticesOf : Con := fun args => match args with
 | [.t (.c (.sl 7 n_l c_l)), .t (.a [.v (.int .i64 g0), .v (.int .i64 g1), .v (.int .i64 g2), .v (.int .i64 g3), .v (.int .i64 g4)])] => some (.tu [.c (.sl 1 ((vtxO (listC n_l mkHit c_l) (⟨⟨g0, g1, g2⟩, g3, g4⟩ : Lat)).length) (intsC (vtxO (listC n_l mkHit c_l) (⟨⟨g0, g1, g2⟩, g3, g4⟩ : Lat)))), .c (.v (.int .i64 (bothE (listC n_l mkHit c_l) (⟨⟨g0, g1, g2⟩, g3, g4⟩ : Lat))))], some (numsP 7 n_l c_l), true)
 | _ => none
theorem ok_flash_VerticesOf : Ok Tryz.prog 52 con_flash_VerticesOf := by
 refine Ok.fnFr (ann := ann_flash_VerticesOf) mixed tabOK VSx107 VI1 rfl (fn := Tryz.f52) (by kernel_rfl) (by kernel_rfl) fit_flash_VerticesOf fun args r pre fresh h hp => ?_
 unfold con_flash_VerticesOf at h
 split at h
 ·rename_i n_l c_l g0 g1 g2 g3 g4
  cases h
  have hp0 := hp
  refine ⟨rfl, (by intro x hx; simp only [List.mem_cons, List.not_mem_nil, or_false] at hx; rcases hx with rfl | rfl; exact (fun i j _ hj => plain_int _ i j); exact trivial), fun _ _ _ => False, [.t (.c (.sl 7 ((listC n_l mkHit c_l).length) (hitsC (listC n_l mkHit c_l)))), .t (.a [.v (.int .i64 g0), .v (.int .i64 g1), .v (.int .i64 g2), .v (.int .i64 g3), .v (.int .i64 g4)])], ?_, Nat.le_of_ble_eq_true (by kernel_rfl), ?_, ?_⟩
  ·exact (LeA_cons (leT_c ((leL_FHit hp0))) (LeA_cons (LeD.refl _) LeA_nil))
  ·rw [ev_flash_VerticesOf]; exact spec_flash_VerticesOf (listC n_l mkHit c_l) g0 g1 g2 g3 g4
  ·rw [lp_flash_VerticesOf]; trivial
 ·cases h
noncomputable def Sx108 : Sum := addS Sx107 52 con_flash_VerticesOf
theorem VSx108 : Valid Tryz.prog Sx108 := Valid.add VSx107 ok_flash_VerticesOf
end Go.Proofs.YtdkpgodakmailaaGreatDoor
set_option linter.unusedVariables false
set_option linter.unusedSimpArgs false
namespace Go.Proofs.YtdkpgodakmailaaGreatDoor
open Go.RowKit Ev
end Go.Proofs.YtdkpgodakmailaaGreatDoor
set_option linter.unusedVariables false
set_option linter.unusedSimpArgs false
namespace Go.Proofs.YtdkpgodakmailaaGreatDoor
open Go.RowKit Ev
def spd (l : List FHit) (p : P3) : Int := max 0 ((tms l p).lo - (tms l p).hi)
def allS (l : List FHit) (x : Lat) : List (List Rg) := (allP x).map (sts l)
theorem allS_len {l : List FHit} {x : Lat} : (allS l x).length = x.sz.toNat := by rw [allS, List.length_map, allP_len]
theorem rlAt_all {l : List FHit} {x : Lat} {k : Nat} (hk : k < x.sz.toNat) : rlAt (allS l x) k = sts l (posAt x k) := by
 unfold allS
 rw [rlAt_lt (by rw [List.length_map, allP_len]; exact hk), List.getElem_map]
 congr 1
 simp [allP]
theorem sprF_all {l : List FHit} {x : Lat} {k : Nat} (hk : k < x.sz.toNat) : sprF (allS l x) k = spd l (posAt x k) := by
 unfold sprF
 rw [rlAt_all hk]; rfl
theorem opnS_all {l : List FHit} {x : Lat} (h : bothE l x = 0) : opnS l x = allS l x := if_pos h
def vtxR (l : List FHit) (x : Lat) : List Int := vtxL (allS l x)
theorem vtxO_R {l : List FHit} {x : Lat} (h : bothE l x = 0) : vtxO l x = vtxR l x := by
 rw [show vtxO l x = _ from if_pos h, opnS_all h]; rfl
theorem spd_0 {l : List FHit} {p : P3} : spd l p = 0 ↔ (tms l p).lo ≤ (tms l p).hi := by unfold spd; omega
theorem mem_vtxR {l : List FHit} {x : Lat} {i : Int} : i ∈ vtxR l x ↔ ∃ k : Nat, i = k ∧ k < x.sz.toNat ∧ (tms l (posAt x k)).lo ≤ (tms l (posAt x k)).hi := by
 unfold vtxR vtxL vtxK
 rw [allS_len]
 constructor
 ·intro h
  obtain ⟨k, hk, rfl⟩ := List.mem_map.1 h
  obtain ⟨h1, h2⟩ := List.mem_filter.1 hk
  have h1 := List.mem_range.1 h1
  rw [sprF_all h1] at h2
  exact ⟨k, rfl, h1, spd_0.1 (by simpa using h2)⟩
 ·rintro ⟨k, rfl, h1, h2⟩
  refine List.mem_map.2 ⟨k, List.mem_filter.2 ⟨List.mem_range.2 h1, ?_⟩, rfl⟩
  rw [sprF_all h1, spd_0.2 h2]; rfl
theorem vtxR_len (l : List FHit) (x : Lat) : (vtxR l x).length ≤ x.sz.toNat := by
 have := vtxK_len (allS l x) (allS l x).length
 rw [allS_len] at this
 unfold vtxR vtxL
 rwa [allS_len]
structure Bx6 where
 (x y z : Rg)
def Bx6.zero : Bx6 := ⟨⟨0, 0⟩, ⟨0, 0⟩, ⟨0, 0⟩⟩
theorem mdF_rg {c : Int} (hc : 0 < c ∧ c ≤ 1000) (a : Int) : 0 ≤ mdF a c ∧ mdF a c < c := by
 have h1 := Int.tmod_lt_of_pos a hc.1
 have h2 : -c < Int.tmod a c := by
  have := Int.tmod_lt_of_pos (-a) hc.1
  rw [Int.neg_tmod] at this
  omega
 unfold mdF
 split
 ·rw [wi (by omega)]; omega
 ·omega
theorem err_t {h : FHit} {c : Rg} (e : h.err = 0) (hc : 0 ≤ c.lo ∧ c.lo ≤ c.hi ∧ c.hi ≤ 1000000000) : (⟨h.p, c, h.c⟩ : FHit).err = 0 := by
 obtain ⟨b1, b2, b3⟩ := hit_ok e
 unfold FHit.err rgIn rgE
 simp only
 rw [posE_0.2 b1, (unl_0 (by decide)).2 (show (inB c.lo 0 1000000000 && inB c.hi 0 1000000000 && (inB h.c.lo 0 1000000 && inB h.c.hi 0 1000000)) = true by simp only [Bool.and_eq_true, inB_true]; omega), (unl_0 (by decide)).2 (decide_eq_true hc.2.1), (unl_0 (by decide)).2 (decide_eq_true b3.2.1)]
 rfl
end Go.Proofs.YtdkpgodakmailaaGreatDoor
set_option linter.unusedVariables false
set_option linter.unusedSimpArgs false
namespace Go.Proofs.YtdkpgodakmailaaGreatDoor
open Go.RowKit Ev
end Go.Proofs.YtdkpgodakmailaaGreatDoor
set_option linter.unusedVariables false
set_option linter.unusedSimpArgs false
namespace Go.Proofs.YtdkpgodakmailaaGreatDoor
open Go.RowKit Ev
theorem plAt_all {x : Lat} {k : Nat} (hk : k < x.sz.toNat) : plAt (allP x) k = posAt x k := by
 simp only [plAt, allP, List.getD, List.getElem?_map, List.getElem?_range hk, Option.map_some, Option.getD_some]
theorem lt_v {α : Type} {v : α} {k : α → Prop} : lt v k = k v := by unfold lt; rfl
def vc_ref06_BothErr (l : List FHit) (g0 g1 g2 g3 g4 : Int) (post : DV → Prop) : Prop := (numsP 7 l.length (hitsC l)) ∧ (cond ((hitsE (listC l.length mkHit (hitsC l))) != (0 : Int)) (post (.t (.c (.v (.int .i64 (hitsE (listC l.length mkHit (hitsC l)))))))) (post (.t (.c (.v (.int .i64 (latE (⟨⟨g0, g1, g2⟩, g3, g4⟩ : Lat))))))))
def ann_ref06_BothErr : Ann := ⟨fun _ => none, fun _ => none, fun _ => [], I1, false, fun _ => none, fun _ => none⟩
theorem ev_ref06_BothErr (J : Inv) (l : List FHit) (g0 g1 g2 g3 g4 : Int) (post : DV → Prop) : evFn Tryz.prog tab Sx108 ann_ref06_BothErr J Tryz.f40 [.t (.c (.sl 7 l.length (hitsC l))), .t (.a [.v (.int .i64 g0), .v (.int .i64 g1), .v (.int .i64 g2), .v (.int .i64 g3), .v (.int .i64 g4)])] post = vc_ref06_BothErr l g0 g1 g2 g3 g4 post := by kernel_rfl
theorem fit_ref06_BothErr : okFn ann_ref06_BothErr Tryz.f40 = true := by kernel_rfl
theorem lp_ref06_BothErr (J : Inv) (post : DV → Prop) : AllG J (loopsFn Tryz.prog tab Sx108 ann_ref06_BothErr J Tryz.f40 post) = (True) := by kernel_rfl
theorem spec_ref06_BothErr (l : List FHit) (g0 g1 g2 g3 g4 : Int) : vc_ref06_BothErr l g0 g1 g2 g3 g4 (fun r => LeD r (.t (.c (.v (.int .i64 (bothE l (⟨⟨g0, g1, g2⟩, g3, g4⟩ : Lat))))))) := by
 unfold vc_ref06_BothErr
 simp only [hits_listC]
 refine ⟨numsP_hits l, cond_i (fun h => leI ?_) (fun h => leI ?_)⟩
 ·have h : hitsE l ≠ 0 := by simpa using h
  simp [bothE, firstNZ, h]
 ·have h : hitsE l = 0 := by simpa using h
  unfold bothE
  rw [h]
  by_cases e : latE (⟨⟨g0, g1, g2⟩, g3, g4⟩ : Lat) = 0
  ·rw [e]; rfl
  ·simp [firstNZ, e]
def con_ref06_BothErr : Con := fun args => match args with
 | [.t (.c (.sl 7 n_l c_l)), .t (.a [.v (.int .i64 g0), .v (.int .i64 g1), .v (.int .i64 g2), .v (.int .i64 g3), .v (.int .i64 g4)])] => some (.t (.c (.v (.int .i64 (bothE (listC n_l mkHit c_l) (⟨⟨g0, g1, g2⟩, g3, g4⟩ : Lat))))), some (numsP 7 n_l c_l), false)
 | _ => none
theorem ok_ref06_BothErr : Ok Tryz.prog 40 con_ref06_BothErr := by
 refine Ok.fn (ann := ann_ref06_BothErr) mixed tabOK VSx108 VI1 (fn := Tryz.f40) (by kernel_rfl) (by kernel_rfl) fit_ref06_BothErr fun args r pre fresh h hp => ?_
 unfold con_ref06_BothErr at h
 split at h
 ·rename_i n_l c_l g0 g1 g2 g3 g4
  cases h
  have hp0 := hp
  refine ⟨rfl, fun _ _ _ => False, [.t (.c (.sl 7 ((listC n_l mkHit c_l).length) (hitsC (listC n_l mkHit c_l)))), .t (.a [.v (.int .i64 g0), .v (.int .i64 g1), .v (.int .i64 g2), .v (.int .i64 g3), .v (.int .i64 g4)])], ?_, Nat.le_of_ble_eq_true (by kernel_rfl), ?_, ?_⟩
  ·exact (LeA_cons (leT_c ((leL_FHit hp0))) (LeA_cons (LeD.refl _) LeA_nil))
  ·rw [ev_ref06_BothErr]; exact spec_ref06_BothErr (listC n_l mkHit c_l) g0 g1 g2 g3 g4
  ·rw [lp_ref06_BothErr]; trivial
 ·cases h
noncomputable def Sz109 : Sum := addS Sx108 40 con_ref06_BothErr
theorem VSz109 : Valid Tryz.prog Sz109 := Valid.add VSx108 ok_ref06_BothErr
end Go.Proofs.YtdkpgodakmailaaGreatDoor